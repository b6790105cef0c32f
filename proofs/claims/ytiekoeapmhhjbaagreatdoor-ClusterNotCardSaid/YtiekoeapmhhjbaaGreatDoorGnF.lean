/- Part F of the second layer: shifts, bits, half pieces of strings, a byte of a string, a string behind a row of bytes, bytes of a string. -/
import Derived.Test.YtiekoeapmhhjbaaGreatDoorGnE
import Derived.Lib.AppendStr
import Derived.Lib.ConvBytes
namespace Go.Proofs.YtiekoeapmhhjbaaGreatDoor.Sx
open Go Go.RowKit
set_option linter.unusedVariables false
set_option linter.unusedSimpArgs false
section
variable {P : Program} {n : Fm} {Qf : Exit → Act → World → Prop} {k : List It} {e : Env} {w w' w0 : World} {H : List Res} {R R0 : Res} {ζ ζ' : Zp} {ops : Array Oper} {rest : List Oper} {T : TypeId} {pos : String} {af : Array Edge} {d : Nat} {α : Type}
variable {xt yt : TypeId} {x y : Operand}
/-! ### Shifts of whole numbers, by any amount -/
def shlI (a b : Int) : Option Int := if b < 0 then none else some (wr (a * 2 ^ (min b.toNat 64)))
def shrI (a b : Int) : Option Int := if b < 0 then none else some (a.fdiv (2 ^ (min b.toNat 64)))
theorem Ex.shlI {q : IntKind} {a b r : Int} (h : shlI a b = some r) (hx : ev e x = some (vi a)) (hy : ev e y = some (.int q b)) : Ex P e ⟨some d, .binOp .shl xt x y yt, T, pos, af, none⟩ (vi r) := fun c hc w => by
  unfold Sx.shlI at h
  split at h
  · cases h
  · rename_i hb
    cases h
    simp only [execOp, hc _ _ hx, hc _ _ hy, binOp_shl, eqGuard_shl]
    simp [Op.shift, hb, IntKind.bits]
theorem Ex.shrI {q : IntKind} {a b r : Int} (h : shrI a b = some r) (hx : ev e x = some (vi a)) (hy : ev e y = some (.int q b)) : Ex P e ⟨some d, .binOp .shr xt x y yt, T, pos, af, none⟩ (vi r) := fun c hc w => by
  unfold Sx.shrI at h
  split at h
  · cases h
  · rename_i hb
    cases h
    simp only [execOp, hc _ _ hx, hc _ _ hy, binOp_shr, eqGuard_shr]
    simp [Op.shift, hb, IntKind.bits]
/-! ### Bits -/
def andI (a b : Int) : Int := wr ((BitVec.ofInt 64 a &&& BitVec.ofInt 64 b).toNat : Int)
def orI (a b : Int) : Int := wr ((BitVec.ofInt 64 a ||| BitVec.ofInt 64 b).toNat : Int)
def xorI (a b : Int) : Int := wr ((BitVec.ofInt 64 a ^^^ BitVec.ofInt 64 b).toNat : Int)
theorem Ex.andI {a b : Int} (hx : ev e x = some (vi a)) (hy : ev e y = some (vi b)) : Ex P e ⟨some d, .binOp .and xt x y yt, T, pos, af, none⟩ (vi (andI a b)) := fun c hc w => by
  simp only [execOp, hc _ _ hx, hc _ _ hy, binOp_and, eqGuard_and]
  have h4 : Op.intBits .and .i64 a b = pure (.int .i64 (Sx.andI a b)) := rfl
  rw [h4]
  simp
theorem Ex.orI {a b : Int} (hx : ev e x = some (vi a)) (hy : ev e y = some (vi b)) : Ex P e ⟨some d, .binOp .or xt x y yt, T, pos, af, none⟩ (vi (orI a b)) := fun c hc w => by
  simp only [execOp, hc _ _ hx, hc _ _ hy, binOp_or, eqGuard_or]
  have h4 : Op.intBits .or .i64 a b = pure (.int .i64 (Sx.orI a b)) := rfl
  rw [h4]
  simp
theorem Ex.xorI {a b : Int} (hx : ev e x = some (vi a)) (hy : ev e y = some (vi b)) : Ex P e ⟨some d, .binOp .xor xt x y yt, T, pos, af, none⟩ (vi (xorI a b)) := fun c hc w => by
  simp only [execOp, hc _ _ hx, hc _ _ hy, binOp_xor, eqGuard_xor]
  have h4 : Op.intBits .xor .i64 a b = pure (.int .i64 (Sx.xorI a b)) := rfl
  rw [h4]
  simp
theorem Ex.xor8 {a b : UInt8} (hx : ev e x = some (vu8 a)) (hy : ev e y = some (vu8 b)) : Ex P e ⟨some d, .binOp .xor xt x y yt, T, pos, af, none⟩ (vu8 (a ^^^ b)) := fun c hc w => by
  simp only [execOp, hc _ _ hx, hc _ _ hy, binOp_xor, eqGuard_xor]
  have h1 : BitVec.ofInt 8 (a.toNat : Int) = a.toBitVec := by simp [BitVec.ofInt_natCast]
  have h2 : BitVec.ofInt 8 (b.toNat : Int) = b.toBitVec := by simp [BitVec.ofInt_natCast]
  have h3 : IntKind.u8.wrap ((a.toBitVec ^^^ b.toBitVec).toNat : Int) = ((a ^^^ b).toNat : Int) := by
    rw [← UInt8.toBitVec_xor]; exact wrap_u8_in (by omega) (by have := u8lt (a ^^^ b); simp at this ⊢; omega)
  have h4 : Op.intBits .xor .u8 (a.toNat : Int) (b.toNat : Int) = pure (.int .u8 (IntKind.u8.wrap ((BitVec.ofInt 8 (a.toNat : Int) ^^^ BitVec.ofInt 8 (b.toNat : Int)).toNat : Int))) := rfl
  rw [h4, h1, h2, h3]
  simp
theorem Ex.xor32 {a b : UInt32} (hx : ev e x = some (vu32 a)) (hy : ev e y = some (vu32 b)) : Ex P e ⟨some d, .binOp .xor xt x y yt, T, pos, af, none⟩ (vu32 (a ^^^ b)) := fun c hc w => by
  simp only [execOp, hc _ _ hx, hc _ _ hy, binOp_xor, eqGuard_xor]
  have h1 : BitVec.ofInt 32 (a.toNat : Int) = a.toBitVec := by simp [BitVec.ofInt_natCast]
  have h2 : BitVec.ofInt 32 (b.toNat : Int) = b.toBitVec := by simp [BitVec.ofInt_natCast]
  have h3 : IntKind.u32.wrap ((a.toBitVec ^^^ b.toBitVec).toNat : Int) = ((a ^^^ b).toNat : Int) := by
    rw [← UInt32.toBitVec_xor]; exact wrap_u32_in (by omega) (by have := u32lt (a ^^^ b); simp at this ⊢; omega)
  have h4 : Op.intBits .xor .u32 (a.toNat : Int) (b.toNat : Int) = pure (.int .u32 (IntKind.u32.wrap ((BitVec.ofInt 32 (a.toNat : Int) ^^^ BitVec.ofInt 32 (b.toNat : Int)).toNat : Int))) := rfl
  rw [h4, h1, h2, h3]
  simp
theorem Ex.and32 {a b : UInt32} (hx : ev e x = some (vu32 a)) (hy : ev e y = some (vu32 b)) : Ex P e ⟨some d, .binOp .and xt x y yt, T, pos, af, none⟩ (vu32 (a &&& b)) := fun c hc w => by
  simp only [execOp, hc _ _ hx, hc _ _ hy, binOp_and, eqGuard_and]
  have h1 : BitVec.ofInt 32 (a.toNat : Int) = a.toBitVec := by simp [BitVec.ofInt_natCast]
  have h2 : BitVec.ofInt 32 (b.toNat : Int) = b.toBitVec := by simp [BitVec.ofInt_natCast]
  have h3 : IntKind.u32.wrap ((a.toBitVec &&& b.toBitVec).toNat : Int) = ((a &&& b).toNat : Int) := by
    rw [← UInt32.toBitVec_and]; exact wrap_u32_in (by omega) (by have := u32lt (a &&& b); simp at this ⊢; omega)
  have h4 : Op.intBits .and .u32 (a.toNat : Int) (b.toNat : Int) = pure (.int .u32 (IntKind.u32.wrap ((BitVec.ofInt 32 (a.toNat : Int) &&& BitVec.ofInt 32 (b.toNat : Int)).toNat : Int))) := rfl
  rw [h4, h1, h2, h3]
  simp
/-! ### Strings -/
/-- A byte of a string. -/
theorem Ex.ixT {s : Str} {i : Int} {b : UInt8} {q : IntKind} (h : atI s i = some b) (hx : ev e x = some (vs s)) (hy : ev e y = some (.int q i)) (ht : P.underlying xt = some .string) : Ex P e ⟨some d, .index xt x y, T, pos, af, none⟩ (vu8 b) := fun c hc w => by
  obtain ⟨h0, h1, h2⟩ := atI_some h
  simp only [execOp, hc _ _ hx, hc _ _ hy]
  have h3 : (⟨s.toArray⟩ : ByteArray)[i.toNat]? = some b := by
    have : i.toNat < s.length := by omega
    have hlt2 : i.toNat < (⟨s.toArray⟩ : ByteArray).size := by simpa [ByteArray.size] using this
    rw [getElem?_pos (⟨s.toArray⟩ : ByteArray) i.toNat hlt2]
    have h4 := List.getElem?_eq_some_iff.1 h2
    obtain ⟨hlt, he⟩ := h4
    rw [← he]
    rfl
  simp [Instr.index, asIntOf, run_underlying ht, h0, h3]
theorem Ex.cutTh {lo hi : Option Operand} {s t : Str} {i j : Int} (hcut : cutI s i j = some t) (hx : ev e x = some (vs s)) (ht : P.underlying xt = some .string)
    (hlo : match lo with | none => i = 0 | some o => ∃ q, ev e o = some (.int q i)) (hhi : match hi with | none => j = (s.length : Int) | some o => ∃ q, ev e o = some (.int q j)) :
    Ex P e ⟨some d, .slice xt x lo hi none, T, pos, af, none⟩ (vs t) := fun c hc w => by
  obtain ⟨h0, h1, h2, rfl⟩ := cutI_some hcut
  have hsz : (⟨s.toArray⟩ : ByteArray).size = s.length := by simp [ByteArray.size]
  have hex : (⟨s.toArray⟩ : ByteArray).extract i.toNat j.toNat = ⟨((s.take j.toNat).drop i.toNat).toArray⟩ := by
    apply ByteArray.ext
    rw [ByteArray.data_extract]
    simp [List.drop_take]
  obtain ⟨S, hS⟩ : ∃ S : ByteArray, S = ⟨s.toArray⟩ := ⟨_, rfl⟩
  have hB : ∀ (lo hi : Option Value), (match lo with | none => i = 0 | some v => ∃ q, v = .int q i) → (match hi with | none => j = (s.length : Int) | some v => ∃ q, v = .int q j) →
      (Instr.slice xt (.string S) lo hi none).run P w = .ok (.string (S.extract i.toNat j.toNat)) w := by
    intro lo hi hlo hhi
    rw [← hS] at hsz
    have e1 : j ≤ (s.length : Int) := h2
    have e2 : 0 ≤ j := by omega
    have e3 : i ≤ (j.toNat : Int) := by omega
    have e4 : i ≤ max j 0 := by omega
    unfold Instr.slice
    cases lo with
    | none =>
      cases hlo
      cases hi with
      | none =>
        cases hhi
        have hw : S.extract 0 s.length = S := by rw [← hsz]; exact ByteArray.extract_zero_size
        simp [run_underlying ht, Instr.sliceBounds, hsz, hw]
      | some v =>
        obtain ⟨q, rfl⟩ := hhi
        simp [run_underlying ht, Instr.sliceBounds, Instr.sliceBound, asIntOf, hsz, e1, e2]
    | some v =>
      obtain ⟨q, rfl⟩ := hlo
      cases hi with
      | none =>
        cases hhi
        simp [run_underlying ht, Instr.sliceBounds, Instr.sliceBound, asIntOf, hsz, h0, h1]
      | some v =>
        obtain ⟨q2, rfl⟩ := hhi
        simp [run_underlying ht, Instr.sliceBounds, Instr.sliceBound, asIntOf, hsz, e1, e2, h0, e3, e4, h1]
  rw [← hS] at hex
  have hBB : (Instr.slice xt (.string S) (lo.map c) (hi.map c) none).run P w = .ok (.string (S.extract i.toNat j.toNat)) w := ?_
  · simp only [execOp, hc _ _ hx, Option.map_none, vs]
    rw [← hS] at *
    simp [run_sliceAt_string w xt _ _ _ _ ht, hBB, hex]
  refine hB _ _ ?_ ?_
  · cases lo with
    | none => exact hlo
    | some o => obtain ⟨q, hq⟩ := hlo; exact ⟨q, hc _ _ hq⟩
  · cases hi with
    | none => exact hhi
    | some o => obtain ⟨q, hq⟩ := hhi; exact ⟨q, hc _ _ hq⟩
/-! ### Shifts by what is known; strings in their order; a pointer that is one -/
theorem Ex.shlC {q : IntKind} {a b m : Int} (hx : ev e x = some (vi a)) (hy : ev e y = some (.int q b)) (hb : ¬ b < 0) (hm : (2 : Int) ^ (min b.toNat 64) = m) : Ex P e ⟨some d, .binOp .shl xt x y yt, T, pos, af, none⟩ (vi (wr (a * m))) :=
  Ex.shlI (q := q) (b := b) (by unfold Sx.shlI; rw [if_neg hb, hm]) hx hy
def ltT (a b : Str) : Bool := Op.bytesLess a b
theorem Ex.lssT {s t : Str} (hx : ev e x = some (vs s)) (hy : ev e y = some (vs t)) : Ex P e ⟨some d, .binOp .lss xt x y yt, T, pos, af, none⟩ (vb (ltT s t)) := fun c hc w => by
  simp only [execOp, hc _ _ hx, hc _ _ hy, binOp, eqGuard, Op.stringOp, vs]
  simp [ltT]
theorem Ex.geqT {s t : Str} (hx : ev e x = some (vs s)) (hy : ev e y = some (vs t)) : Ex P e ⟨some d, .binOp .geq xt x y yt, T, pos, af, none⟩ (vb (!ltT s t)) := fun c hc w => by
  simp only [execOp, hc _ _ hx, hc _ _ hy, binOp, eqGuard, Op.stringOp, vs]
  simp [ltT]
theorem Ex.leqT {s t : Str} (hx : ev e x = some (vs s)) (hy : ev e y = some (vs t)) : Ex P e ⟨some d, .binOp .leq xt x y yt, T, pos, af, none⟩ (vb (ltT s t || decide (s = t))) := fun c hc w => by
  simp only [execOp, hc _ _ hx, hc _ _ hy, binOp, eqGuard, Op.stringOp, vs]
  have h2 : (s == t) = decide (s = t) := by rw [Bool.eq_iff_iff]; simp
  simp [ltT, h2]
theorem Ex.gtrT {s t : Str} (hx : ev e x = some (vs s)) (hy : ev e y = some (vs t)) : Ex P e ⟨some d, .binOp .gtr xt x y yt, T, pos, af, none⟩ (vb (!(ltT s t || decide (s = t)))) := fun c hc w => by
  simp only [execOp, hc _ _ hx, hc _ _ hy, binOp, eqGuard, Op.stringOp, vs]
  have h2 : (s == t) = decide (s = t) := by rw [Bool.eq_iff_iff]; simp
  simp [ltT, h2]
theorem Ex.eqlN {et : TypeId} {ad : Addr} (hx : ev e x = some (.pointer (some ad))) (hy : ev e y = some (.pointer none)) (ht : P.underlying xt = some (.pointer et)) : Ex P e ⟨some d, .binOp .eql xt x y yt, T, pos, af, none⟩ (vb false) := fun c hc w => by
  have h1 : (Op.equal xt (.pointer (some ad)) (.pointer none)).run P w = .ok false w := run_eqNil (some ad) 9999 ht
  simp only [execOp, hc _ _ hx, hc _ _ hy, binOp, eqGuard]
  simp [h1]
theorem Ex.neqN {et : TypeId} {ad : Addr} (hx : ev e x = some (.pointer (some ad))) (hy : ev e y = some (.pointer none)) (ht : P.underlying xt = some (.pointer et)) : Ex P e ⟨some d, .binOp .neq xt x y yt, T, pos, af, none⟩ (vb true) := fun c hc w => by
  have h1 : (Op.equal xt (.pointer (some ad)) (.pointer none)).run P w = .ok false w := run_eqNil (some ad) 9999 ht
  simp only [execOp, hc _ _ hx, hc _ _ hy, binOp, eqGuard]
  simp [h1]
/-- A length that memory bears. -/
def capT (s : Str) : Option Unit := if s.length ≤ maxLen then some () else none
theorem capT_some {s : Str} {u : Unit} (h : capT s = some u) : s.length ≤ maxLen := by
  unfold capT at h
  split at h
  · assumption
  · cases h
/-! ### A string behind a row of bytes -/
theorem strCells_vs (s : Str) : Go.Lib.strCells ⟨s.toArray⟩ = s.map vu8 := by simp [Go.Lib.strCells]
theorem strSize (s : Str) : (⟨s.toArray⟩ : ByteArray).size = s.length := by simp [ByteArray.size]
theorem run_append_rowS (t u ty E : TypeId) (by_ : Nat) (ht : P.underlying t = some (.slice E)) (hu : P.underlying u = some .string) (hinfo : (P.info? E).map (fun i => (i.zero, i.size, i.bytes)) = some (some (.int .u8 0), 1, by_))
    {v : Value} {l : Nat} {xs : List Value} (s : Str) (hv : (orow E 1 v l xs).p (hp w)) (h63 : l + s.length ≤ maxLen) (hbytes : (l + s.length) * by_ ≤ 140737488355328) (hblk : ∀ k, v.ownBlock = some k → k < w.heap.size) :
    ∃ v' w', (Builtin.append_ #[t, u] ty #[v, vs s]).run P w = .ok v' w' ∧ (orow E 1 v' (l + s.length) (xs ++ s.map vu8)).p (hp w') ∧ Fr w w' (fun k => v.ownBlock = some k) ∧
      (∀ k, v'.ownBlock = some k → (v.ownBlock = some k ∨ w.heap.size ≤ k) ∧ k < w'.heap.size) := by
  obtain ⟨i, hi, hz, hsize, hby⟩ := info_parts hinfo
  have hsmall : l + s.length ≤ 9223372036854775807 := by simp only [maxLen] at h63; omega
  have hv0 := hv
  obtain ⟨hv1, hv2, hv3⟩ := hv
  have hss := strSize s
  have hnl : (s.map vu8).length = s.length := by simp
  have hlen : (xs ++ s.map vu8).length = (l + s.length) * 1 := by rw [List.length_append, hv1, hnl]; omega
  have hone1 : ∀ u ∈ s.map vu8, u.oneCell' = true := fun u hu => by
    obtain ⟨b, _, rfl⟩ := List.mem_map.1 hu
    rfl
  have hone : ∀ u ∈ xs ++ s.map vu8, u.oneCell' = true := fun u hu => (List.mem_append.1 hu).elim (hv2 u) (hone1 u)
  subst hby
  have grown : ∀ old, old < l + s.length → ∀ (S : Nat → Prop),
      (orow E 1 (.slice (some ⟨w.heap.size, 0, none⟩) (l + s.length) (grownCap w (l + s.length) old E)) (l + s.length) (xs ++ s.map vu8)).p (hp (w.drew.alloc (.cells (xs.toArray ++ (s.map vu8).toArray ++ Builtin.zeroCells (Value.int .u8 0).cells (grownCap w (l + s.length) old E - (l + s.length))) E))) ∧
      Fr w (w.drew.alloc (.cells (xs.toArray ++ (s.map vu8).toArray ++ Builtin.zeroCells (Value.int .u8 0).cells (grownCap w (l + s.length) old E - (l + s.length))) E)) S := by
    intro old ho S
    have hge := grownCap_ge w (l + s.length) old E
    have hcm : grownCap w (l + s.length) old E ≤ maxLen := grownCap_le_maxLen w (l + s.length) old E h63
    refine ⟨⟨hlen, hone, .inr ⟨w.heap.size, 0, _, _, rfl, heap_alloc_new w.drew _, hge, hcm, ?_, ?_⟩⟩, ⟨rfl, rfl, rfl, by simp, fun k hk _ => heap_alloc_old w.drew _ hk⟩⟩
    · simp only [Array.size_append, List.size_toArray, size_zeroCells, hv1, hnl]
      have : (Value.int .u8 0).cells.size = 1 := rfl
      rw [this]; omega
    · simp only [Array.toList_append, List.append_assoc, List.drop_zero]
      rw [← List.append_assoc, ← hlen]
      exact List.take_left
  rcases hv3 with ⟨rfl, rfl⟩ | ⟨g, o, cap, cur, rfl, hg, hcap, hcm, hcs, htake⟩
  · have hx : xs = [] := List.eq_nil_of_length_eq_zero (by simpa using hv1)
    subst hx
    by_cases hm : s.length = 0
    · have hs0 : s = [] := List.eq_nil_of_length_eq_zero hm
      subst hs0
      refine ⟨_, w, ?_, hv0, Fr.refl _ _, fun k hk => ⟨.inl hk, hblk k hk⟩⟩
      simp [Builtin.append_, run_underlying ht, run_underlying hu, sizeOf, typeInfo, hi, Builtin.lenOf, Builtin.firstCells, ByteArray.size]
    · have hr := run_append_nil_string (P := P) w t u ty E i _ ht hu hi hz ⟨s.toArray⟩ (by rw [hss]; omega) (by rw [hss]; omega) (by rw [hss]; have hb := hbytes; simp only [Nat.zero_add] at hb; omega)
      have hgr := grown 0 (by omega) (fun k => (Value.slice none 0 0).ownBlock = some k)
      have hda : ((⟨s.toArray⟩ : ByteArray).data.map (fun b => Value.int .u8 (b.toNat : Int))) = (s.map vu8).toArray := by simp
      rw [hss, hda] at hr
      simp only [Nat.zero_add, List.nil_append, Array.empty_append] at hgr ⊢
      refine ⟨_, _, hr, hgr.1, hgr.2, fun k hk => ?_⟩
      have hk' : w.heap.size = k := by simpa [Value.ownBlock] using hk
      subst hk'
      exact ⟨.inr (Nat.le_refl _), by simp⟩
  · have hg' : w.heap[g]? = some (.cells cur E (0, 0)) := hg
    by_cases hroom : l + s.length ≤ cap
    · have hfit : o + l * 1 + (s.map vu8).length ≤ cur.size := by rw [hnl]; omega
      have hfc := Go.Lib.run_firstCells_string (P := P) w i.size ⟨s.toArray⟩
      rw [strCells_vs, hss] at hfc
      have hst := run_storeCells_at (P := P) g (o + l * 1) E (s.map vu8) 0 cur w hg' (by simpa using hfit) hone1
      simp only [Nat.add_zero] at hst
      have hr : (Builtin.append_ #[t, u] ty #[.slice (some ⟨g, o, none⟩) l cap, vs s]).run P w = .ok (.slice (some ⟨g, o, none⟩) (l + s.length) cap)
          (w.setRow g (cur.toList.take (o + l * 1) ++ s.map vu8 ++ cur.toList.drop (o + l * 1 + (s.map vu8).length)).toArray) := by
        simp only [Nat.mul_one] at hst ⊢
        have hroom' : l + (⟨s.toArray⟩ : ByteArray).size ≤ cap := by rw [hss]; exact hroom
        simp [Builtin.append_, run_underlying ht, run_underlying hu, sizeOf, typeInfo, hi, hsize, Builtin.lenOf, hss, hroom, Addr.add_lit]
        rw [hsize] at hfc
        rw [hfc]
        simp [hst]
      refine ⟨_, _, hr, ⟨hlen, hone, .inr ⟨g, o, cap, _, rfl, setRow_heap w g cur _ E _ hg', hroom, hcm, ?_, ?_⟩⟩, ⟨rfl, rfl, rfl, by simp, fun k hk hne => setRow_other w g k _ (fun he => hne (by simp [Value.ownBlock, he]))⟩, fun k hk => ⟨.inl (by simpa [Value.ownBlock] using hk), ?_⟩⟩
      · simp only [List.size_toArray, List.length_append, List.length_take, List.length_drop, Array.length_toList]
        omega
      · have e1 : (cur.toList.take (o + l * 1)).drop o = xs := by rw [List.drop_take, ← htake]; congr 1; omega
        have e0 : o ≤ (cur.toList.take (o + l * 1)).length := by simp; omega
        simp only [List.append_assoc]
        rw [List.drop_append_of_le_length e0, e1, ← List.append_assoc, ← hlen]
        exact List.take_left
      · have hk' : g = k := by simpa [Value.ownBlock] using hk
        subst hk'
        have := hblk g rfl
        simpa using this
    · have holds : ∀ j u, xs[j]? = some u → w.cell? ((⟨g, o, none⟩ : Addr).add j) = some u := fun j u hj => by
        rw [addr_lit rfl]
        exact (own_rd hv0).cell hj
      have hr := Go.Lib.run_append_grow_string (P := P) w t u ty E i _ ht hu hi hz ⟨g, o, none⟩ l cap xs (by rw [hsize]; exact hv1) holds ⟨s.toArray⟩ (by rw [hss]; omega) (by rw [hss]; omega) (by rw [hss]; exact growslice_fits (by omega) hbytes)
      rw [hss, strCells_vs] at hr
      have hgr := grown cap (by omega) (fun k => (Value.slice (some ⟨g, o, none⟩) l cap).ownBlock = some k)
      refine ⟨_, _, hr, hgr.1, hgr.2, fun k hk => ?_⟩
      have hk' : w.heap.size = k := by simpa [Value.ownBlock] using hk
      subst hk'
      exact ⟨.inr (Nat.le_refl _), by simp⟩
theorem Cs.bytes (ζ : Zp) : ∀ s : Str, Cs tU8 ζ (s.map vu8) s
  | [] => Cs.nil _ _
  | b :: s => Cs.cons (c := [vu8 b]) rfl (Cs.bytes ζ s)
/-- append(b, s...), s a string -/
theorem Ops.appS {args : Array Operand} {tys : Array TypeId} {A : Option Addr} {c E by_ : Nat} {t u : TypeId} {xs ys zs : Str} {cells : List Value} (i : Nat) (hst : Ht w0 H w) {l : Nat} (hi : H[i]? = some (orow E 1 (.slice A l c) l cells)) (hC : Cs tU8 ζ cells xs) (hl0 : xs.length = l)
    (hap : apB by_ xs ys = some zs) (ha : args = #[x, y]) (hty : tys = #[t, u]) (hx : ev e x = some (.slice A l c)) (hy : ev e y = some (vs ys))
    (ht : P.underlying t = some (.slice E)) (hu : P.underlying u = some .string) (hinfo : (P.info? E).map (fun i => (i.zero, i.size, i.bytes)) = some (some (.int .u8 0), 1, by_)) (hb : 0 < by_) (hn : Nat.blt d n.size = true)
    (h : ∀ A' c' cells' w', Cs tU8 ζ cells' zs → Ht w0 (H.set i (orow E 1 (.slice A' zs.length c') zs.length cells')) w' → Ops P n Qf k ops rest ((d, .slice A' zs.length c') :: e) w') : Ops P n Qf k ops (⟨some d, .call ⟨.builtin .append, args, tys⟩, T, pos, af, none⟩ :: rest) e w := by
  subst hl0 ha hty
  obtain ⟨hbd, rfl⟩ := apB_some hap
  have h63 : xs.length + ys.length ≤ maxLen := by
    have : xs.length + ys.length ≤ (xs.length + ys.length) * by_ := Nat.le_mul_of_pos_right _ hb
    simp only [maxLen]; omega
  obtain ⟨v', w', hr, h1, h2, h3⟩ := run_append_rowS (P := P) (w := w) t u T E by_ ht hu hinfo ys (hst.get hi) h63 hbd (fun k hk => hst.lt hi hk)
  have hlt : i < H.length := by
    rcases Nat.lt_or_ge i H.length with h' | h'
    · exact h'
    · rw [List.getElem?_eq_none h'] at hi; cases hi
  have hshape : ∃ A' c', v' = .slice A' (xs.length + ys.length) c' := by
    obtain ⟨_, _, h3⟩ := h1
    rcases h3 with ⟨rfl, h0⟩ | ⟨g, o, cap, cur, rfl, _⟩
    · rw [h0]; exact ⟨_, _, rfl⟩
    · exact ⟨_, _, rfl⟩
  obtain ⟨A', c', rfl⟩ := hshape
  have hl : (xs ++ ys).length = xs.length + ys.length := List.length_append
  rw [← hl] at h1 h3 hr
  refine Ops.val (w' := w') rfl rfl hn (fun c hc => ?_) (h A' c' (cells ++ ys.map vu8) w' (hC.append (Cs.bytes _ _)) (hst.upd i hi h2 h1 h3))
  simp [execOp, hc _ _ hx, hc _ _ hy, resolve, invoke, builtin, hr]
/-! ### The bytes of a string -/
theorem Ops.bytesZ {src dst et : TypeId} {s : Str} (hst : Ht w0 (frz ζ :: H) w) (hx : ev e x = some (vs s)) (hs : P.underlying src = some .string) (hd : P.underlying dst = some (.slice et)) (he : P.underlying et = some (.int .u8)) (hl : s.length ≤ maxLen) (hn : Nat.blt d n.size = true)
    (h : ∀ ζ' A c w', Le ζ ζ' → Sl tU8 ζ' A c s → Ht w0 (frz ζ' :: H) w' → Ops P n Qf k ops rest ((d, .slice A s.length c) :: e) w') : Ops P n Qf k ops (⟨some d, .convert src dst x, T, pos, af, none⟩ :: rest) e w := by
  have hr := Go.Lib.run_convert_string_bytes (P := P) w src dst et ⟨s.toArray⟩ hs hd he
  have hss := strSize s
  obtain ⟨W, hW⟩ : ∃ W, W = Go.Lib.bytesWorld w et ⟨s.toArray⟩ := ⟨_, rfl⟩
  rw [hss] at hr
  rw [← hW] at hr
  have hfr : Fr w W (fun _ => False) := ⟨by rw [hW]; rfl, by rw [hW]; rfl, by rw [hW]; rfl, by rw [hW, Go.Lib.bytesWorld_size]; omega, fun k hk _ => by rw [hW]; exact Go.Lib.bytesWorld_at_old w et _ k hk⟩
  have hst1 := hst.idle hfr
  have hnew := Go.Lib.bytesWorld_at_new w et ⟨s.toArray⟩
  rw [← hW] at hnew
  classical
  obtain ⟨ζ', hζ⟩ : ∃ ζ' : Zp, ζ' = fun k => if k = w.heap.size then some (.cells (Go.Lib.bytesCells w et ⟨s.toArray⟩) et ((Go.Lib.bytesCells w et ⟨s.toArray⟩).size, (Go.Lib.bytesCells w et ⟨s.toArray⟩).size + 1)) else ζ k := ⟨_, rfl⟩
  have hold : ∀ k o, ζ k = some o → k ≠ w.heap.size := fun k o hk he => by
    have := (hst.own (frz ζ) (by simp) k (by simp [frz, hk])).2
    omega
  have hle : Le ζ ζ' := fun k o hk => by rw [hζ]; simp only [if_neg (hold k o hk)]; exact hk
  have hge := grownCap_ge w s.length 0 et
  have hcm : grownCap w s.length 0 et ≤ maxLen := grownCap_le_maxLen w s.length 0 et hl
  refine Ops.val (w' := W) rfl rfl hn (fun c hc => ?_) (h ζ' (some ⟨w.heap.size, 0, none⟩) (grownCap w s.length 0 et) W hle ⟨hge, hcm, s.map vu8, Cs.bytes _ _, .inr ⟨_, _, rfl, fun j u hj => ?_⟩⟩ ?_)
  · simp [execOp, hc _ _ hx, hr]
  · have h1 : zc ζ' w.heap.size (0 + j) = (Go.Lib.bytesCells w et ⟨s.toArray⟩)[0 + j]? := by simp [zc, hζ]
    rw [h1, Nat.zero_add]
    have hjl : j < s.length := by
      rcases Nat.lt_or_ge j s.length with h' | h'
      · exact h'
      · rw [List.getElem?_eq_none (by simpa using h')] at hj; cases hj
    have h2 : j < ((⟨s.toArray⟩ : ByteArray).data.map fun b => Value.int .u8 (b.toNat : Int)).size := by simpa using hjl
    rw [Go.Lib.bytesCells, Array.getElem?_append, if_pos h2]
    simpa using hj
  · have hin : ∀ k o, ζ' k = some o → hp W k = some o := fun k o hk => by
      rw [hζ] at hk
      simp only at hk
      split at hk
      · rename_i he
        subst he
        cases hk
        exact hnew
      · exact hst1.le k o hk
    have hsz : W.heap.size = w.heap.size + 1 := by rw [hW]; exact Go.Lib.bytesWorld_size w et _
    refine ⟨hst1.fr, fun Q hQ k hk => ⟨.inl trivial, ?_⟩, fun Q hQ => ?_, ?_⟩
    · rcases List.mem_cons.1 hQ with rfl | hQ
      · obtain ⟨o, ho⟩ := Option.isSome_iff_exists.1 (show (ζ' k).isSome = true from hk)
        have h1 := hin k o ho
        rcases Nat.lt_or_ge k W.heap.size with h' | h'
        · exact h'
        · have : W.heap[k]? = none := by simp [h']
          rw [show hp W k = W.heap[k]? from rfl, this] at h1
          cases h1
      · exact (hst1.own Q (by simp [hQ]) k hk).2
    · rcases List.mem_cons.1 hQ with rfl | hQ
      · exact hin
      · exact hst1.hold Q (by simp [hQ])
    · have hdis := List.pairwise_cons.1 hst1.dis
      refine List.pairwise_cons.2 ⟨fun Q hQ k hk hk' => ?_, hdis.2⟩
      have hk2 : (ζ' k).isSome = true := hk
      rw [hζ] at hk2
      simp only at hk2
      split at hk2
      · rename_i he
        have := (hst.own Q (by simp [hQ]) k hk').2
        omega
      · exact hdis.1 Q hQ k hk2 hk'
end
end Go.Proofs.YtiekoeapmhhjbaaGreatDoor.Sx
