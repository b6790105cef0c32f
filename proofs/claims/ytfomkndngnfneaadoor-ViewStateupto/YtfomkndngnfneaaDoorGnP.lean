/- Part P of the second layer: whole numbers of 32 bits, and rows of them that a variable holds. -/
import Derived.Test.YtfomkndngnfneaaDoorGnO
namespace Go.Proofs.YtfomkndngnfneaaDoor.Sx
open Go Go.RowKit
set_option linter.unusedVariables false
set_option linter.unusedSimpArgs false
section
variable {P : Program} {n : Fm} {Qf : Exit → Act → World → Prop} {k : List It} {e : Env} {w w' w0 : World} {H : List Res} {R R0 : Res} {ζ ζ' : Zp} {ops : Array Oper} {rest : List Oper} {T : TypeId} {pos : String} {af : Array Edge} {d : Nat} {α : Type} {xt yt : TypeId} {x y : Operand}
abbrev cU (l : List UInt32) : List Value := l.map vu32
def Ln (l : List α) (n : Nat) : Prop := l.length = n
theorem Ln.mono {l : List α} {n : Nat} (h : Ln l n) {a b : Zp} (_ : Le a b) : Ln l n := h
theorem Ln.put {l l' : List α} {n : Nat} {i : Int} {v : α} (h : Ln l n) (hp : putI l i v = some l') : Ln l' n := by
  obtain ⟨_, _, rfl⟩ := putI_some hp
  unfold Ln at *
  simpa using h
abbrev toU32 (x : Int) : UInt32 := UInt32.ofInt x
theorem wrap_toU32 (x : Int) : IntKind.u32.wrap x = ((toU32 x).toNat : Int) := by
  simp [IntKind.wrap, IntKind.bits, IntKind.signed, toU32, UInt32.ofInt]
  omega
theorem Ex.cto32 {src dst : TypeId} {sd : TypeDesc} {q : IntKind} {a : Int} (hx : ev e x = some (.int q a)) (hs : P.underlying src = some sd) (ht : P.underlying dst = some (.int .u32)) : Ex P e ⟨some d, .convert src dst x, T, pos, af, none⟩ (vu32 (toU32 a)) :=
  Ex.eq (Ex.conv hx hs ht) (congrArg (Value.int .u32) (wrap_toU32 a))
/-- n >> c -/
def shr32 (a : UInt32) (m : Nat) : UInt32 := UInt32.ofNat (a.toNat / m)
theorem Ex.shr32 {q : IntKind} {a : UInt32} {b : Int} {m : Nat} (hx : ev e x = some (vu32 a)) (hy : ev e y = some (.int q b)) (h0 : 0 ≤ b) (h1 : b ≤ 32) (hm : (2 : Int) ^ b.toNat = (m : Int)) : Ex P e ⟨some d, .binOp .shr xt x y yt, T, pos, af, none⟩ (vu32 (shr32 a m)) :=
  Ex.eq (Ex.shr hx hy h0 (by simpa [IntKind.bits] using h1) hm) (congrArg (Value.int .u32) (by
    have := a.toNat_lt
    have h2 : a.toNat / m ≤ a.toNat := Nat.div_le_self _ _
    unfold Sx.shr32
    rw [UInt32.toNat_ofNat_of_lt' (by simp [UInt32.size]; omega)]
    exact (Int.natCast_ediv a.toNat m).symm))
theorem Ex.eql32 {a b : UInt32} (hx : ev e x = some (vu32 a)) (hy : ev e y = some (vu32 b)) : Ex P e ⟨some d, .binOp .eql xt x y yt, T, pos, af, none⟩ (vb (decide (a = b))) := Ex.eq (Ex.eql hx hy) (congrArg Value.bool dec32)
theorem Ex.neq32 {a b : UInt32} (hx : ev e x = some (vu32 a)) (hy : ev e y = some (vu32 b)) : Ex P e ⟨some d, .binOp .neq xt x y yt, T, pos, af, none⟩ (vb (!decide (a = b))) := Ex.eq (Ex.neq hx hy) (congrArg Value.bool (by rw [bne, dec32]))
/-- ^n -/
theorem Ex.not32 {a : UInt32} (hx : ev e x = some (vu32 a)) : Ex P e ⟨some d, .unOp .xor xt x, T, pos, af, none⟩ (vu32 (4294967295 ^^^ a)) := fun c hc w => by
  have h4 : Op.unary .xor (vu32 a) = Op.intBits .xor .u32 4294967295 (a.toNat : Int) := rfl
  have h1 : BitVec.ofInt 32 (a.toNat : Int) = a.toBitVec := by simp [BitVec.ofInt_natCast]
  have h2 : BitVec.ofInt 32 (4294967295 : Int) = (4294967295 : UInt32).toBitVec := by decide
  have h3 : IntKind.u32.wrap (((4294967295 : UInt32).toBitVec ^^^ a.toBitVec).toNat : Int) = ((4294967295 ^^^ a : UInt32).toNat : Int) := by
    rw [← UInt32.toBitVec_xor]; exact wrap_u32_in (by omega) (by have := u32lt (4294967295 ^^^ a); simp at this ⊢; omega)
  have h5 : Op.intBits .xor .u32 4294967295 (a.toNat : Int) = pure (.int .u32 (IntKind.u32.wrap ((BitVec.ofInt 32 4294967295 ^^^ BitVec.ofInt 32 (a.toNat : Int)).toNat : Int))) := rfl
  simp only [execOp, hc _ _ hx]
  rw [h4, h5, h1, h2, h3]
  simp
/-- &t[i], t a variable that holds a row of N -/
theorem Ex.ixArr {at_ et : TypeId} {N g : Nat} {q : IntKind} {i : Int} {l : List α} {a : α} (hl : Ln l N) (hat : atI l i = some a) (hx : ev e x = some (.pointer (some ⟨g, 0, none⟩))) (hy : ev e y = some (.int q i)) (ht : P.underlying at_ = some (.array N et)) (hz : (P.info? et).map (·.size) = some 1) :
    Ex P e ⟨some d, .indexAddr at_ x y, T, pos, af, none⟩ (.pointer (some ⟨g, i.toNat, none⟩)) := fun c hc w => by
  obtain ⟨h0, h1, _⟩ := atI_some hat
  unfold Ln at hl
  have h2 : i < (N : Int) := by rw [← hl]; exact h1
  simp only [execOp, hc _ _ hx, hc _ _ hy, Instr.indexAt]
  simp [run_underlying ht, asIntOf, run_sizeOf hz, h0, h2, addr_add, Instr.sureAddr]
theorem cU_at {l : List UInt32} {i : Int} {a : UInt32} (h : atI l i = some a) : (cU l)[i.toNat]? = some (vu32 a) := by
  obtain ⟨_, _, h2⟩ := atI_some h
  rw [List.getElem?_map, h2]
  rfl
theorem cU_set (l : List UInt32) {i : Nat} (v : UInt32) (h : i < l.length) : (cU l).take i ++ [vu32 v] ++ (cU l).drop (i + [vu32 v].length) = cU (l.set i v) := by
  rw [List.set_eq_take_append_cons_drop, if_pos h]
  simp [cU]
theorem cU_one (l : List UInt32) : ∀ u ∈ cU l, u.oneCell' = true := fun u hu => by
  obtain ⟨b, _, rfl⟩ := List.mem_map.1 hu
  rfl
/-- t[i] = v -/
theorem Ops.storeU {t : TypeId} {g : Nat} {l l' : List UInt32} {v : UInt32} {i : Int} {Tb : TypeId} (j : Nat) (hst : Ht w0 H w) (hi : H[j]? = some (blk g (cU l) Tb)) (hput : putI l i v = some l') (hx : ev e x = some (.pointer (some ⟨g, i.toNat, none⟩))) (hy : ev e y = some (vu32 v)) (hz : (P.info? t).map (·.size) = some 1)
    (h : ∀ w', Ht w0 (H.set j (blk g (cU l') Tb)) w' → Ops P n Qf k ops rest e w') : Ops P n Qf k ops (⟨none, .store t x y, T, pos, af, none⟩ :: rest) e w := by
  obtain ⟨h0, h1, rfl⟩ := putI_some hput
  have hlt : i.toNat < l.length := by omega
  refine Ops.store j [vu32 v] hst hi hx hy rfl hz rfl (fun u hu => by rw [List.mem_singleton] at hu; subst hu; rfl) (by simp [cU]; omega) (fun w' h' => ?_)
  rw [cU_set l v hlt] at h'
  exact h w' h'
/-- t = u, whole rows -/
theorem Ops.storeW {t : TypeId} {g N : Nat} {l l' : List UInt32} {Tb : TypeId} (j : Nat) (hst : Ht w0 H w) (hi : H[j]? = some (blk g (cU l) Tb)) (hl : Ln l N) (hl' : Ln l' N) (hx : ev e x = some (.pointer (some ⟨g, 0, none⟩))) (hy : ev e y = some (.agg (cU l').toArray)) (hz : (P.info? t).map (·.size) = some N)
    (h : ∀ w', Ht w0 (H.set j (blk g (cU l') Tb)) w' → Ops P n Qf k ops rest e w') : Ops P n Qf k ops (⟨none, .store t x y, T, pos, af, none⟩ :: rest) e w := by
  unfold Ln at hl hl'
  refine Ops.store j (cU l') hst hi hx hy rfl hz (by simpa [cU] using hl') (cU_one l') (by simp [cU]; omega) (fun w' h' => ?_)
  have : (cU l).take 0 ++ cU l' ++ (cU l).drop (0 + (cU l').length) = cU l' := by
    have h1 : (cU l).length = (cU l').length := by simp [cU]; omega
    rw [Nat.zero_add, ← h1, List.drop_length]
    simp
  rw [this] at h'
  exact h w' h'
theorem cU_cells {g : Nat} {l : List UInt32} {Tb : TypeId} {j : Nat} (hst : Ht w0 H w) (hi : H[j]? = some (blk g (cU l) Tb)) : ∀ q v, (cU l)[q]? = some v → w.cell? ((⟨g, 0, none⟩ : Addr).add q) = some v := fun q v hq => by
  rw [addr_lit rfl]
  simpa using hst.cell hi hq
end
end Go.Proofs.YtfomkndngnfneaaDoor.Sx
