/- A small logic of walks, part H: texts of bytes, min and max, results that lie in cells. -/
import Derived.Test.YtiekoeapmhhjbaaGreatDoorSxG
import Derived.Laws.BytesArg
namespace Go.Proofs.YtiekoeapmhhjbaaGreatDoor.Sx
open Go Go.RowKit
set_option linter.unusedVariables false
set_option linter.unusedSimpArgs false
variable {P : Program} {n : Fm} {Qf : Exit → Act → World → Prop} {k : List It} {e : Env} {w w' w0 : World} {F0 : Nat → Prop} {H : List Res} {ops : Array Oper} {rest : List Oper} {T : TypeId} {pos : String} {af : Array Edge} {d : Nat}
theorem run_toStr {src dst et : TypeId} {s : Value} {m : Nat} {xs : List Int} (hs : P.underlying src = some (.slice et)) (he : P.underlying et = some (.int .u8)) (hd : P.underlying dst = some .string) (h : Rd w 1 s m (xs.map (Value.int .u8))) :
    (convert src dst s).run P w = .ok (.string (strOfNums xs)) w := by
  obtain ⟨h1, h2, A, c, rfl, hc, h3⟩ := h
  rcases h3 with ⟨rfl, rfl⟩ | ⟨ad, rfl, hsp, h3⟩
  · have : xs = [] := List.eq_nil_of_length_eq_zero (by simpa using h1)
    subst this
    rw [run_convert_bytes_nil w src et hs he 0 c dst hd]
    rfl
  · obtain ⟨b, o, sp⟩ := ad
    by_cases hm0 : m = 0
    · have : xs = [] := List.eq_nil_of_length_eq_zero (by simpa [hm0] using h1)
      subst this hm0
      rw [run_convert_bytes_string w src dst et _ 0 c hs he hd]
      simp [Conv.bytesToString, loadCells, loadCellsFrom, strOfNums]
      try rfl
    have hsp := hsp (by omega)
    simp only at hsp
    subst hsp
    refine run_convert_bytes_arg w src et hs he b o m c xs (by simpa using h1) (fun i hi => ?_) dst hd
    have hl : i < xs.length := by have : xs.length = m := by simpa using h1
                                  omega
    refine h3 i _ ?_
    simp [List.getElem?_eq_getElem hl]
theorem Ops.toStr {src dst et : TypeId} {x : Operand} {s : Value} {m : Nat} (xs : List Int) (hx : ev e x = some s) (hs : P.underlying src = some (.slice et)) (he : P.underlying et = some (.int .u8)) (hd : P.underlying dst = some .string) (hr : Rd w 1 s m (xs.map (Value.int .u8))) (hn : Nat.blt d n.size = true)
    (h : Ops P n Qf k ops rest ((d, .string (strOfNums xs)) :: e) w) : Ops P n Qf k ops (⟨some d, .convert src dst x, T, pos, af, none⟩ :: rest) e w :=
  Ops.val rfl rfl hn (fun c hc => by simp [execOp, hc _ _ hx, run_toStr hs he hd hr]) h
theorem ExS.toStr {S : World → Prop} {src dst et : TypeId} {x : Operand} {s : Value} {m : Nat} (xs : List Int) (hx : ev e x = some s) (hs : P.underlying src = some (.slice et)) (he : P.underlying et = some (.int .u8)) (hd : P.underlying dst = some .string) (hr : ∀ w, S w → Rd w 1 s m (xs.map (Value.int .u8))) :
    ExS P S e ⟨some d, .convert src dst x, T, pos, af, none⟩ (.string (strOfNums xs)) := fun c hc w hS => by
  simp [execOp, hc _ _ hx, run_toStr hs he hd (hr w hS)]
theorem Rd_of_blk {i g Tb : Nat} {cs : List Value} {sz m : Nat} (hst : St w0 F0 H w) (hi : H[i]? = some (blk g cs Tb)) (hl : cs.length = m * sz) (h1 : ∀ u ∈ cs, u.oneCell' = true) : Rd w sz (.slice (some ⟨g, 0, none⟩) m m) m cs :=
  ⟨hl, h1, _, _, rfl, Nat.le_refl _, .inr ⟨_, rfl, fun _ => rfl, fun j u hj => by have := hst.cell hi hj; simpa using this⟩⟩
theorem Ops.min2 {args : Array Operand} {tys : Array TypeId} {x y : Operand} {q : IntKind} {a b : Int} (ha : args = #[x, y]) (hx : ev e x = some (.int q a)) (hy : ev e y = some (.int q b)) (hn : Nat.blt d n.size = true) (h : Ops P n Qf k ops rest ((d, .int q (min a b)) :: e) w) :
    Ops P n Qf k ops (⟨some d, .call ⟨.builtin .min, args, tys⟩, T, pos, af, none⟩ :: rest) e w := by
  subst ha
  refine Ops.val rfl rfl hn (fun c hc => ?_) h
  simp [execOp, hc _ _ hx, hc _ _ hy, resolve, invoke, builtin, Builtin.min_, Builtin.min2]
  rw [Int.min_def]
  split <;> split <;> omega
theorem Ops.max2 {args : Array Operand} {tys : Array TypeId} {x y : Operand} {q : IntKind} {a b : Int} (ha : args = #[x, y]) (hx : ev e x = some (.int q a)) (hy : ev e y = some (.int q b)) (hn : Nat.blt d n.size = true) (h : Ops P n Qf k ops rest ((d, .int q (max a b)) :: e) w) :
    Ops P n Qf k ops (⟨some d, .call ⟨.builtin .max, args, tys⟩, T, pos, af, none⟩ :: rest) e w := by
  subst ha
  refine Ops.val rfl rfl hn (fun c hc => ?_) h
  simp [execOp, hc _ _ hx, hc _ _ hy, resolve, invoke, builtin, Builtin.max_, Builtin.max2]
  rw [Int.max_def]
  split <;> split <;> omega
theorem Ex.min2 {args : Array Operand} {tys : Array TypeId} {x y : Operand} {q : IntKind} {a b : Int} (ha : args = #[x, y]) (hx : ev e x = some (.int q a)) (hy : ev e y = some (.int q b)) :
    Ex P e ⟨some d, .call ⟨.builtin .min, args, tys⟩, T, pos, af, none⟩ (.int q (min a b)) := by
  intro c hc w
  subst ha
  simp [execOp, hc _ _ hx, hc _ _ hy, resolve, invoke, builtin, Builtin.min_, Builtin.min2]
  rw [Int.min_def]
  split <;> split <;> omega
theorem run_load1 {t : TypeId} {ad : Addr} {v : Value} {u : TypeDesc} (hu : P.underlying t = some u) (ha : aggB u = false) (hc : w.cell? ad = some v) : (loadVar t ad).run P w = .ok v w := by
  simp [loadVar, run_isAgg hu, ha, hc]
theorem run_loadN {t : TypeId} {ad : Addr} {u : TypeDesc} {z : Nat} (cs : List Value) (hu : P.underlying t = some u) (ha : aggB u = true) (hz : (P.info? t).map (·.size) = some z) (hl : cs.length = z) (hc : ∀ j v, cs[j]? = some v → w.cell? (ad.add j) = some v) : (loadVar t ad).run P w = .ok (.agg cs.toArray) w := by
  subst hl
  simp [loadVar, run_isAgg hu, ha, run_sizeOf hz, run_loadCells_list w ad cs hc]
/-- The one result lies in a cell, or in some. -/
theorem resC {fn : Func} {t : Nat} {ty : TypeId} {ad : Addr} {v : Value} (h : fn.results = #[.cell t ty]) (ht : look e t = some (.pointer (some ad))) (hl : (loadVar ty ad).run P w = .ok v w) {a : Act} (ha : Has n e a) : (results fn a.tmps).run P w = .ok v w := by
  have := ha.getD ht
  rw [Array.getD_eq_getD_getElem?] at this
  simp [results, h, this, asAddr, hl]
end Go.Proofs.YtiekoeapmhhjbaaGreatDoor.Sx
