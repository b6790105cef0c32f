/- Part C of the second layer: what an operation yields, by words of lists; the end of a walk; joins. -/
import Derived.Test.YtiekoeapmhhjbaaGreatDoorGnB
namespace Go.Proofs.YtiekoeapmhhjbaaGreatDoor.Sx
open Go Go.RowKit
set_option linter.unusedVariables false
set_option linter.unusedSimpArgs false
section
variable {P : Program} {n : Fm} {Qf : Exit → Act → World → Prop} {k k2 : List It} {e : Env} {w w' w0 : World} {H : List Res} {R R0 : Res} {ζ ζ' : Zp} {ops : Array Oper} {rest : List Oper} {T : TypeId} {pos : String} {af : Array Edge} {d : Nat} {α : Type}
/-! ### The frame of a walk -/
abbrev Qn (P : Program) (fn : Func) (R : Ending → World → Prop) : Exit → Act → World → Prop := NP (bodyPostM (Fw none) 0 P fn R)
theorem calls_np {f : FuncId} {fn : Func} {c : Code} {args : List Value} {R : Ending → World → Prop} (hf : P.funcs[f]? = some fn) (hb : fn.body = some c) (hn : Nat.ble args.length fn.ntmps = true)
    (h : Run P ⟨fn.ntmps, none, []⟩ (Qn P fn R) [.code c] (argEnv 0 args) w) : Calls P f args.toArray w R :=
  calls_of_runM hf hb hn (Run.np h)
theorem Run.retV {fn : Func} {R : Ending → World → Prop} (vs : List Value) (hd : n.ds = []) (h : ResV P e w fn.results.toList vs) (hr : R (.returned (tupV vs)) w) : Run P n (Qn P fn R) (.code .ret :: k) e w :=
  Run.retN (tupV vs) (by rw [hd]; exact Shut.nil _) (fun a ha => run_resV h ha) hr
theorem Run.doneV {fn : Func} {R : Ending → World → Prop} (vs : List Value) (hd : n.ds = []) (h : ResV P e w fn.results.toList vs) (hr : R (.returned (tupV vs)) w) : Run P n (Qn P fn R) [] e w :=
  Run.doneN (tupV vs) (by rw [hd]; exact Shut.nil _) (fun a ha => run_resV h ha) hr
theorem Run.jn (Z : Env → World → Prop) (h1 : (∀ e' w', Z e' w' → Run P n Qf k2 e' w') → Run P n Qf k e w) (h2 : ∀ e' w', Z e' w' → Run P n Qf k2 e' w') : Run P n Qf k e w := h1 h2
theorem Any.case {SL : List (List Nat × (World → Prop))} {fuel : Nat} {l : List Nat} (t : Nat) {x : Bool} (hx : Sx.look e t = some (.bool x)) (h1 : x = true → Any P n Qf k ops SL fuel l ((t, .bool true) :: e) w) (h2 : x = false → Any P n Qf k ops SL fuel l ((t, .bool false) :: e) w) :
    Any P n Qf k ops SL fuel l e w := by
  have key : ∀ b, x = b → Any P n Qf k ops SL fuel l ((t, .bool b) :: e) w → Any P n Qf k ops SL fuel l e w := by
    intro b hb h a ha
    refine h a (ha.sub ?_)
    intro s v hs
    rw [look_cons] at hs
    by_cases hk : t = s
    · subst hk; simp at hs; rw [hx, hb, hs]
    · simpa [hk] using hs
  cases x
  · exact key false rfl (h2 rfl)
  · exact key true rfl (h1 rfl)
theorem Run.drawH {id : Nat} (SL : List (List Nat × (World → Prop))) (hm : P.follows .mixedOrders = true) (hst : Ht w0 H w) (h : ∀ w', Ht w0 H w' → Any P n Qf k ops SL ops.size [] e w') : Run P n Qf (.code (.region id ops true) :: k) e w :=
  Run.draw SL hm (fun w' hw => h w' (by rw [hw]; exact hst.idle (drew_fr _)))
theorem forL_in {S R : Type} {b : Nat → α → S → (S → Option R) → Option R} {K : S → Option R} {i : Nat} {xs : List α} {s : S} {r : R} (h : forL b K i (xs.drop i) s = some r) (hi : i < xs.length) :
    ∃ (a : α) (nx : S → Option R), xs[i]? = some a ∧ (∀ s', nx s' = forL b K (i + 1) (xs.drop (i + 1)) s') ∧ b i a s nx = some r := by
  rw [List.drop_eq_getElem_cons hi] at h
  exact ⟨xs[i], _, List.getElem?_eq_getElem hi, fun _ => rfl, h⟩
theorem loopF_in {S R : Type} {b : S → (S → Option R) → Option R} {m : Nat} {s : S} {r : R} (h : loopF b m s = some r) : ∃ (m' : Nat) (nx : S → Option R), m = m' + 1 ∧ (∀ s', nx s' = loopF b m' s') ∧ b s nx = some r := by
  cases m with
  | zero => cases h
  | succ m => exact ⟨m, _, rfl, fun _ => rfl, h⟩
theorem forL_out {S R : Type} {b : Nat → α → S → (S → Option R) → Option R} {K : S → Option R} {i : Nat} {xs : List α} {s : S} {r : R} (h : forL b K i (xs.drop i) s = some r) (hi : ¬ i < xs.length) : K s = some r := by
  rw [List.drop_eq_nil_of_le (by omega)] at h
  exact h
theorem atI_nat {xs : List α} {i : Nat} {a : α} (h : xs[i]? = some a) : atI xs (i : Int) = some a := by
  unfold atI
  rw [if_pos (by omega)]
  simpa using h
theorem lt_of_dec {i l : Nat} (h : decide ((i : Int) < (l : Int)) = true) : i < l := by have := of_decide_eq_true h; omega
theorem nlt_of_dec {i l : Nat} (h : decide ((i : Int) < (l : Int)) = false) : ¬ i < l := by have := of_decide_eq_false h; omega
theorem wr_succ {i l c : Nat} (h : i < l) (hl : l ≤ c) (hc : c ≤ maxLen) : wr ((i : Int) + 1) = ((i + 1 : Nat) : Int) := by
  unfold wr
  rw [wrap_i64_in] <;> simp only [maxLen] at hc <;> omega
theorem Ops.reS {n : Fm} {k : List It} (t : Nat) {v v' : Value} (hx : Sx.look e t = some v) (hv : v = v') (h : Ops P n Qf k ops rest ((t, v') :: e) w) : Ops P n Qf k ops rest e w := Ops.re t hx hv h
theorem neq_T {p : Prop} [Decidable p] (h : (!decide p) = true) : ¬ p := by simpa using h
theorem neq_F {p : Prop} [Decidable p] (h : (!decide p) = false) : p := by simpa using h
theorem dec_T {p : Prop} [Decidable p] (h : decide p = true) : p := of_decide_eq_true h
theorem dec_F {p : Prop} [Decidable p] (h : decide p = false) : ¬ p := of_decide_eq_false h
theorem bn_T {b : Bool} (h : (!b) = true) : b = false := by simpa using h
theorem bn_F {b : Bool} (h : (!b) = false) : b = true := by simpa using h
/-! ### Whole numbers of other kinds -/
theorem u8lt (x : UInt8) : (x.toNat : Int) < 256 ∧ 0 ≤ (x.toNat : Int) := by have := x.toNat_lt; omega
theorem u16lt (x : UInt16) : (x.toNat : Int) < 65536 ∧ 0 ≤ (x.toNat : Int) := by have := x.toNat_lt; omega
theorem u32lt (x : UInt32) : (x.toNat : Int) < 4294967296 ∧ 0 ≤ (x.toNat : Int) := by have := x.toNat_lt; omega
section
variable {xt yt : TypeId} {x y : Operand}
theorem Ex.cu8 {src dst : TypeId} {sd : TypeDesc} {a : UInt8} (hx : ev e x = some (vu8 a)) (hs : P.underlying src = some sd) (ht : P.underlying dst = some (.int .i64)) : Ex P e ⟨some d, .convert src dst x, T, pos, af, none⟩ (vi (a.toNat : Int)) :=
  Ex.eq (Ex.conv hx hs ht) (congrArg (Value.int .i64) (wrap_i64_in (by have := u8lt a; omega) (by have := u8lt a; omega)))
theorem Ex.cu16 {src dst : TypeId} {sd : TypeDesc} {a : UInt16} (hx : ev e x = some (vu16 a)) (hs : P.underlying src = some sd) (ht : P.underlying dst = some (.int .i64)) : Ex P e ⟨some d, .convert src dst x, T, pos, af, none⟩ (vi (a.toNat : Int)) :=
  Ex.eq (Ex.conv hx hs ht) (congrArg (Value.int .i64) (wrap_i64_in (by have := u16lt a; omega) (by have := u16lt a; omega)))
theorem Ex.cu32 {src dst : TypeId} {sd : TypeDesc} {a : UInt32} (hx : ev e x = some (vu32 a)) (hs : P.underlying src = some sd) (ht : P.underlying dst = some (.int .i64)) : Ex P e ⟨some d, .convert src dst x, T, pos, af, none⟩ (vi (a.toNat : Int)) :=
  Ex.eq (Ex.conv hx hs ht) (congrArg (Value.int .i64) (wrap_i64_in (by have := u32lt a; omega) (by have := u32lt a; omega)))
theorem Ex.ci8 {src dst : TypeId} {sd : TypeDesc} {a : Int8} (hx : ev e x = some (vi8 a)) (hs : P.underlying src = some sd) (ht : P.underlying dst = some (.int .i64)) : Ex P e ⟨some d, .convert src dst x, T, pos, af, none⟩ (vi a.toInt) :=
  Ex.eq (Ex.conv hx hs ht) (congrArg (Value.int .i64) (wrap_i64_in (by have := a.le_toInt; omega) (by have := a.toInt_lt; omega)))
theorem Ex.ci16 {src dst : TypeId} {sd : TypeDesc} {a : Int16} (hx : ev e x = some (vi16 a)) (hs : P.underlying src = some sd) (ht : P.underlying dst = some (.int .i64)) : Ex P e ⟨some d, .convert src dst x, T, pos, af, none⟩ (vi a.toInt) :=
  Ex.eq (Ex.conv hx hs ht) (congrArg (Value.int .i64) (wrap_i64_in (by have := a.le_toInt; omega) (by have := a.toInt_lt; omega)))
theorem Ex.cii {src dst : TypeId} {sd : TypeDesc} {a : Int} (hx : ev e x = some (vi a)) (hs : P.underlying src = some sd) (ht : P.underlying dst = some (.int .i64)) : Ex P e ⟨some d, .convert src dst x, T, pos, af, none⟩ (vi (wr a)) := Ex.conv hx hs ht
/-- byte(n) -/
abbrev toU8 (x : Int) : UInt8 := UInt8.ofInt x
theorem wrap_toU8 (x : Int) : IntKind.u8.wrap x = ((toU8 x).toNat : Int) := by
  simp [IntKind.wrap, IntKind.bits, IntKind.signed, toU8, UInt8.ofInt]
  omega
theorem Ex.cto8 {src dst : TypeId} {sd : TypeDesc} {q : IntKind} {a : Int} (hx : ev e x = some (.int q a)) (hs : P.underlying src = some sd) (ht : P.underlying dst = some (.int .u8)) : Ex P e ⟨some d, .convert src dst x, T, pos, af, none⟩ (vu8 (toU8 a)) :=
  Ex.eq (Ex.conv hx hs ht) (congrArg (Value.int .u8) (wrap_toU8 a))
theorem tmod_nat (a b : Nat) : Int.tmod (a : Int) (b : Int) = ((a % b : Nat) : Int) := by
  rw [Int.tmod_eq_emod_of_nonneg (by omega)]; rfl
theorem tdiv_nat (a b : Nat) : Int.tdiv (a : Int) (b : Int) = ((a / b : Nat) : Int) := by
  rw [Int.tdiv_eq_ediv_of_nonneg (by omega)]; rfl
theorem Ex.rem8 {a b : UInt8} (hx : ev e x = some (vu8 a)) (hy : ev e y = some (vu8 b)) (hb : b ≠ 0) : Ex P e ⟨some d, .binOp .rem xt x y yt, T, pos, af, none⟩ (vu8 (a % b)) :=
  Ex.eq (Ex.rem hx hy (by have : b.toNat ≠ 0 := fun h => hb (UInt8.toNat_inj.1 (by simpa using h)); omega)) (congrArg (Value.int .u8) (by rw [tmod_nat, UInt8.toNat_mod]))
theorem Ex.quo8 {a b : UInt8} (hx : ev e x = some (vu8 a)) (hy : ev e y = some (vu8 b)) (hb : b ≠ 0) : Ex P e ⟨some d, .binOp .quo xt x y yt, T, pos, af, none⟩ (vu8 (a / b)) :=
  Ex.eq (Ex.quo hx hy (by have : b.toNat ≠ 0 := fun h => hb (UInt8.toNat_inj.1 (by simpa using h)); omega)) (congrArg (Value.int .u8) (by
    have h1 := u8lt a
    have h2 : (a.toNat : Int).tdiv b.toNat = ((a / b).toNat : Int) := by rw [tdiv_nat, UInt8.toNat_div]
    rw [h2]; exact wrap_u8_in (by omega) (by have := u8lt (a / b); omega)))
theorem Ex.add8 {a b : UInt8} (hx : ev e x = some (vu8 a)) (hy : ev e y = some (vu8 b)) : Ex P e ⟨some d, .binOp .add xt x y yt, T, pos, af, none⟩ (vu8 (a + b)) :=
  Ex.eq (Ex.add hx hy) (congrArg (Value.int .u8) (by simp [IntKind.wrap, IntKind.bits, IntKind.signed, UInt8.toNat_add]))
theorem dec8 {a b : UInt8} : ((a.toNat : Int) == (b.toNat : Int)) = decide (a = b) := by
  rw [Bool.eq_iff_iff]; simp only [beq_iff_eq, decide_eq_true_eq]
  exact ⟨fun h => UInt8.toNat_inj.1 (by omega), fun h => by rw [h]⟩
theorem dec16 {a b : UInt16} : ((a.toNat : Int) == (b.toNat : Int)) = decide (a = b) := by
  rw [Bool.eq_iff_iff]; simp only [beq_iff_eq, decide_eq_true_eq]
  exact ⟨fun h => UInt16.toNat_inj.1 (by omega), fun h => by rw [h]⟩
theorem dec32 {a b : UInt32} : ((a.toNat : Int) == (b.toNat : Int)) = decide (a = b) := by
  rw [Bool.eq_iff_iff]; simp only [beq_iff_eq, decide_eq_true_eq]
  exact ⟨fun h => UInt32.toNat_inj.1 (by omega), fun h => by rw [h]⟩
theorem Ex.eql8 {a b : UInt8} (hx : ev e x = some (vu8 a)) (hy : ev e y = some (vu8 b)) : Ex P e ⟨some d, .binOp .eql xt x y yt, T, pos, af, none⟩ (vb (decide (a = b))) := Ex.eq (Ex.eql hx hy) (congrArg Value.bool dec8)
theorem Ex.neq8 {a b : UInt8} (hx : ev e x = some (vu8 a)) (hy : ev e y = some (vu8 b)) : Ex P e ⟨some d, .binOp .neq xt x y yt, T, pos, af, none⟩ (vb (!decide (a = b))) := Ex.eq (Ex.neq hx hy) (congrArg Value.bool (by rw [bne, dec8]))
theorem Ex.lss8 {a b : UInt8} (hx : ev e x = some (vu8 a)) (hy : ev e y = some (vu8 b)) : Ex P e ⟨some d, .binOp .lss xt x y yt, T, pos, af, none⟩ (vb (decide (a < b))) := Ex.eq (Ex.lss hx hy) (congrArg Value.bool (by rw [Bool.eq_iff_iff]; simp [UInt8.lt_iff_toNat_lt]))
theorem Ex.gtr8 {a b : UInt8} (hx : ev e x = some (vu8 a)) (hy : ev e y = some (vu8 b)) : Ex P e ⟨some d, .binOp .gtr xt x y yt, T, pos, af, none⟩ (vb (decide (b < a))) := Ex.eq (Ex.gtr hx hy) (congrArg Value.bool (by rw [Bool.eq_iff_iff]; simp [UInt8.lt_iff_toNat_lt]))
theorem Ex.leq8 {a b : UInt8} (hx : ev e x = some (vu8 a)) (hy : ev e y = some (vu8 b)) : Ex P e ⟨some d, .binOp .leq xt x y yt, T, pos, af, none⟩ (vb (decide (a ≤ b))) := Ex.eq (Ex.leq hx hy) (congrArg Value.bool (by rw [Bool.eq_iff_iff]; simp [UInt8.le_iff_toNat_le]))
theorem Ex.geq8 {a b : UInt8} (hx : ev e x = some (vu8 a)) (hy : ev e y = some (vu8 b)) : Ex P e ⟨some d, .binOp .geq xt x y yt, T, pos, af, none⟩ (vb (decide (b ≤ a))) := Ex.eq (Ex.geq hx hy) (congrArg Value.bool (by rw [Bool.eq_iff_iff]; simp [UInt8.le_iff_toNat_le]))
theorem Ex.eqlI {a b : Int} (hx : ev e x = some (vi a)) (hy : ev e y = some (vi b)) : Ex P e ⟨some d, .binOp .eql xt x y yt, T, pos, af, none⟩ (vb (decide (a = b))) := Ex.eql hx hy
theorem Ex.neqI {a b : Int} (hx : ev e x = some (vi a)) (hy : ev e y = some (vi b)) : Ex P e ⟨some d, .binOp .neq xt x y yt, T, pos, af, none⟩ (vb (!decide (a = b))) := Ex.neq hx hy
theorem Ex.eqlT {s t : Str} (hx : ev e x = some (vs s)) (hy : ev e y = some (vs t)) : Ex P e ⟨some d, .binOp .eql xt x y yt, T, pos, af, none⟩ (vb (decide (s = t))) :=
  Ex.eq (Ex.eqlS hx hy) (congrArg Value.bool (by rw [Bool.eq_iff_iff]; simp))
theorem Ex.neqT {s t : Str} (hx : ev e x = some (vs s)) (hy : ev e y = some (vs t)) : Ex P e ⟨some d, .binOp .neq xt x y yt, T, pos, af, none⟩ (vb (!decide (s = t))) :=
  Ex.eq (Ex.neqS hx hy) (congrArg Value.bool (by rw [Bool.eq_iff_iff]; simp))
theorem Ex.eqlBo {a b : Bool} (hx : ev e x = some (vb a)) (hy : ev e y = some (vb b)) (ht : P.underlying xt = some .bool) : Ex P e ⟨some d, .binOp .eql xt x y yt, T, pos, af, none⟩ (vb (decide (a = b))) :=
  Ex.eq (Ex.eqlB hx hy ht) (congrArg Value.bool (by cases a <;> cases b <;> rfl))
theorem Ex.neqBo {a b : Bool} (hx : ev e x = some (vb a)) (hy : ev e y = some (vb b)) (ht : P.underlying xt = some .bool) : Ex P e ⟨some d, .binOp .neq xt x y yt, T, pos, af, none⟩ (vb (!decide (a = b))) :=
  Ex.eq (Ex.neqB hx hy ht) (congrArg Value.bool (by cases a <;> cases b <;> rfl))
theorem Ex.lenT {args : Array Operand} {tys : Array TypeId} {s : Str} {t : TypeId} (ha : args = #[x]) (hx : ev e x = some (vs s)) (hty : tys = #[t]) (ht : P.underlying t = some .string) : Ex P e ⟨some d, .call ⟨.builtin .len, args, tys⟩, T, pos, af, none⟩ (vi (s.length : Int)) :=
  Ex.eq (Ex.lenS ha hx hty ht) (congrArg (Value.int .i64) (by simp [ByteArray.size]))
theorem Ex.max2 {args : Array Operand} {tys : Array TypeId} {q : IntKind} {a b : Int} (ha : args = #[x, y]) (hx : ev e x = some (.int q a)) (hy : ev e y = some (.int q b)) :
    Ex P e ⟨some d, .call ⟨.builtin .max, args, tys⟩, T, pos, af, none⟩ (.int q (max a b)) := by
  intro c hc w
  subst ha
  simp [execOp, hc _ _ hx, hc _ _ hy, resolve, invoke, builtin, Builtin.max_, Builtin.max2]
  rw [Int.max_def]
  split <;> split <;> omega
theorem Ex.funcE {fn : Fn} {first captured : Array Operand} {fv cv : List Value} (h1 : evl e first.toList = some fv) (h2 : evl e captured.toList = some cv) : Ex P e ⟨some d, .makeFunc fn first captured, T, pos, af, none⟩ (.func fn fv.toArray cv.toArray) :=
  Ex.func (fun ρ hρ => by
    have := evl_spec hρ h1
    rw [← Array.toList_map] at this
    rw [← this]) (fun ρ hρ => by
    have := evl_spec hρ h2
    rw [← Array.toList_map] at this
    rw [← this])
end
/-! ### Equality of structs -/
def EqV (P : Program) (m : Nat) (t : TypeId) (v v' : Value) (b : Bool) : Prop := ∀ w, (Op.equalIn m t v v').run P w = .ok b w
def EqFs (P : Program) (m : Nat) (xs ys : Array Value) : List Field → Bool → Prop
  | [], b => b = true
  | f :: r, b => ∃ v v' b1 b2, f.name ≠ "_" ∧ (∀ w, (part f.type xs f.offset).run P w = .ok v w) ∧ (∀ w, (part f.type ys f.offset).run P w = .ok v' w) ∧ EqV P m f.type v v' b1 ∧ EqFs P m xs ys r b2 ∧ b = (b1 && b2)
theorem EqV.int {t : TypeId} {q k : IntKind} {a b : Int} {m : Nat} (hu : P.underlying t = some (.int q)) : EqV P (m + 1) t (.int k a) (.int k b) (decide (a = b)) := fun w => run_equalIn_int w m t k q a b hu
theorem EqV.u8 {t : TypeId} {q : IntKind} {a b : UInt8} {m : Nat} (hu : P.underlying t = some (.int q)) : EqV P (m + 1) t (vu8 a) (vu8 b) (decide (a = b)) := fun w => by rw [run_equalIn_int w m t _ q _ _ hu, dec8]
theorem EqV.str {t : TypeId} {a b : Str} {m : Nat} (hu : P.underlying t = some .string) : EqV P (m + 1) t (vs a) (vs b) (decide (a = b)) := fun w => by
  rw [run_equalIn_string w m t _ _ hu]
  congr 1
  rw [Bool.eq_iff_iff]
  simp [ByteArray.toList_eq]
theorem EqV.bool {t : TypeId} {a b : Bool} {m : Nat} (hu : P.underlying t = some .bool) : EqV P (m + 1) t (.bool a) (.bool b) (decide (a = b)) := fun w => by
  rw [run_equalIn_bool' w m t a b hu]
  cases a <;> cases b <;> rfl
theorem run_eqFs {m : Nat} {xs ys : Array Value} : ∀ {fs : List Field} {b : Bool}, EqFs P m xs ys fs b → ∀ w, (Op.eqFields m xs ys fs).run P w = .ok b w
  | [], b, h, w => by cases h; simp [Op.eqFields]
  | f :: r, b, ⟨v, v', b1, b2, hn, h1, h2, h3, h4, hb⟩, w => by
    have h5 := run_eqFs h4 w
    have h6 := h3 w
    simp only [Op.eqFields]
    rw [if_pos hn]
    subst hb
    cases b1
    · simp [h1, h2, h6]
    · simp [h1, h2, h6, h5]
theorem EqV.agg {t : TypeId} {fs : Array Field} {xs ys : Array Value} {m : Nat} {b : Bool} (ht : P.underlying t = some (.struct fs)) (hp : P.stoodInHeld t = false) (hf : EqFs P m xs ys fs.toList b) : EqV P (m + 1) t (.agg xs) (.agg ys) b := fun w => by
  have hfs : P.fieldsOf t = fs := by simp [Program.fieldsOf, ht]
  rw [run_equalIn_struct w m t xs ys (by rw [hfs]; exact ht) hp, hfs]
  exact run_eqFs hf w
theorem EqV.re {t : TypeId} {v v' : Value} {m : Nat} {b b' : Bool} (h : EqV P m t v v' b) (hb : b = b') : EqV P m t v v' b' := hb ▸ h
theorem Ex.eqlV {xt yt : TypeId} {x y : Operand} {cs ds : Array Value} {b : Bool} (hx : ev e x = some (.agg cs)) (hy : ev e y = some (.agg ds)) (hr : EqV P 10000 xt (.agg cs) (.agg ds) b) (hm : P.eqGuardType P.depth xt = false) : Ex P e ⟨some d, .binOp .eql xt x y yt, T, pos, af, none⟩ (vb b) := fun c hc w => by
  have h := hr w
  have h2 := run_eqGuard_agg w .eql xt x y cs ds hm
  have h3 := run_eql_struct (P := P) w xt cs ds
  rw [h] at h3
  simp only [execOp, hc _ _ hx, hc _ _ hy]
  simp [h2, h3]
theorem Ex.neqV {xt yt : TypeId} {x y : Operand} {cs ds : Array Value} {b : Bool} (hx : ev e x = some (.agg cs)) (hy : ev e y = some (.agg ds)) (hr : EqV P 10000 xt (.agg cs) (.agg ds) b) (hm : P.eqGuardType P.depth xt = false) : Ex P e ⟨some d, .binOp .neq xt x y yt, T, pos, af, none⟩ (vb (!b)) := fun c hc w => by
  have h := hr w
  have h2 := run_eqGuard_agg w .neq xt x y cs ds hm
  have h3 := run_neq_struct (P := P) w xt cs ds
  rw [h] at h3
  simp only [execOp, hc _ _ hx, hc _ _ hy]
  simp [h2, h3]
/-! ### Elements and pieces, in whatever order -/
theorem SlH.elem {τ : Ty α} {A : Option Addr} {c : Nat} {xs : List α} {a : α} {i : Int} (hs : SlH τ ζ ζ' A c xs) (hg : atI xs i = some a) : ∃ g p o cs, A = some ⟨g, p, none⟩ ∧ o = p + i.toNat * τ.sz ∧ τ.R ζ cs a ∧ Zc ζ' g o cs := by
  obtain ⟨h0, h1, h2⟩ := atI_some hg
  obtain ⟨hl, hm, cells, hC, h4⟩ := hs
  rcases h4 with rfl | ⟨g, o, rfl, h4⟩
  · simp at h1; omega
  · obtain ⟨cs, hr, hc⟩ := hC.at_ h2
    refine ⟨g, o, _, cs, rfl, rfl, hr, fun j u hj => ?_⟩
    have := h4 _ _ (hc j u hj)
    rw [← Nat.add_assoc] at this
    exact this
theorem own_elem {τ : Ty α} {A : Option Addr} {c E l : Nat} {xs : List α} {cells : List Value} {a : α} {i : Int} (hC : Cs τ ζ cells xs) (hl : xs.length = l) {h0 : Zp} (hp0 : (orow E τ.sz (.slice A l c) l cells).p h0) (hg : atI xs i = some a) :
    ∃ g p o cs, A = some ⟨g, p, none⟩ ∧ o = p + i.toNat * τ.sz ∧ τ.R ζ cs a ∧ (∀ h, (orow E τ.sz (.slice A l c) l cells).p h → Zc h g o cs) := by
  subst hl
  obtain ⟨h0, h1, h2⟩ := atI_some hg
  obtain ⟨cs, hr, hc⟩ := hC.at_ h2
  obtain ⟨hl, hm, cells', hC', h4⟩ := own_slh hC rfl hp0
  rcases h4 with rfl | ⟨g, o, rfl, -⟩
  · simp at h1; omega
  · refine ⟨g, o, _, cs, rfl, rfl, hr, fun h hp' j u hj => ?_⟩
    obtain ⟨_, _, h3⟩ := hp'
    rcases h3 with ⟨he, _⟩ | ⟨g', o', cap, cur, he, hg', hc', hm', hsz, ht'⟩
    · cases he
    · cases he
      have hcj := hc j u hj
      rw [← ht', List.getElem?_take] at hcj
      split at hcj
      · simp only [zc, hg']
        simpa [Nat.add_assoc] using hcj
      · cases hcj
theorem Ex.ixA {z : Nat} {A : Option Addr} {c l : Nat} {xs : List α} {a : α} {xt et : TypeId} {x y : Operand} {q : IntKind} {i : Int} {g p o : Nat} (hA : A = some ⟨g, p, none⟩) (ho : o = p + i.toNat * z) (hg : atI xs i = some a) (hl : xs.length = l) (hx : ev e x = some (.slice A l c)) (hy : ev e y = some (.int q i)) (ht : P.underlying xt = some (.slice et)) (hz : (P.info? et).map (·.size) = some z) :
    Ex P e ⟨some d, .indexAddr xt x y, T, pos, af, none⟩ (.pointer (some ⟨g, o, none⟩)) := by
  obtain ⟨h0, h1, h2⟩ := atI_some hg
  subst ho hl
  exact Ex.indexAddr hx hy ht hz hA h0 h1 rfl
theorem zsub {h : Zp} {sz : Nat} {A : Option Addr} {c i j : Nat} {cells : List Value} (hij : i ≤ j) (hjc : j ≤ c) {g o : Nat} (hA : A = some ⟨g, o, none⟩) (h4 : Zc h g o cells) :
    ∃ g o, (if c = i then A else A.map (·.add (i * sz))) = some ⟨g, o, none⟩ ∧ Zc h g o ((cells.take (j * sz)).drop (i * sz)) := by
  subst hA
  by_cases hc : c = i
  · rw [if_pos hc]
    refine ⟨g, o, rfl, fun t u ht => ?_⟩
    have h6 : (cells.take (j * sz)).drop (i * sz) = [] := by
      refine List.drop_eq_nil_of_le ?_
      rw [List.length_take]
      have := Nat.mul_le_mul_right sz (show j ≤ i by omega)
      omega
    rw [h6] at ht
    cases ht
  · rw [if_neg hc]
    refine ⟨g, o + i * sz, by rw [Option.map_some, addr_lit rfl], fun t u ht => ?_⟩
    rw [List.getElem?_drop, List.getElem?_take] at ht
    split at ht
    · have := h4 _ _ ht
      rwa [← Nat.add_assoc] at this
    · cases ht
theorem SlH.sub {τ : Ty α} {A : Option Addr} {c : Nat} {xs ys : List α} {i j : Int} (hs : SlH τ ζ ζ' A c xs) (hsub : cutI xs i j = some ys) :
    ∃ A' c', A' = (if c = i.toNat then A else A.map (·.add (i.toNat * τ.sz))) ∧ (c' = c - i.toNat ∧ xs.length ≤ c) ∧ SlH τ ζ ζ' A' c' ys := by
  obtain ⟨h0, h1, h2, rfl⟩ := cutI_some hsub
  obtain ⟨hl, hm, cells, hC, h4⟩ := hs
  have hlen : ((xs.take j.toNat).drop i.toNat).length = j.toNat - i.toNat := by simp; omega
  refine ⟨_, _, rfl, ⟨rfl, hl⟩, by omega, by omega, ((cells.take (j.toNat * τ.sz)).drop (i.toNat * τ.sz)), (hC.take _).drop _, ?_⟩
  rcases h4 with rfl | ⟨g, o, hA, h4⟩
  · exact .inl (by simp)
  · exact .inr (zsub (by omega) (by omega) hA h4)
theorem own_sub {τ : Ty α} {A : Option Addr} {c E l : Nat} {xs ys : List α} {cells : List Value} {i j : Int} (hC : Cs τ ζ cells xs) (hl : xs.length = l) {h0 : Zp} (hp0 : (orow E τ.sz (.slice A l c) l cells).p h0) (hsub : cutI xs i j = some ys) :
    ∃ A' c', A' = (if c = i.toNat then A else A.map (·.add (i.toNat * τ.sz))) ∧ (c' = c - i.toNat ∧ xs.length ≤ c) ∧ ∀ h, (orow E τ.sz (.slice A l c) l cells).p h → SlH τ ζ h A' c' ys := by
  subst hl
  refine ⟨_, _, rfl, ⟨rfl, (own_slh hC rfl hp0).1⟩, fun h hp => ?_⟩
  obtain ⟨A', c', rfl, ⟨rfl, _⟩, h⟩ := (own_slh hC rfl hp).sub hsub
  exact h
theorem Ex.subA {z : Nat} {A A' : Option Addr} {c c' l : Nat} {xs ys : List α} {xt et : TypeId} {x : Operand} {lo hi : Option Operand} {i j : Int} (hA : A' = (if c = i.toNat then A else A.map (·.add (i.toNat * z)))) (hB : c' = c - i.toNat ∧ xs.length ≤ c) (hsub : cutI xs i j = some ys) (hl0 : xs.length = l) (hx : ev e x = some (.slice A l c)) (ht : P.underlying xt = some (.slice et)) (hz : (P.info? et).map (·.size) = some z)
    (hlo : match lo with | none => i = 0 | some o => ev e o = some (.int .i64 i)) (hhi : match hi with | none => j = l | some o => ev e o = some (.int .i64 j)) : Ex P e ⟨some d, .slice xt x lo hi none, T, pos, af, none⟩ (.slice A' ys.length c') := by
  obtain ⟨h0, h1, h2, rfl⟩ := cutI_some hsub
  have hlen : ((xs.take j.toNat).drop i.toNat).length = j.toNat - i.toNat := by simp; omega
  obtain ⟨rfl, hl⟩ := hB
  subst hA hl0
  rw [hlen]
  exact Ex.cut hx ht hz hlo hhi h0 h1 (by omega)
theorem Ex.len' {args : Array Operand} {tys : Array TypeId} {x : Operand} {ad : Option Addr} {l c : Nat} {t et : TypeId} (ha : args = #[x]) (hx : ev e x = some (.slice ad l c)) (hty : tys = #[t]) (ht : P.underlying t = some (.slice et)) : Ex P e ⟨some d, .call ⟨.builtin .len, args, tys⟩, T, pos, af, none⟩ (vi (l : Int)) := Ex.len ha hx hty ht
/-- string(b) -/
theorem Ops.str8 {src dst et : TypeId} {x : Operand} {A : Option Addr} {c : Nat} {xs : Str} (hs : SlH tU8 ζ (hp w) A c xs) (hx : ev e x = some (.slice A xs.length c)) (ht : P.underlying src = some (.slice et)) (he : P.underlying et = some (.int .u8)) (hd : P.underlying dst = some .string) (hn : Nat.blt d n.size = true)
    (h : Ops P n Qf k ops rest ((d, vs xs) :: e) w) : Ops P n Qf k ops (⟨some d, .convert src dst x, T, pos, af, none⟩ :: rest) e w := by
  obtain ⟨news, hC, hrd⟩ := hs.rd
  have hnews : news = (xs.map fun b : UInt8 => (b.toNat : Int)).map (Value.int .u8) := by
    obtain ⟨css, h1, rfl⟩ := hC
    clear hrd hs hx h
    induction xs generalizing css with
    | nil => cases css with
      | nil => rfl
      | cons c cs => exact h1.elim
    | cons b bs ih => cases css with
      | nil => exact h1.elim
      | cons c cs =>
        have e1 : c = [vu8 b] := h1.1
        rw [List.flatten_cons, e1, ih cs h1.2]
        rfl
  rw [hnews] at hrd
  have h2 := run_toStr (P := P) (w := w) ht he hd hrd
  have h3 : strOfNums (xs.map fun b : UInt8 => (b.toNat : Int)) = ⟨xs.toArray⟩ := by
    unfold strOfNums
    congr 1
    rw [List.map_map]
    have : ((fun n : Int => UInt8.ofNat n.toNat) ∘ fun b : UInt8 => (b.toNat : Int)) = id := by
      funext b
      simp
    rw [this, List.map_id]
  refine Ops.val rfl rfl hn (fun cc hc => ?_) h
  simp [execOp, hc _ _ hx, h2, h3]
end
end Go.Proofs.YtiekoeapmhhjbaaGreatDoor.Sx
