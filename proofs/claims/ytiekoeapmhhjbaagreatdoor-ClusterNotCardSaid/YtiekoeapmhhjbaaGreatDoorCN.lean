/- ClusterNot: whatever the id and the say. -/
import Derived.Test.YtiekoeapmhhjbaaGreatDoorMH
import Derived.Test.YtiekoeapmhhjbaaGreatDoorC1
namespace Go.Proofs.YtiekoeapmhhjbaaGreatDoor.X
open Go Go.RowKit
set_option linter.unusedVariables false
set_option linter.unusedSimpArgs false
set_option maxRecDepth 100000
set_option maxHeartbeats 0
variable {c : Ctx} {Γ Γ' : Gm} {m m' : M} {w w' : World} {e e' : En} {a : Act} {ds : List Nat} {sz : Nat}
/-! ### Say.Cmd -/
theorem start_ht (W : World) : Sx.Ht W (Sx.frz (Sx.hp W) :: []) W := by
  refine ⟨Sx.Fr.refl _ _, fun R hR k hk => ⟨.inl trivial, ?_⟩, fun R hR => ?_, List.pairwise_cons.2 ⟨fun R hR => (by cases hR), List.Pairwise.nil⟩⟩
  · rw [List.mem_singleton] at hR; subst hR
    have hk' : (Sx.hp W k).isSome = true := hk
    rcases Nat.lt_or_ge k W.heap.size with h' | h'
    · exact h'
    · simp [Sx.hp, h'] at hk'
  · rw [List.mem_singleton] at hR; subst hR
    exact fun k o h => h
theorem ht_below {W W' : World} {z : Sx.Zp} {H : List Sx.Res} (h : Sx.Ht W (Sx.frz z :: H) W') (hl : Sx.Le (Sx.hp W) z) : Below W.heap.size W W' := by
  refine ⟨h.fr.os, h.fr.tape, h.fr.output, h.fr.size, fun k hk => ?_⟩
  have h1 : Sx.hp W k = some (W.heap[k]'hk) := by simp [Sx.hp, hk]
  have h2 := h.le k _ (hl k _ h1)
  rw [show W'.heap[k]? = Sx.hp W' k from rfl, h2]
  simp [hk]
theorem key_cut : ∀ k : Fin 256, (Sx.cutI [97, 98, 99, 100, 101, 102, 103, 104] (((UInt8.ofNat k.val) % 8).toNat : Int) ((((UInt8.ofNat k.val) % 8) + 1).toNat : Int) : Option Sx.Str).isSome = true := by decide +kernel
theorem dig_cut : ∀ k : Fin 256, (Sx.cutI [48, 49, 50, 51, 52, 53, 54, 55, 56, 57] (((UInt8.ofNat k.val) % 10).toNat : Int) ((((UInt8.ofNat k.val) % 10) + 1).toNat : Int) : Option Sx.Str).isSome = true := by decide +kernel
theorem v_cut : ∀ k : Fin 256, (Sx.cutI [118] 0 (((UInt8.ofNat k.val) % 2).toNat : Int) : Option Sx.Str).isSome = true := by decide +kernel
theorem u8_fin (x : UInt8) : ∃ k : Fin 256, x = UInt8.ofNat k.val := ⟨⟨x.toNat, x.toNat_lt⟩, by simp⟩
theorem is_some {α : Type} {o : Option α} (h : o.isSome = true) : ∃ a, o = some a := Option.isSome_iff_exists.1 h
theorem cut_len {xs ys : List UInt8} {i j : Int} (h : Sx.cutI xs i j = some ys) : ys.length ≤ xs.length := by
  obtain ⟨_, _, _, rfl⟩ := Sx.cutI_some h
  simp
  omega
theorem cat_ok {s t : Sx.Str} (h1 : s.length ≤ 10) (h2 : t.length ≤ 10) : Sx.catI s t = some (s ++ t) := by
  unfold Sx.catI
  rw [if_pos (by omega)]
theorem say_total (p : C1.law06Say) : ∃ r, C1.go_law06_Say_Cmd p = some r := by
  obtain ⟨k1, hk1⟩ := u8_fin p.Key
  obtain ⟨k2, hk2⟩ := u8_fin p.Value
  obtain ⟨k3, hk3⟩ := u8_fin p.Old
  obtain ⟨s1, h1⟩ := is_some (key_cut k1)
  obtain ⟨s2, h2⟩ := is_some (v_cut k2)
  obtain ⟨s3, h3⟩ := is_some (dig_cut k2)
  obtain ⟨s4, h4⟩ := is_some (v_cut k3)
  obtain ⟨s5, h5⟩ := is_some (dig_cut k3)
  have l1 := cut_len h1
  have l2 := cut_len h2
  have l3 := cut_len h3
  have l4 := cut_len h4
  have l5 := cut_len h5
  simp only [List.length_cons, List.length_nil] at l1 l2 l3 l4 l5
  have j : ∀ s t : Sx.Str, ∃ r, C1.go_law06_Say_Cmd.j1 p s t = some r := fun s t => by
    unfold C1.go_law06_Say_Cmd.j1
    rw [hk3, h4, h5]
    simp only [Option.bind_some]
    rw [cat_ok (by omega) (by omega)]
    simp only [Option.bind_some]
    split <;> exact ⟨_, rfl⟩
  unfold C1.go_law06_Say_Cmd
  rw [hk1, h1]
  simp only [Option.bind_some]
  rw [cat_ok (by simp) (by omega), hk2, h2]
  simp only [Option.bind_some]
  rw [h3]
  simp only [Option.bind_some]
  rw [cat_ok (by omega) (by omega)]
  simp only [Option.bind_some]
  split
  · exact ⟨_, rfl⟩
  · split
    · exact j _ _
    · exact j _ _
noncomputable def byteR : V := .rng .u8 0 255
noncomputable def sayV : V := .agg [byteR, byteR, byteR, byteR, byteR, byteR]
noncomputable def cmdV : V := .agg [.any, .any, .any, .any, .any, .any]
noncomputable def cmdF : Fnf := fun _ m vs K => bi (eqLs (eqV 4) vs [sayV]) (K cmdV m) none
theorem byte_dv {ν : Nat → Value → Prop} (b : UInt8) : DV ν Γ byteR (Sx.vu8 b) := by
  unfold byteR
  rw [DV]
  have h := b.toNat_lt
  refine ⟨b.toNat, by omega, by omega, ?_⟩
  unfold Sx.vu8
  rw [wrap_pos (k := .u8) (by show Nat.blt b.toNat 256 = true; rw [Nat.blt_eq]; exact h)]
theorem say_dv (p : C1.law06Say) (Γ : Gm) (ν : Nat → Value → Prop) : DV ν Γ sayV (.agg #[Sx.vu8 p.Op, Sx.vu8 p.Client, Sx.vu8 p.Seq, Sx.vu8 p.Key, Sx.vu8 p.Value, Sx.vu8 p.Old]) := by
  unfold sayV
  rw [DV]
  refine ⟨[Sx.vu8 p.Op, Sx.vu8 p.Client, Sx.vu8 p.Seq, Sx.vu8 p.Key, Sx.vu8 p.Value, Sx.vu8 p.Old], ?_, ?_, rfl⟩
  · exact DVL.cons (byte_dv _) (DVL.cons (byte_dv _) (DVL.cons (byte_dv _) (DVL.cons (byte_dv _) (DVL.cons (byte_dv _) (DVL.cons (byte_dv _) DVL.nil)))))
  · intro y hy
    simp only [List.mem_cons, List.not_mem_nil, or_false] at hy
    rcases hy with rfl | rfl | rfl | rfl | rfl | rfl <;> rfl
theorem byte_of {ν : Nat → Value → Prop} {x : Value} (h : DV ν Γ byteR x) : ∃ b : UInt8, x = Sx.vu8 b := by
  unfold byteR at h
  obtain ⟨n, _, h2, rfl⟩ := dv_rng (c := { ν, w0 := default, pr := fun _ => none, r0 := fun _ => .dead }) h
  refine ⟨UInt8.ofNat n, ?_⟩
  unfold Sx.vu8
  congr 1
theorem cmd_ok (X : Ex) : SndFn 17 (cmdF X) := by
  intro c m vs K Γ w args hR hv hy
  obtain ⟨h1, hK⟩ := yes_bi hy
  have hvs := eqLs_eq (fun a b h => eqV_eq 4 h) h1
  subst hvs
  obtain ⟨y, rfl, hyv⟩ := dvl1 hv
  unfold sayV at hyv
  obtain ⟨ys, hys, hone, rfl⟩ := dv_agg hyv
  rw [DVL] at hys
  obtain ⟨y1, s1, rfl, d1, hys⟩ := hys
  rw [DVL] at hys
  obtain ⟨y2, s2, rfl, d2, hys⟩ := hys
  rw [DVL] at hys
  obtain ⟨y3, s3, rfl, d3, hys⟩ := hys
  rw [DVL] at hys
  obtain ⟨y4, s4, rfl, d4, hys⟩ := hys
  rw [DVL] at hys
  obtain ⟨y5, s5, rfl, d5, hys⟩ := hys
  rw [DVL] at hys
  obtain ⟨y6, s6, rfl, d6, hys⟩ := hys
  rw [DVL] at hys
  subst hys
  obtain ⟨b1, rfl⟩ := byte_of d1
  obtain ⟨b2, rfl⟩ := byte_of d2
  obtain ⟨b3, rfl⟩ := byte_of d3
  obtain ⟨b4, rfl⟩ := byte_of d4
  obtain ⟨b5, rfl⟩ := byte_of d5
  obtain ⟨b6, rfl⟩ := byte_of d6
  obtain ⟨r, hr⟩ := say_total ⟨b1, b2, b3, b4, b5, b6⟩
  have hw := C1.go_law06_Say_Cmd.walk (start_ht w) hr
  have hf : P.funcs[17]? = some Tryz.f17 := by kernel_rfl
  refine ⟨Tryz.f17, hf, .inl ⟨by kernel_rfl, ?_⟩⟩
  have hw' : Calls P 17 [Value.agg #[Sx.vu8 b1, Sx.vu8 b2, Sx.vu8 b3, Sx.vu8 b4, Sx.vu8 b5, Sx.vu8 b6]].toArray w fun e w' => ∃ z', e = .returned (.agg #[Sx.vi r.Op, Sx.vi r.Client, Sx.vi r.Seq, Sx.vs r.Key, Sx.vs r.Value, Sx.vs r.Old]) ∧ Sx.Le (Sx.hp w) z' ∧ Sx.Ht w (Sx.frz z' :: []) w' := hw
  refine hw'.mono fun x w' hx => ?_
  obtain ⟨z', rfl, hle, hst⟩ := hx
  have bel := ht_below hst hle
  refine ⟨cmdV, _, m, Γ, rfl, LeG.refl _, hR.idle bel.os bel.tape bel.output bel.size bel.block, ?_, hK⟩
  unfold cmdV
  rw [DV]
  refine ⟨[Sx.vi r.Op, Sx.vi r.Client, Sx.vi r.Seq, Sx.vs r.Key, Sx.vs r.Value, Sx.vs r.Old], ?_, ?_, rfl⟩
  · have any_ : ∀ x, DV c.ν Γ .any x := fun x => by rw [DV]; trivial
    exact DVL.cons (any_ _) (DVL.cons (any_ _) (DVL.cons (any_ _) (DVL.cons (any_ _) (DVL.cons (any_ _) (DVL.cons (any_ _) DVL.nil)))))
  · intro y hy
    simp only [List.mem_cons, List.not_mem_nil, or_false] at hy
    rcases hy with rfl | rfl | rfl | rfl | rfl | rfl <;> rfl
/-! ### the hooks -/
theorem awake17 : runB hookF 14 [] = true := by kernel_rfl
noncomputable def hook17 : Hk := fun f => bi (Nat.beq f 14) (some awk) (bi (Nat.beq f 17) (some cmdF) (hookF f))
theorem hook17_ok : HkOK hook17 := by
  intro f g h n X hX
  unfold hook17 at h
  cases h1 : Nat.beq f 14 with
  | true =>
    rw [h1] at h
    cases h
    have := Nat.eq_of_beq_eq_true h1
    subst this
    exact awk_ok awake17 X
  | false =>
    rw [h1] at h
    have h : bi (Nat.beq f 17) (some cmdF) (hookF f) = some g := h
    cases h2 : Nat.beq f 17 with
    | true =>
      rw [h2] at h
      cases h
      have := Nat.eq_of_beq_eq_true h2
      subst this
      exact cmd_ok X
    | false =>
      rw [h2] at h
      exact hooks f g h n X hX
/-! ### the law's code, in pieces -/
noncomputable def sqA : Code → Code
  | .seq a _ => a
  | q => q
noncomputable def sqB : Code → Code
  | .seq _ b => b
  | q => q
noncomputable def q4 : Code := (Tryz.f4.body).getD .skip
noncomputable def a0 : Code := sqA q4
noncomputable def a1 : Code := sqA (sqB q4)
noncomputable def a2 : Code := sqA (sqB (sqB q4))
noncomputable def a3 : Code := sqA (sqB (sqB (sqB q4)))
noncomputable def a4 : Code := sqA (sqB (sqB (sqB (sqB q4))))
noncomputable def a5 : Code := sqB (sqB (sqB (sqB (sqB q4))))
theorem q4_body : Tryz.f4.body = some q4 := by kernel_rfl
theorem q4_eq : q4 = .seq a0 (.seq a1 (.seq a2 (.seq a3 (.seq a4 a5)))) := by kernel_rfl
noncomputable def regL : Code → List Oper
  | .region _ ops _ => ops.toList
  | _ => []
noncomputable def op_ (i : Nat) : Oper := ((regL a4)[i]?).getD default
theorem a4_eq : a4 = .region 6 [op_ 0, op_ 1, op_ 2, op_ 3].toArray false := by kernel_rfl
theorem op0_eq : op_ 0 = ⟨some 13, .move (.tmp 0), (op_ 0).type, (op_ 0).pos, (op_ 0).after, none⟩ := by kernel_rfl
theorem op1_eq : op_ 1 = ⟨some 14, .binOp .rem 5 (.tmp 13) (.const (.int .u8 3)) 5, (op_ 1).type, (op_ 1).pos, (op_ 1).after, none⟩ := by kernel_rfl
theorem op2_eq : op_ 2 = ⟨some 15, .convert 5 3 (.tmp 14), (op_ 2).type, (op_ 2).pos, (op_ 2).after, none⟩ := by kernel_rfl
theorem op3_eq : op_ 3 = ⟨some 6, .assign (.tmp 15), (op_ 3).type, (op_ 3).pos, (op_ 3).after, none⟩ := by kernel_rfl
def SndF (c : Ctx) (X : Cf) (S : Option Nat → (Exit → Act → World → Prop) → Act → World → Prop) : Prop :=
  ∀ (sz : Nat) (rd rdp : Option Nat) (e : En) (ds : List Nat) (m : M) (Kn : Kn) (Kx : Kx) (Γ : Gm) (a : Act) (w : World) (Q : Exit → Act → World → Prop),
    rd.isNone = rdp.isNone → Rel c Γ m w → HasE c.ν Γ sz e ds a → GoesN c Γ sz Kn Q → GoesX c Γ sz Kx Q → Yes (X sz rd e ds m Kn Kx) → S rdp Q a w
theorem seq_snd {Xa Xb : Cf} {x y : Code} (ha : SndF c Xa (fun rdp Q a w => x.wpIn (Fw rdp) 0 P Q a w)) (hb : SndF c Xb (fun rdp Q a w => y.wpIn (Fw rdp) 0 P Q a w)) :
    SndF c (fun sz rd e ds m Kn Kx => Xa sz rd e ds m (fun e ds m => Xb sz rd e ds m Kn Kx) Kx) (fun rdp Q a w => (Code.seq x y).wpIn (Fw rdp) 0 P Q a w) := by
  intro sz rd rdp e ds m Kn Kx Γ a w Q hrd hR hE hn hx hy
  refine wpIn_seq (ha sz rd rdp e ds m _ Kx Γ a w _ hrd hR hE ?_ ?_ hy)
  · intro Γ' e' ds' m' a' w' hl hR' ha' hy'
    exact hb sz rd rdp e' ds' m' Kn Kx Γ' a' w' Q hrd hR' ha' (hn.mono hl) (hx.mono hl) hy'
  · intro r Γ' e' ds' m' a' w' hne hl hR' ha' hy'
    cases r with
    | normal => exact absurd rfl hne
    | exit id => exact hx (.exit id) Γ' e' ds' m' a' w' xne hl hR' ha' hy'
    | ret => exact hx .ret Γ' e' ds' m' a' w' rne hl hR' ha' hy'
theorem step_pure {o : Oper} {v : Value} {rdp : Option Nat} {ops : Array Oper} {rest : List Oper} {Q : Exit → Act → World → Prop} (hg : o.guard = none) (hd : ∀ c, o.op ≠ .defer c) (hrun : (execOp a.eval o).run P w = .ok (.value v) w) (h : wpListIn (Fw rdp) 0 P ops Q rest (a.put o.dst v) w) : wpListIn (Fw rdp) 0 P ops Q (o :: rest) a w := by
  unfold wpListIn
  rw [if_pos (by unfold Region.wanted; rw [hg])]
  refine ⟨fun _ _ => trivial, ?_⟩
  rw [Oper.semAt_eq _ _ _ hd, hrun, Oper.uponIn_value]
  exact h
theorem put_get2 {d : Nat} {x : Value} {t : Nat} (h : t ≠ d) : (a.put (some d) x).tmps.getD t undef = a.tmps.getD t undef := put_get fun he => h (by cases he; rfl)
theorem a4_wp {n : Int} (h0 : 0 ≤ n) (hn : n < 256) (hsz : 15 < a.tmps.size) (ht : a.tmps.getD 0 undef = .int .u8 n) {rdp : Option Nat} {Q : Exit → Act → World → Prop}
    (hQ : ∀ a' : Act, a'.tmps.size = a.tmps.size → a'.defers = a.defers → a'.tmps.getD 6 undef = .int .i64 (n % 3) → (∀ t, t ≠ 13 → t ≠ 14 → t ≠ 15 → t ≠ 6 → a'.tmps.getD t undef = a.tmps.getD t undef) → Q .normal a' w) : a4.wpIn (Fw rdp) 0 P Q a w := by
  rw [a4_eq]
  refine wpIn_region_lit ?_
  obtain ⟨b1, hb1⟩ : ∃ b1, a.put (some 13) (.int .u8 n) = b1 := ⟨_, rfl⟩
  obtain ⟨b2, hb2⟩ : ∃ b2, b1.put (some 14) (.int .u8 (n % 3)) = b2 := ⟨_, rfl⟩
  obtain ⟨b3, hb3⟩ : ∃ b3, b2.put (some 15) (.int .i64 (n % 3)) = b3 := ⟨_, rfl⟩
  have s1 : b1.tmps.size = a.tmps.size := by rw [← hb1, put_size]
  have s2 : b2.tmps.size = a.tmps.size := by rw [← hb2, put_size, s1]
  have s3 : b3.tmps.size = a.tmps.size := by rw [← hb3, put_size, s2]
  have ev_ : ∀ (b : Act) (t : Nat) (v : Value), b.tmps.getD t undef = v → b.eval (.tmp t) = v := fun b t v h => h
  have look1 : ∀ (b : Act) (t : Nat) (v : Value), b.tmps.getD t undef = v → ∀ x u, Sx.ev [(t, v)] x = some u → b.eval x = u := fun b t v h x u hx => by
    cases x with
    | tmp t' =>
      have hx : Sx.look [(t, v)] t' = some u := hx
      rw [Sx.look_cons] at hx
      by_cases ht : t = t'
      · rw [if_pos ht] at hx
        cases hx
        rw [← ht]
        exact h
      · rw [if_neg ht] at hx
        cases hx
    | _ => cases hx; rfl
  refine step_pure (v := .int .u8 n) (by rw [op0_eq]) (fun c h => by rw [op0_eq] at h; cases h) (by rw [op0_eq]; exact Sx.Ex.move (e := [(0, .int .u8 n)]) rfl _ (look1 _ _ _ ht) w) ?_
  rw [show (op_ 0).dst = some 13 from by rw [op0_eq], hb1]
  have g1 : b1.tmps.getD 13 undef = .int .u8 n := by rw [← hb1]; exact put_same (by omega)
  refine step_pure (v := .int .u8 (n % 3)) (by rw [op1_eq]) (fun c h => by rw [op1_eq] at h; cases h) (by rw [op1_eq]; exact Sx.Ex.remI (e := [(13, .int .u8 n)]) rfl rfl (by decide) h0 _ (look1 _ _ _ g1) w) ?_
  rw [show (op_ 1).dst = some 14 from by rw [op1_eq], hb2]
  have g2 : b2.tmps.getD 14 undef = .int .u8 (n % 3) := by rw [← hb2]; exact put_same (by rw [s1]; omega)
  refine step_pure (v := .int .i64 (n % 3)) (by rw [op2_eq]) (fun c h => by rw [op2_eq] at h; cases h) (by rw [op2_eq]; exact Sx.Ex.convQ (e := [(14, .int .u8 (n % 3))]) rfl Tryz.underlying5 Tryz.underlying3 (by simp [IntKind.wrap, IntKind.signed, IntKind.bits]; omega) _ (look1 _ _ _ g2) w) ?_
  rw [show (op_ 2).dst = some 15 from by rw [op2_eq], hb3]
  have g3 : b3.tmps.getD 15 undef = .int .i64 (n % 3) := by rw [← hb3]; exact put_same (by rw [s2]; omega)
  refine step_pure (v := .int .i64 (n % 3)) (by rw [op3_eq]) (fun c h => by rw [op3_eq] at h; cases h) (by rw [op3_eq]; exact Sx.Ex.assign (e := [(15, .int .i64 (n % 3))]) rfl _ (look1 _ _ _ g3) w) ?_
  rw [show (op_ 3).dst = some 6 from by rw [op3_eq]]
  refine wpListIn_nil (hQ _ (by rw [put_size, s3]) (by rw [put_dfr, ← hb3, put_dfr, ← hb2, put_dfr, ← hb1, put_dfr]) (put_same (by rw [s3]; omega)) (fun t h1 h2 h3 h4 => ?_))
  rw [put_get2 h4, ← hb3, put_get2 h3, ← hb2, put_get2 h2, ← hb1, put_get2 h1]
noncomputable def tailX (r : Nat) (h : Hk) (X : Ex) : Cf := fun sz rd e ds m Kn Kx => bi (Nat.blt 15 sz) (bi (eqV 4 (gE 0 e) (.opq 0)) (run (cCode a5) h X sz rd (uE 6 (.int .i64 r) (uE 15 .any (uE 14 .any (uE 13 .any e)))) ds m Kn Kx) none) none
noncomputable def bodyX (r : Nat) (h : Hk) (X : Ex) : Cf := fun sz rd e ds m Kn Kx => run (cCode a0) h X sz rd e ds m (fun e ds m => run (cCode a1) h X sz rd e ds m (fun e ds m => run (cCode a2) h X sz rd e ds m (fun e ds m => run (cCode a3) h X sz rd e ds m (fun e ds m => tailX r h X sz rd e ds m Kn Kx) Kx) Kx) Kx) Kx
theorem any_get (k : Nat) (t : En) : gE k (uE k .any t) = .any := by rcases gE_same k .any t with h | h <;> exact h
theorem tail_snd {h : Hk} (hh : HkOK h) {n : Nat} {X : Ex} (hX : Snd n X) {r : Nat} {z : Int} (h0 : 0 ≤ z) (hz : z < 256) (hr : z % 3 = r) (hν : ∀ x, c.ν 0 x → x = .int .u8 z) : SndF c (tailX r h X) (fun rdp Q a w => (Code.seq a4 a5).wpIn (Fw rdp) 0 P Q a w) := by
  intro sz rd rdp e ds m Kn Kx Γ a w Q hrd hR ha hn hx hy
  obtain ⟨h1, hy⟩ := yes_bi hy
  obtain ⟨h2, hy⟩ := yes_bi hy
  rw [Nat.blt_eq] at h1
  have h3 := ha.at_ 0
  rw [eqV_eq 4 h2, DV] at h3
  refine wpIn_seq (a4_wp h0 hz (by rw [ha.size]; exact h1) (hν _ h3.1) (fun a' k1 k2 k3 k4 => ?_))
  refine code_ok facts (drawOK facts) hh hX a5 c sz rd rdp _ ds m Kn Kx Γ a' w Q hrd hR ⟨by rw [k1]; exact ha.size, fun t => ?_, by rw [k2]; exact ha.defers⟩ hn hx hy
  by_cases t6 : t = 6
  · subst t6
    rcases gE_same 6 (.int .i64 r) (uE 15 .any (uE 14 .any (uE 13 .any e))) with hg | hg
    · rw [hg, k3, DV, hr, wrap_pos (by show Nat.blt r 9223372036854775808 = true; rw [Nat.blt_eq]; omega)]
    · rw [hg, DV]; trivial
  · rw [gE_ne t6]
    by_cases t15 : t = 15
    · subst t15
      rw [any_get, DV]; trivial
    · rw [gE_ne t15]
      by_cases t14 : t = 14
      · subst t14
        rw [any_get, DV]; trivial
      · rw [gE_ne t14]
        by_cases t13 : t = 13
        · subst t13
          rw [any_get, DV]; trivial
        · rw [gE_ne t13, k4 t t13 t14 t15 t6]
          exact ha.at_ t
theorem body_snd {h : Hk} (hh : HkOK h) {n : Nat} {X : Ex} (hX : Snd n X) {r : Nat} {z : Int} (h0 : 0 ≤ z) (hz : z < 256) (hr : z % 3 = r) (hν : ∀ x, c.ν 0 x → x = .int .u8 z) : SndF c (bodyX r h X) (fun rdp Q a w => q4.wpIn (Fw rdp) 0 P Q a w) := by
  have hc := fun q => code_ok facts (drawOK facts) hh hX q c
  have h1 := seq_snd (hc a0) (seq_snd (hc a1) (seq_snd (hc a2) (seq_snd (hc a3) (tail_snd (c := c) hh hX h0 hz hr hν))))
  rw [q4_eq]
  exact h1
noncomputable def finK : Kt := fun v m => bi (leV (.bool true) v) (yesA m) none
noncomputable def runN4 (r : Nat) : Bool := okA (bodyX r hook17 (exec hook17 1000000) Tryz.f4.ntmps none (argT [.opq 0, sayV]) [] nilM (endF Tryz.f4.results.toList finK) (retK (endF Tryz.f4.results.toList finK)))
theorem run0 : runN4 0 = true := by kernel_rfl
theorem run1 : runN4 1 = true := by kernel_rfl
theorem run2 : runN4 2 = true := by kernel_rfl
theorem clusterNot_calls {W : World} (h6 : 6 ≤ W.heap.size) (z : Int) (h0 : 0 ≤ z) (hz : z < 256) {s : Value} (hs : ∀ Γ ν, DV ν Γ sayV s) : Calls P 4 #[.int .u8 z, s] W fun x W' => x = .returned (.bool true) ∧ Below W.heap.size W W' := by
  obtain ⟨c, hc⟩ : ∃ c, c = startC (fun _ x => x = .int .u8 z) W := ⟨_, rfl⟩
  have hR : Rel c startG nilM W := by rw [hc]; exact start_rel _ h6
  have hν : ∀ x, c.ν 0 x → x = .int .u8 z := by rw [hc]; exact fun x h => h
  have hv : DVL c.ν startG [.opq 0, sayV] [.int .u8 z, s] := by
    refine DVL.cons ?_ (DVL.cons (hs _ _) DVL.nil)
    rw [DV]
    exact ⟨by rw [hc]; rfl, rfl⟩
  have hf : P.funcs[4]? = some Tryz.f4 := by kernel_rfl
  have hX := exec_ok facts (drawOK facts) hook17_ok 1000000
  obtain ⟨r, hr, hrun⟩ : ∃ r : Nat, z % 3 = r ∧ runN4 r = true := by
    have : z % 3 = 0 ∨ z % 3 = 1 ∨ z % 3 = 2 := by omega
    rcases this with h | h | h
    · exact ⟨0, h, run0⟩
    · exact ⟨1, h, run1⟩
    · exact ⟨2, h, run2⟩
  have hnt : (2 : Nat) ≤ Tryz.f4.ntmps := Nat.le_of_ble_eq_true (by kernel_rfl)
  have ha := hasE_args (ν := c.ν) hv (n := Tryz.f4.ntmps) hnt
  have key : Calls P 4 [Value.int .u8 z, s].toArray W (Ends c startG finK) := by
    refine (callsIn_wide (n := 0)).1 (callsIn_of_wp_marks (F := Fw none) hf q4_body trivial ?_ rfl)
    refine body_snd hook17_ok hX h0 hz hr hν Tryz.f4.ntmps none none _ [] nilM _ _ startG _ W _ rfl hR ha ?_ ?_ (okA_yes hrun)
    · intro Γ' e' ds' m' a' w' hl hR' ha' hy'
      exact end_ok hl hR' ha' hy'
    · intro q Γ' e' ds' m' a' w' hne hl hR' ha' hy'
      cases q with
      | ret => exact end_ok hl hR' ha' hy'
      | _ => exact (yes_none hy').elim
  refine key.mono fun x W' hE => ?_
  obtain ⟨v, y, m', Γ', rfl, hl, hR', hy', hk⟩ := hE
  obtain ⟨h4, _⟩ := yes_bi hk
  have := leV_ok h4 hy'
  rw [dv_bool this]
  rw [hc] at hR'
  exact ⟨rfl, end_below hR'⟩
end Go.Proofs.YtiekoeapmhhjbaaGreatDoor.X
