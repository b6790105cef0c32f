/- Part G of the second layer: a range over a function, where the function's own answer is a function of lists. -/
import Derived.Test.YtfomkndngnfneaaDoorGnF
namespace Go.Proofs.YtfomkndngnfneaaDoor.Sx
open Go Go.RowKit
set_option linter.unusedVariables false
set_option linter.unusedSimpArgs false
section
variable {P : Program} {n : Fm} {Qf : Exit → Act → World → Prop} {k : List It} {e : Env} {w w' w0 : World} {H : List Res} {R R0 : Res} {ζ ζ' z : Zp} {ops : Array Oper} {rest : List Oper} {T : TypeId} {pos : String} {af : Array Edge} {d : Nat} {σ ε S : Type}
/-- What is handed over to an iterator, kept by it as it is. -/
def JH (J : σ → Zp → List Res → Prop) (s : σ) (z : Zp) (Hs : List Res) : Prop := ∃ z1, Le z1 z ∧ J s z1 Hs
theorem JH.mono {J : σ → Zp → List Res → Prop} {s : σ} {Hs : List Res} (h : JH J s ζ Hs) (hl : Le ζ ζ') : JH J s ζ' Hs := by
  obtain ⟨z1, h1, h2⟩ := h
  exact ⟨z1, h1.trans hl, h2⟩
/-- What a call of yield does. -/
def YC (P : Program) (l : Nat) (w0 : World) (J : σ → Zp → List Res → Prop) (A : Zp → ε → List Value → Prop) (yield : ε → σ → Option (Bool × σ)) : Prop :=
  ∀ (s : σ) (a : ε) (vs : List Value) (z : Zp) (Hs Y : List Res) (w : World) (r : Bool × σ), JH J s z Hs → A z a vs → Ht w0 (frz z :: (Hs ++ Y)) w → yield a s = some r →
    YieldAt (Fw none) 0 P l vs.toArray w (fun x w' => x = .returned (.bool r.1) ∧ ∃ z' Hs', Le z z' ∧ JH J r.2 z' Hs' ∧ Ht w0 (frz z' :: (Hs' ++ Y)) w')
theorem St.swp {M Hs X : List Res} (h : Ht w0 (frz z :: (M ++ (Hs ++ X))) w) : Ht w0 (frz z :: (Hs ++ (M ++ X))) w :=
  h.perm (List.Perm.cons _ (by rw [← List.append_assoc, ← List.append_assoc]; exact List.Perm.append_right _ List.perm_append_comm))
/-- A call of yield. -/
theorem Ops.yieldZ {args : Array Operand} {tys : Array TypeId} {cal : Operand} {l : Nat} {vs : List Value} {J : σ → Zp → List Res → Prop} {A : Zp → ε → List Value → Prop} {yield : ε → σ → Option (Bool × σ)} {s : σ} {a : ε} {Hs X : List Res} {r : Bool × σ} (M : List Res)
    (hY : YC P l w0 J A yield) (hJ : JH J s z Hs) (hA : A z a vs) (hst : Ht w0 (frz z :: (M ++ (Hs ++ X))) w) (hf : yield a s = some r) (hcal : ev e cal = some (.func (.yield l) #[] #[])) (hargs : evl e args.toList = some vs) (hn : Nat.blt d n.size = true)
    (h : ∀ w' z' Hs', Le z z' → JH J r.2 z' Hs' → Ht w0 (frz z' :: (M ++ (Hs' ++ X))) w' → Ops P n Qf k ops rest ((d, vb r.1) :: e) w') : Ops P n Qf k ops (⟨some d, .call ⟨.value cal, args, tys⟩, T, pos, af, none⟩ :: rest) e w := by
  refine Ops.yield hcal hargs hn (hY s a vs z Hs (M ++ X) w r hJ hA hst.swp hf) (fun x w' hx => ?_)
  obtain ⟨rfl, z', Hs', hl, hJ', hst'⟩ := hx
  exact ⟨_, rfl, h w' z' Hs' hl hJ' hst'.swp⟩
/-- A round's answer: the loop is left by yield's word; what was left is not called again. -/
def yw (b : ε → S → Option (Bool × (S × Nat))) : ε → (S × Nat) → Option (Bool × (S × Nat)) := fun a s => if s.2 = 0 then b a s.1 else none
/-- How a round may end. -/
def QZ (w0 : World) (J0 : S → Zp → List Res → Prop) (cs : Nat → Code) (rr : Bool × (S × Nat)) (z : Zp) (Y : List Res) : Exit → Act → World → Prop
  | .normal, _, w => rr.1 = true ∧ rr.2.2 = 0 ∧ ∃ z' Hs, Le z z' ∧ J0 rr.2.1 z' Hs ∧ Ht w0 (frz z' :: (Hs ++ Y)) w
  | .ret, _, w => rr.1 = false ∧ rr.2.2 ≠ 0 ∧ cs rr.2.2 = .ret ∧ ∃ z' Hs, Le z z' ∧ J0 rr.2.1 z' Hs ∧ Ht w0 (frz z' :: (Hs ++ Y)) w
  | .exit id, _, w => rr.1 = false ∧ rr.2.2 ≠ 0 ∧ cs rr.2.2 = .exit id ∧ ∃ z' Hs, Le z z' ∧ J0 rr.2.1 z' Hs ∧ Ht w0 (frz z' :: (Hs ++ Y)) w
  | _, _, _ => False
section
variable {J0 : S → Zp → List Res → Prop} {cs : Nat → Code} {rr : Bool × (S × Nat)} {Y Hs : List Res}
theorem Run.endZ (h1 : rr.1 = true) (h2 : rr.2.2 = 0) (hl : Le z ζ') (hJ : J0 rr.2.1 ζ' Hs) (hst : Ht w0 (frz ζ' :: (Hs ++ Y)) w) : Run P n (QZ w0 J0 cs rr z Y) [] e w := fun a ha => ⟨h1, h2, ζ', Hs, hl, hJ, hst⟩
theorem Run.exitZ {id : Nat} (hk : exitK id k = none) (h1 : rr.1 = false) (h2 : rr.2.2 ≠ 0) (h3 : cs rr.2.2 = .exit id) (hl : Le z ζ') (hJ : J0 rr.2.1 ζ' Hs) (hst : Ht w0 (frz ζ' :: (Hs ++ Y)) w) : Run P n (QZ w0 J0 cs rr z Y) (.code (.exit id) :: k) e w :=
  fun a ha => wpIn_exit (QQ_exitOut hk ⟨h1, h2, h3, ζ', Hs, hl, hJ, hst⟩)
theorem Run.retZ (h1 : rr.1 = false) (h2 : rr.2.2 ≠ 0) (h3 : cs rr.2.2 = .ret) (hl : Le z ζ') (hJ : J0 rr.2.1 ζ' Hs) (hst : Ht w0 (frz ζ' :: (Hs ++ Y)) w) : Run P n (QZ w0 J0 cs rr z Y) (.code .ret :: k) e w :=
  fun a ha => wpIn_ret (QQ_ret k ⟨h1, h2, h3, ζ', Hs, hl, hJ, hst⟩)
end
/-- for .. := range g { body }, an outermost one. -/
theorem Run.rangeZ {g : Operand} {ps : Array Tmp} {assign body : Code} {gf : FuncId} {fn : Func} {lb : Array Value} (J0 : S → Zp → List Res → Prop) (A : Zp → ε → List Value → Prop) (bd : ε → S → Option (Bool × (S × Nat))) (cs : Nat → Code)
    (hrd : n.rd = none) (hg : ev e g = some (.func (.func gf) #[] lb)) (hf : P.funcs[gf]? = some fn) (hname : (fn.name == "runtime.NumGoroutine") = false) (hbody : fn.body.isNone = false)
    (hps : ∀ z a vs, A z a vs → vs.length = ps.size) (hps2 : (ps.toList.all fun p => Nat.blt p n.size) = true) {s0 s1 : S} {j1 : Nat} {Hs X : List Res} (hJ0 : J0 s0 z Hs) (hst : Ht w0 (frz z :: (Hs ++ X)) w)
    (hit : ∀ (l : Nat) (J : S × Nat → Zp → List Res → Prop) (W : World) (Hs' : List Res), YC P l w0 J A (yw bd) → JH J (s0, 0) z Hs' → Ht w0 (frz z :: (Hs' ++ X)) W →
      Calls P gf (#[.func (.yield l) #[] #[]] ++ lb) W (fun x W' => (∃ v, x = .returned v) ∧ ∃ z' Hs'', Le z z' ∧ JH J (s1, j1) z' Hs'' ∧ Ht w0 (frz z' :: (Hs'' ++ X)) W'))
    (hround : ∀ s a vs z1 z2 Hs1 Y l W rr, J0 s z1 Hs1 → Le z1 z2 → A z2 a vs → bd a s = some rr → Ht w0 (frz z2 :: (Hs1 ++ Y)) W →
      Run P ⟨n.size, some l, []⟩ (fun _ _ _ => False) [.code assign, .stop ⟨n.size, some l, []⟩ (fun e' W' => ∃ Hs2, Ht w0 (frz z2 :: (Hs2 ++ Y)) W' ∧
        ∀ Y' W2, Ht w0 (frz z2 :: (Hs2 ++ Y')) W2 → Run P ⟨n.size, some l, []⟩ (QZ w0 J0 cs rr z2 Y') [.code body] e' W2)] (penv (ps.toList.zip vs) e) W)
    (hdone : ∀ z1 z2 Hs1 D W, j1 = 0 → J0 s1 z1 Hs1 → Le z1 z2 → Le z z2 → Ht w0 (frz z2 :: (Hs1 ++ (ob D (.deferred (some [])) :: X))) W → Run P { n with ds := D :: n.ds } Qf k e W)
    (hstop : ∀ z1 z2 Hs1 D W, j1 ≠ 0 → J0 s1 z1 Hs1 → Le z1 z2 → Le z z2 → Ht w0 (frz z2 :: (Hs1 ++ (ob D (.deferred (some [])) :: X))) W → Run P { n with ds := D :: n.ds } Qf (.code (cs j1) :: k) e W) :
    Run P n Qf (.code (.rangeFunc g ps assign body) :: k) e w := by
  intro a ha
  show (Code.rangeFunc g ps assign body).wpIn (Fw n.rd) 0 P (QQ P n.rd Qf k) a w
  refine wpIn_rangeFunc (fun f _ => ?_)
  rw [show (Fw n.rd).round = none from hrd]
  obtain ⟨rec, hrec⟩ : ∃ rec : LoopState → Option Code → Loop, rec = fun st pe => { state := st, pending := pe, fn := f, tmps := a.tmps, params := ps, assign, body, defers := w.heap.size } := ⟨_, rfl⟩
  obtain ⟨W1, hW1⟩ : ∃ W1, (w.alloc (.deferred (some []))).alloc (.loop (rec .ready none)) = W1 := ⟨_, rfl⟩
  obtain ⟨D, hD⟩ : ∃ D, w.heap.size = D := ⟨_, rfl⟩
  have mv : ∀ {ζ : Zp} {Hs' : List Res} {o : Loop} {W : World}, Ht w0 (frz ζ :: ((Hs' ++ [ob D (.deferred (some [])), ob (D + 1) (.loop o)]) ++ X)) W → Ht w0 ((frz ζ :: (Hs' ++ X)) ++ [ob D (.deferred (some [])), ob (D + 1) (.loop o)]) W := by
    intro ζ Hs' o W h
    refine h.perm ?_
    rw [List.cons_append]
    refine List.Perm.cons _ ?_
    rw [List.append_assoc, List.append_assoc]
    exact List.Perm.append_left _ List.perm_append_comm
  have vm : ∀ {ζ : Zp} {Hs' : List Res} {o : Loop} {W : World}, Ht w0 ((frz ζ :: (Hs' ++ X)) ++ [ob D (.deferred (some [])), ob (D + 1) (.loop o)]) W → Ht w0 (frz ζ :: ((Hs' ++ [ob D (.deferred (some [])), ob (D + 1) (.loop o)]) ++ X)) W := by
    intro ζ Hs' o W h
    refine h.perm ?_
    rw [List.cons_append]
    refine List.Perm.cons _ ?_
    rw [List.append_assoc, List.append_assoc]
    exact List.Perm.append_left _ List.perm_append_comm
  have hst1 : Ht w0 ((frz z :: (Hs ++ X)) ++ [ob D (.deferred (some [])), ob (D + 1) (.loop (rec .ready none))]) W1 := by
    have h1 := (hst.newOb (.deferred (some []))).newOb (.loop (rec .ready none))
    rw [hW1, World.size_alloc, hD] at h1
    simpa using h1
  -- what is handed over
  obtain ⟨J, hJ⟩ : ∃ J : S × Nat → Zp → List Res → Prop, J = fun s ζ Hs' => ∃ Hs1, J0 s.1 ζ Hs1 ∧ ((s.2 = 0 ∧ Hs' = Hs1 ++ [ob D (.deferred (some [])), ob (D + 1) (.loop (rec .ready none))]) ∨ (s.2 ≠ 0 ∧ Hs' = Hs1 ++ [ob D (.deferred (some [])), ob (D + 1) (.loop (rec .done (some (cs s.2))))])) := ⟨_, rfl⟩
  have hY : YC P (D + 1) w0 J A (yw bd) := by
    intro s aa vs z2 Hs' Y W rr hJs hA hstY hy
    obtain ⟨z1, hl1, hJs⟩ := hJs
    rw [hJ] at hJs
    obtain ⟨Hs1, hJ1, hsh⟩ := hJs
    unfold yw at hy
    split at hy
    rotate_left
    · cases hy
    rename_i hs2
    rcases hsh with ⟨_, rfl⟩ | ⟨hne, _⟩
    rotate_left
    · exact absurd hs2 hne
    have hstY2 : Ht w0 (frz z2 :: (Hs1 ++ (ob D (.deferred (some [])) :: ob (D + 1) (.loop (rec .ready none)) :: Y))) W := by
      rw [List.append_assoc] at hstY; exact hstY
    have hix : ∀ {o : Loop} {ζ : Zp} {H2 : List Res}, (frz ζ :: (H2 ++ (ob D (.deferred (some [])) :: ob (D + 1) (.loop o) :: Y)))[H2.length + 2]? = some (ob (D + 1) (.loop o)) := by
      intro o ζ H2
      rw [List.getElem?_cons_succ, List.getElem?_append_right (by omega)]
      simp
    have hset : ∀ {o o' : Loop} {ζ : Zp} {H2 : List Res}, (frz ζ :: (H2 ++ (ob D (.deferred (some [])) :: ob (D + 1) (.loop o) :: Y))).set (H2.length + 2) (ob (D + 1) (.loop o')) = frz ζ :: (H2 ++ (ob D (.deferred (some [])) :: ob (D + 1) (.loop o') :: Y)) := by
      intro o o' ζ H2
      rw [List.set_cons_succ, List.set_append_right _ _ (by omega)]
      simp
    have hl : W.heap[D + 1]? = some (.loop (rec .ready none)) := hstY2.get hix
    have hsz := hps z2 aa vs hA
    have hyy := run_yield (P := P) (args := vs.toArray) hl (by rw [hrec]; simpa using hsz)
    rw [hrec] at hyy
    refine ⟨f, _, assign, body, hyy, roundIn_of_wpIn (F := Fw none) trivial ?_⟩
    have hhas : Has ⟨n.size, some (D + 1), []⟩ (penv (ps.toList.zip vs) e) { tmps := (ps.zip vs.toArray).foldl (fun t (p, v) => t.setIfInBounds p v) a.tmps, defers := [] } := by
      have h1 : Has ⟨n.size, some (D + 1), []⟩ e { tmps := a.tmps, defers := [] } := ⟨rfl, ha.size, ha.at_⟩
      have h2 := has_penv (ps.toList.zip vs) h1 (by
        rw [List.all_eq_true] at hps2 ⊢
        intro pv hpv
        exact hps2 _ (List.of_mem_zip hpv).1)
      have e3 : (ps.zip vs.toArray).foldl (fun t (p, v) => t.setIfInBounds p v) a.tmps = (ps.toList.zip vs).foldl (fun t (p, v) => t.setIfInBounds p v) a.tmps := by
        have : ps.toList.zip vs = (ps.zip vs.toArray).toList := by rw [Array.toList_zip]
        rw [this, Array.foldl_toList]
      rw [e3]
      exact h2
    have hr := hround s.1 aa vs z1 z2 Hs1 _ (D + 1) W rr hJ1 hl1 hA hy hstY2 _ hhas
    refine wpIn_mono hr ?_
    intro x a1 W2 hx
    cases x with
    | normal =>
      obtain ⟨e', ha1, Hs2, hs', hgo⟩ := hx
      have hl2 : W2.heap[D + 1]? = some (.loop (rec .ready none)) := hs'.get hix
      have hbeg := run_beginRound (P := P) hl2 (by rw [hrec])
      have hs2' := hs'.putOb _ hix (.loop { rec .ready none with state := .busy })
      rw [hset] at hs2'
      refine ⟨_, hbeg, ?_⟩
      have hb := hgo _ _ hs2' a1 ha1
      refine wpIn_mono hb ?_
      have fin : ∀ (jump : Option Code) H2 ζ W3, Ht w0 (frz ζ :: (H2 ++ (ob D (.deferred (some [])) :: ob (D + 1) (.loop { rec .ready none with state := .busy }) :: Y))) W3 →
          ∃ W4, (Instr.endRound (D + 1) jump).run P W3 = .ok (.bool jump.isNone) W4 ∧ Ht w0 (frz ζ :: ((H2 ++ [ob D (.deferred (some [])), ob (D + 1) (.loop (rec (if jump.isNone then .ready else .done) jump))]) ++ Y)) W4 := by
        intro jump H2 ζ W3 hs3
        have hl3 : W3.heap[D + 1]? = some (.loop { rec .ready none with state := .busy }) := hs3.get hix
        have hr3 := run_endRound (P := P) jump hl3
        have hs4 := hs3.putOb _ hix (.loop { ({ rec .ready none with state := .busy } : Loop) with state := if jump.isNone then .ready else .done, pending := jump })
        rw [hset] at hs4
        refine ⟨_, hr3, ?_⟩
        rw [List.append_assoc]
        rw [hrec] at hs4 ⊢
        exact hs4
      intro x2 a2 W3 hx2
      cases x2 with
      | normal =>
        obtain ⟨e1, e2, z', H2, hle, hJ2, hs3⟩ := hx2
        obtain ⟨W4, hr4, hs4⟩ := fin none H2 z' W3 hs3
        exact ⟨_, W4, hr4, by simp [e1], z', _, hle, ⟨z', Le.refl _, by rw [hJ]; exact ⟨H2, hJ2, .inl ⟨e2, rfl⟩⟩⟩, hs4⟩
      | ret =>
        obtain ⟨e1, e2, e3, z', H2, hle, hJ2, hs3⟩ := hx2
        obtain ⟨W4, hr4, hs4⟩ := fin (some .ret) H2 z' W3 hs3
        exact ⟨_, W4, hr4, by simp [e1], z', _, hle, ⟨z', Le.refl _, by rw [hJ]; exact ⟨H2, hJ2, .inr ⟨e2, by rw [e3]; rfl⟩⟩⟩, hs4⟩
      | exit id =>
        obtain ⟨e1, e2, e3, z', H2, hle, hJ2, hs3⟩ := hx2
        obtain ⟨W4, hr4, hs4⟩ := fin (some (.exit id)) H2 z' W3 hs3
        exact ⟨_, W4, hr4, by simp [e1], z', _, hle, ⟨z', Le.refl _, by rw [hJ]; exact ⟨H2, hJ2, .inr ⟨e2, by rw [e3]; rfl⟩⟩⟩, hs4⟩
      | goto t => exact hx2.elim
      | panic c => exact hx2.elim
      | outgrown => exact hx2.elim
    | _ => exact hx.elim
  refine ⟨D + 1, [markD D], W1, { target := .fn (.func gf) lb, args := #[.func (.yield (D + 1)) #[] #[]] }, W1, gf, #[.func (.yield (D + 1)) #[] #[]] ++ lb, W1, ?_, ?_, fun _ _ => trivial, ?_, fun h => (by cases h), ?_⟩
  · rw [← hW1, hrec, ← hD]; exact run_enterLoop_outer _ _ _ _ _
  · simp only [resolve, ha.eval hg]
    simp [go_sem]
  · have hn' : ¬ fn.name = "runtime.NumGoroutine" := by simpa using hname
    have hb' : ¬ fn.body = none := fun h => by simp [h] at hbody
    simp [invoke, callFunc, hf, hn', hb']
  · have key := hit (D + 1) J W1 _ hY ⟨z, Le.refl _, by rw [hJ]; exact ⟨Hs, hJ0, .inl ⟨rfl, rfl⟩⟩⟩ (vm hst1)
    refine (callsW n.rd _ key).mono fun x W2 hx => ?_
    obtain ⟨⟨v, rfl⟩, z2, H2, hle, ⟨z1, hl1, hJ2⟩, hst2⟩ := hx
    rw [hJ] at hJ2
    obtain ⟨Hs1, hJ1, hsh⟩ := hJ2
    have hfin : ∀ st pe, st ≠ LoopState.busy → Ht w0 ((frz z2 :: (Hs1 ++ X)) ++ [ob D (.deferred (some [])), ob (D + 1) (.loop (rec st pe))]) W2 →
        ∃ W3, (Instr.endLoop (D + 1)).run P W2 = .ok pe W3 ∧ Ht w0 (frz z2 :: (Hs1 ++ (ob D (.deferred (some [])) :: X))) W3 := by
      intro st pe hne hs
      have hl : W2.heap[D + 1]? = some (.loop (rec st pe)) := hs.get getLast2
      have hrun := run_endLoop (P := P) hl (by rw [hrec]; exact hne)
      have h3 := (hs.putOb _ getLast2 (.loop { rec st pe with state := .exhausted })).setLast
      have h4 := h3.sub (H' := (frz z2 :: (Hs1 ++ X)) ++ [ob D (.deferred (some []))]) (List.Sublist.append_left (List.Sublist.cons_cons _ (List.nil_sublist _)) _)
      have h5 := h4.perm (H' := frz z2 :: (Hs1 ++ (ob D (.deferred (some [])) :: X))) (by
        rw [List.cons_append]
        refine List.Perm.cons _ ?_
        rw [List.append_assoc]
        exact List.Perm.append_left _ (List.perm_append_comm (l₁ := X) (l₂ := [ob D (.deferred (some []))])))
      exact ⟨_, by rw [hrun, hrec], h5⟩
    have hd2 : ∀ (ha2 : True), Has { n with ds := D :: n.ds } e { a with defers := markD D :: a.defers } := fun _ => ⟨by simp [ha.defers], ha.size, ha.at_⟩
    rcases hsh with ⟨h0, rfl⟩ | ⟨h0, rfl⟩
    · obtain ⟨W3, hrun, h3⟩ := hfin .ready none (by simp) (mv hst2)
      refine ⟨none, W3, hrun, ?_⟩
      exact hdone z1 z2 Hs1 D W3 h0 hJ1 hl1 hle h3 { a with defers := markD D :: a.defers } (hd2 trivial)
    · obtain ⟨W3, hrun, h3⟩ := hfin .done (some (cs j1)) (by simp) (mv hst2)
      refine ⟨some (cs j1), W3, hrun, ?_⟩
      exact hstop z1 z2 Hs1 D W3 h0 hJ1 hl1 hle h3 { a with defers := markD D :: a.defers } (hd2 trivial)
/-! ### The end of a function that had such a loop -/
theorem St.shutD (hst : Ht w0 H w) (i : Nat) {D : Nat} (hi : H[i]? = some (ob D (.deferred (some [])))) : w.heap[D]? = some (.deferred (some [])) ∧ Ht w0 (H.set i (ob D (.deferred none))) (w.putObj D (.deferred none)) := ⟨hst.get hi, hst.putOb i hi _⟩
def mkD : List Nat → List Res
  | [] => []
  | D :: Ds => ob D (.deferred (some [])) :: mkD Ds
/-- All marks are shut. -/
theorem St.shutAll {A X : List Res} : ∀ (Ds : List Nat) {w : World}, Ht w0 (A ++ (mkD Ds ++ X)) w → ∃ w', Shut Ds w w' ∧ Ht w0 (A ++ X) w'
  | [], w, h => ⟨w, .nil w, h⟩
  | D :: Ds, w, h => by
    have hi : (A ++ (mkD (D :: Ds) ++ X))[A.length]? = some (ob D (.deferred (some []))) := by simp [mkD]
    obtain ⟨hD, h2⟩ := St.shutD h A.length hi
    have e : ((A ++ (mkD (D :: Ds) ++ X)).set A.length (ob D (.deferred none))).eraseIdx A.length = A ++ (mkD Ds ++ X) := by
      rw [List.set_append_right _ _ (Nat.le_refl _), Nat.sub_self, List.eraseIdx_append_of_length_le (Nat.le_refl _), Nat.sub_self]
      rfl
    obtain ⟨w', hs, hh⟩ := St.shutAll Ds (e ▸ St.forget h2 A.length)
    exact ⟨w', .cons hD hs, hh⟩
theorem Run.retW {fn : Func} {R : Ending → World → Prop} (vs : List Value) (hd : Shut n.ds w w') (h : ResV P e w' fn.results.toList vs) (hr : R (.returned (tupV vs)) w') : Run P n (Qn P fn R) (.code .ret :: k) e w :=
  Run.retN (tupV vs) hd (fun a ha => run_resV h ha) hr
theorem Run.doneW {fn : Func} {R : Ending → World → Prop} (vs : List Value) (hd : Shut n.ds w w') (h : ResV P e w' fn.results.toList vs) (hr : R (.returned (tupV vs)) w') : Run P n (Qn P fn R) [] e w :=
  Run.doneN (tupV vs) hd (fun a ha => run_resV h ha) hr
/-- A row of one's own whose front is let go. -/
theorem St.dropRow {α : Type} {τ : Ty α} {A A' : Option Addr} {c c' l E : Nat} {xs ys : List α} {cells : List Value} {j q : Int} (i : Nat) (hst : Ht w0 H w) (hi : H[i]? = some (orow E τ.sz (.slice A l c) l cells)) (hC : Cs τ ζ cells xs) (hl : xs.length = l)
    (hA : A' = (if c = j.toNat then A else A.map (·.add (j.toNat * τ.sz)))) (hB : c' = c - j.toNat ∧ xs.length ≤ c) (hsub : cutI xs j q = some ys) (hq : q = (xs.length : Int)) :
    Cs τ ζ (cells.drop (j.toNat * τ.sz)) ys ∧ Ht w0 (H.set i (orow E τ.sz (.slice A' ys.length c') ys.length (cells.drop (j.toNat * τ.sz)))) w := by
  subst hq
  obtain ⟨h0, h1, h2, rfl⟩ := cutI_some hsub
  obtain ⟨rfl, hlc⟩ := hB
  have hxs : (xs.take (xs.length : Int).toNat).drop j.toNat = xs.drop j.toNat := by simp
  rw [hxs]
  have hlen : (xs.drop j.toNat).length = xs.length - j.toNat := by simp
  have hjl : j.toNat ≤ xs.length := by omega
  obtain ⟨q1, q2, q3⟩ := hst.get hi
  subst hl
  have hown : ∀ k, (Value.slice A' (xs.drop j.toNat).length (c - j.toNat)).ownBlock = some k → (Value.slice A xs.length c).ownBlock = some k := by
    intro k hk
    rw [hA] at hk
    split at hk
    · exact own_hdr hk
    · cases A with
      | none => simp [Value.ownBlock] at hk
      | some a =>
        simp only [Value.ownBlock, Option.map_some] at hk ⊢
        unfold Addr.add at hk
        split at hk <;> simpa using hk
  refine ⟨hC.drop j.toNat, hst.upd i hi (Fr.refl _ _) ?_ (fun k hk => ⟨.inl (hown k hk), hst.lt hi (hown k hk)⟩)⟩
  refine ⟨by rw [List.length_drop, q1, hlen, Nat.mul_sub_right_distrib], fun u hu => q2 u (List.mem_of_mem_drop hu), ?_⟩
  rcases q3 with ⟨he, hl0⟩ | ⟨g, o, cap, cur, he, hg, hcl, hcm, hcs, ht⟩
  · injection he with e1 e2 e3
    subst e1 e3
    refine .inl ⟨?_, by omega⟩
    have : j.toNat = 0 := by omega
    have hx0 : xs = [] := List.eq_nil_of_length_eq_zero hl0
    rw [hA, this, hx0]
    simp
  · cases he
    by_cases hc : c = j.toNat
    · rw [if_pos hc] at hA
      refine .inr ⟨g, o, c - j.toNat, cur, by rw [hA], hg, by omega, by omega, by rw [hc]; simp; omega, ?_⟩
      rw [hlen, show xs.length - j.toNat = 0 by omega]
      simp
      rw [q1]
      exact Nat.mul_le_mul_right _ (by omega)
    · rw [if_neg hc] at hA
      have hm := Nat.mul_le_mul_right τ.sz hjl
      have hm2 := Nat.mul_le_mul_right τ.sz hcl
      refine .inr ⟨g, o + j.toNat * τ.sz, c - j.toNat, cur, by rw [hA, Option.map_some, addr_lit rfl], hg, by omega, by omega, ?_, ?_⟩
      · rw [Nat.mul_sub_right_distrib]; omega
      · rw [hlen, Nat.mul_sub_right_distrib, ← ht, List.drop_take, List.drop_drop]
/-- A row of one's own stands still from here on, and so do its pieces. -/
theorem St.freezeP {α : Type} {τ : Ty α} {A : Option Addr} {c E l : Nat} {xs : List α} {cells : List Value} (hst : Ht w0 (frz ζ :: orow E τ.sz (.slice A l c) l cells :: H) w) (hC : Cs τ ζ cells xs) (hl0 : xs.length = l) :
    ∃ ζ', Le ζ ζ' ∧ (orow E τ.sz (.slice A l c) l cells).p ζ' ∧ Sl τ ζ' A c xs ∧ Ht w0 (frz ζ' :: H) w := by
  have hp0 := hst.get (i := 1) rfl
  obtain ⟨ζ', hl, he, h'⟩ := hst.freezeS
  have hp1 : (orow E τ.sz (.slice A l c) l cells).p ζ' := (orow E τ.sz (.slice A l c) l cells).loc _ _ (fun k hk => he k hk) hp0
  refine ⟨ζ', hl, hp1, ?_, h'⟩
  subst hl0
  exact own_slh (hC.mono hl) rfl hp1
theorem SlH.lift {α : Type} {τ : Ty α} {A : Option Addr} {c : Nat} {xs : List α} (h : SlH τ ζ ζ' A c xs) (hl : Le ζ ζ') : Sl τ ζ' A c xs := by
  obtain ⟨h1, h2, cells, hC, h4⟩ := h
  exact ⟨h1, h2, cells, hC.mono hl, h4⟩
end
end Go.Proofs.YtfomkndngnfneaaDoor.Sx
