/- A small logic of walks, part G: a range over a function; an iterator's calls of yield. -/
import Derived.Test.YtiekoeapmhhjbaaGreatDoorSxF
import Derived.RangeFuncSeq
import Derived.RangeFuncRecord
namespace Go.Proofs.YtiekoeapmhhjbaaGreatDoor.Sx
open Go Go.RowKit
set_option linter.unusedVariables false
set_option linter.unusedSimpArgs false
variable {P : Program} {n : Fm} {Qf : Exit → Act → World → Prop} {k : List It} {e : Env} {w w' w0 : World} {F0 : Nat → Prop} {H : List Res} {ops : Array Oper} {rest : List Oper} {T : TypeId} {pos : String} {af : Array Edge} {d : Nat}
/-- A block that is known whole. -/
def ob (g : Nat) (o : Obj) : Res where
  S := fun k => k = g
  p := fun h => h g = some o
  loc := fun h h' hs hh => by rw [hs g rfl]; exact hh
theorem putObj_fr (w : World) (g : Nat) (o : Obj) : Fr w (w.putObj g o) (fun k => k = g) := ⟨rfl, rfl, rfl, by simp, fun k hk hne => World.putObj_heap_other hne⟩
theorem St.putOb (hst : St w0 F0 H w) (i : Nat) {g : Nat} {o : Obj} (hi : H[i]? = some (ob g o)) (o' : Obj) : St w0 F0 (H.set i (ob g o')) (w.putObj g o') :=
  hst.upd i hi (putObj_fr w g o') (World.putObj_heap_same (hst.lt hi (k := g) rfl)) (fun k hk => ⟨.inl hk, by
    have hk' : k = g := hk
    subst hk'
    have := hst.lt hi (k := k) rfl
    simpa using this⟩)
theorem St.newOb (hst : St w0 F0 H w) (o : Obj) : St w0 F0 (H ++ [ob w.heap.size o]) (w.alloc o) :=
  hst.push (alloc_fr w _) (heap_alloc_new w _) (fun k hk => by have hk' : k = w.heap.size := hk; subst hk'; simp)
/-- A call of yield. -/
theorem Ops.yield {args : Array Operand} {tys : Array TypeId} {cal : Operand} {l : Nat} {vs : List Value} {R : Ending → World → Prop} (hcal : ev e cal = some (.func (.yield l) #[] #[])) (hargs : evl e args.toList = some vs) (hn : Nat.blt d n.size = true)
    (hy : YieldAt (Fw none) 0 P l vs.toArray w R) (h : ∀ x w', R x w' → ∃ v, x = .returned v ∧ Ops P n Qf k ops rest ((d, v) :: e) w') : Ops P n Qf k ops (⟨some d, .call ⟨.value cal, args, tys⟩, T, pos, af, none⟩ :: rest) e w := by
  intro a ha
  unfold wpListIn
  rw [if_pos (by simp [Region.wanted])]
  have hρ : ∀ x v, ev e x = some v → a.eval x = v := fun x v hx => ha.eval hx
  obtain ⟨fn, tmps, assign, body, hrun0, hround⟩ := hy
  have hrun : (execOp a.eval ⟨some d, .call ⟨.value cal, args, tys⟩, T, pos, af, none⟩).run P w = .ok (.round l fn tmps assign body) w := by
    have h2 : args.map a.eval = vs.toArray := by
      have := evl_spec hρ hargs
      rw [← Array.toList_map] at this
      rw [← this]
    simp only [execOp, resolve, hρ _ _ hcal, h2]
    simp [Deferred.ofValue, invoke, hrun0]
  refine ⟨fun _ _ => trivial, ?_⟩
  rw [Oper.semAt_eq _ _ _ (by intro c h; cases h), hrun, Oper.uponIn_round]
  refine ⟨fun h => (by cases h), ?_⟩
  have hr2 : RoundIn (Fw n.rd) (0 - 1) P l fn tmps assign body w R := ⟨trivial, fun c cs _ => by
    obtain ⟨x, w2, hx, hc⟩ := hround.2 c cs (fun _ h => by cases h)
    exact ⟨x, w2, hx, hc⟩⟩
  refine hr2.mono fun x w' hR => ?_
  obtain ⟨v, rfl, hv⟩ := h x w' hR
  exact hv _ (ha.put d hn v)
/-- An iterator's contract: it hands over N rows of values, in order, as long as it is told to go on; 'Rf' is what it reads. -/
def Iter (P : Program) (gf : FuncId) (lb : Array Value) (N : Nat) (args : Nat → Array Value) (Rf : World → Prop) : Prop :=
  ∀ (l : Nat) (J : Nat → World → Prop) (Jx : World → Prop) (W : World),
    (∀ i W, i < N → J i W → YieldAt (Fw none) 0 P l (args i) W (fun x W' => (x = .returned (.bool true) ∧ J (i + 1) W') ∨ (x = .returned (.bool false) ∧ Jx W'))) →
    (∀ i W, J i W → Rf W) → (∀ i W W', J i W → Fr W W' (fun _ => False) → J i W') → J 0 W →
    Calls P gf (#[.func (.yield l) #[] #[]] ++ lb) W (fun x W' => (∃ v, x = .returned v) ∧ (J N W' ∨ Jx W'))
def penv : List (Nat × Value) → Env → Env
  | [], e => e
  | pv :: r, e => penv r (pv :: e)
theorem has_penv {m : Fm} : ∀ (l : List (Nat × Value)) {e : Env} {a : Act}, Has m e a → (l.all fun pv => Nat.blt pv.1 m.size) = true → Has m (penv l e) { a with tmps := l.foldl (fun t (p, v) => t.setIfInBounds p v) a.tmps }
  | [], _, _, h, _ => h
  | (p, v) :: r, e, a, h, hl => by
    rw [List.all_cons, Bool.and_eq_true] at hl
    have := has_penv r (h.put p hl.1 v) hl.2
    exact this
/-- What the rounds of a loop owe, by the way in which they are left. -/
def QR {β : Type} (w0 : World) (F0 : Nat → Prop) (Hs : β → List Res) (hid : List Res) (Fn : β → Prop) (Fx : Code → β → Prop) : Exit → Act → World → Prop
  | .normal, _, w => ∃ b, Fn b ∧ St w0 F0 (Hs b ++ hid) w
  | .ret, _, w => ∃ b, Fx .ret b ∧ St w0 F0 (Hs b ++ hid) w
  | .exit id, _, w => ∃ b, Fx (.exit id) b ∧ St w0 F0 (Hs b ++ hid) w
  | .goto t, _, w => ∃ b, Fx (.goto t) b ∧ St w0 F0 (Hs b ++ hid) w
  | _, _, _ => False
section
variable {β : Type} {Hs : β → List Res} {hid : List Res} {Fn : β → Prop} {Fx : Code → β → Prop}
theorem Run.endR (b : β) (h : Fn b) (hst : St w0 F0 (Hs b ++ hid) w) : Run P n (QR w0 F0 Hs hid Fn Fx) [] e w := fun a ha => ⟨b, h, hst⟩
theorem QQ_exitOut {id : Nat} {a : Act} {rd : Option Nat} : ∀ {k : List It}, exitK id k = none → Qf (.exit id) a w → QQ P rd Qf k (.exit id) a w
  | [], _, q => q
  | .code _ :: k, h, q => QQ_exitOut (k := k) h q
  | .stop _ _ :: k, h, q => QQ_exitOut (k := k) h q
  | .stopF _ :: k, h, q => QQ_exitOut (k := k) h q
  | .blk j :: k, h, q => by
    unfold exitK at h
    unfold QQ
    by_cases hj : id = j
    · subst hj; simp at h
    · have : Nat.beq id j = false := Bool.eq_false_iff.2 (fun hc => hj (Nat.eq_of_beq_eq_true hc))
      simp [this] at h
      rw [if_neg hj]
      exact QQ_exitOut h q
theorem Run.exitR {id : Nat} (hk : exitK id k = none) (b : β) (h : Fx (.exit id) b) (hst : St w0 F0 (Hs b ++ hid) w) : Run P n (QR w0 F0 Hs hid Fn Fx) (.code (.exit id) :: k) e w :=
  fun a ha => wpIn_exit (QQ_exitOut hk ⟨b, h, hst⟩)
theorem Run.retR (b : β) (h : Fx .ret b) (hst : St w0 F0 (Hs b ++ hid) w) : Run P n (QR w0 F0 Hs hid Fn Fx) (.code .ret :: k) e w :=
  fun a ha => wpIn_ret (QQ_ret k ⟨b, h, hst⟩)
end
theorem St.last2 {A B : Res} (hst : St w0 F0 (H ++ [A, B]) w) : St w0 F0 H w := hst.sub (List.sublist_append_left _ _)
theorem St.setLast {A B B' : Res} {w2 : World} (h : St w0 F0 ((H ++ [A, B]).set (H.length + 1) B') w2) : St w0 F0 (H ++ [A, B']) w2 := by
  have e1 : (H ++ [A, B]).set (H.length + 1) B' = H ++ [A, B'] := by
    rw [List.set_append_right _ _ (by omega)]
    simp
  rw [e1] at h
  exact h
theorem getLast2 {A B : Res} : (H ++ [A, B])[H.length + 1]? = some B := by
  rw [List.getElem?_append_right (by omega)]
  simp
/-- for .. := range g { body }, an outermost one. -/
theorem Run.range {β : Type} {g : Operand} {ps : Array Tmp} {assign body : Code} {gf : FuncId} {fn : Func} {lb : Array Value} {N : Nat} {args : Nat → Array Value} {Rf : World → Prop} (Hs : β → List Res) (Fa : Nat → β → Prop) (Fx : Code → β → Prop)
    (hrd : n.rd = none) (hg : ev e g = some (.func (.func gf) #[] lb)) (hf : P.funcs[gf]? = some fn) (hname : (fn.name == "runtime.NumGoroutine") = false) (hbody : fn.body.isNone = false) (hit : Iter P gf lb N args Rf)
    (hps : ∀ i, (args i).size = ps.size) (hps2 : (ps.toList.all fun p => Nat.blt p n.size) = true) (b0 : β) (hF0 : Fa 0 b0) (hst : St w0 F0 (Hs b0) w) (hR : ∀ i b W, Fa i b → St w0 F0 (Hs b) W → Rf W)
    (hround : ∀ i b D l r W, i < N → Fa i b → St w0 F0 (Hs b ++ [ob D (.deferred (some [])), ob l (.loop r)]) W →
      Run P ⟨n.size, some l, []⟩ (fun _ _ _ => False) [.code assign, .stop ⟨n.size, some l, []⟩ (fun e' W' => ∃ b', St w0 F0 (Hs b' ++ [ob D (.deferred (some [])), ob l (.loop r)]) W' ∧
        ∀ r' W2, St w0 F0 (Hs b' ++ [ob D (.deferred (some [])), ob l (.loop r')]) W2 → Run P ⟨n.size, some l, []⟩ (QR w0 F0 Hs [ob D (.deferred (some [])), ob l (.loop r')] (Fa (i + 1)) Fx) [.code body] e' W2)]
        (penv (ps.toList.zip (args i).toList) e) W)
    (hdone : ∀ b D W, Fa N b → St w0 F0 (Hs b ++ [ob D (.deferred (some []))]) W → Run P { n with ds := D :: n.ds } Qf k e W)
    (hstop : ∀ c b D W, Fx c b → St w0 F0 (Hs b ++ [ob D (.deferred (some []))]) W → Run P { n with ds := D :: n.ds } Qf (.code c :: k) e W) :
    Run P n Qf (.code (.rangeFunc g ps assign body) :: k) e w := by
  intro a ha
  show (Code.rangeFunc g ps assign body).wpIn (Fw n.rd) 0 P (QQ P n.rd Qf k) a w
  refine wpIn_rangeFunc (fun f _ => ?_)
  rw [show (Fw n.rd).round = none from hrd]
  obtain ⟨rec, hrec⟩ : ∃ rec : LoopState → Option Code → Loop, rec = fun st pe => { state := st, pending := pe, fn := f, tmps := a.tmps, params := ps, assign, body, defers := w.heap.size } := ⟨_, rfl⟩
  obtain ⟨W1, hW1⟩ : ∃ W1, (w.alloc (.deferred (some []))).alloc (.loop (rec .ready none)) = W1 := ⟨_, rfl⟩
  obtain ⟨D, hD⟩ : ∃ D, w.heap.size = D := ⟨_, rfl⟩
  have hst1 : St w0 F0 (Hs b0 ++ [ob D (.deferred (some [])), ob (D + 1) (.loop (rec .ready none))]) W1 := by
    have h1 := (hst.newOb (.deferred (some []))).newOb (.loop (rec .ready none))
    rw [hW1, World.size_alloc, hD] at h1
    simpa using h1
  refine ⟨D + 1, [markD D], W1, { target := .fn (.func gf) lb, args := #[.func (.yield (D + 1)) #[] #[]] }, W1, gf, #[.func (.yield (D + 1)) #[] #[]] ++ lb, W1, ?_, ?_, fun _ _ => trivial, ?_, fun h => (by cases h), ?_⟩
  · rw [← hW1, hrec, ← hD]; exact run_enterLoop_outer _ _ _ _ _
  · simp only [resolve, ha.eval hg]
    simp [go_sem]
  · have hn' : ¬ fn.name = "runtime.NumGoroutine" := by simpa using hname
    have hb' : ¬ fn.body = none := fun h => by simp [h] at hbody
    simp [invoke, callFunc, hf, hn', hb']
  · -- the iterator's contract, at the rounds' relation
    have key := hit (D + 1) (fun i W => ∃ b, Fa i b ∧ St w0 F0 (Hs b ++ [ob D (.deferred (some [])), ob (D + 1) (.loop (rec .ready none))]) W)
      (fun W => ∃ c b, Fx c b ∧ St w0 F0 (Hs b ++ [ob D (.deferred (some [])), ob (D + 1) (.loop (rec .done (some c)))]) W) W1 ?_ ?_ ?_ ⟨b0, hF0, hst1⟩
    · refine (callsW n.rd _ key).mono fun x W2 hx => ?_
      obtain ⟨⟨v, rfl⟩, hx⟩ := hx
      have hfin : ∀ b st pe, st ≠ LoopState.busy → St w0 F0 (Hs b ++ [ob D (.deferred (some [])), ob (D + 1) (.loop (rec st pe))]) W2 →
          ∃ W3, (Instr.endLoop (D + 1)).run P W2 = .ok pe W3 ∧ St w0 F0 (Hs b ++ [ob D (.deferred (some []))]) W3 := by
        intro b st pe hne hs
        have hl : W2.heap[D + 1]? = some (.loop (rec st pe)) := hs.get getLast2
        have hrun := run_endLoop (P := P) hl (by rw [hrec]; exact hne)
        have h3 := (hs.putOb _ getLast2 (.loop { rec st pe with state := .exhausted })).setLast
        refine ⟨_, ?_, h3.sub ?_⟩
        · rw [hrun, hrec]
        · exact List.Sublist.append_left (List.Sublist.cons_cons _ (List.nil_sublist _)) _
      rcases hx with ⟨b, hF, hs⟩ | ⟨c, b, hF, hs⟩
      · obtain ⟨W3, hrun, h3⟩ := hfin b .ready none (by simp) hs
        refine ⟨none, W3, hrun, ?_⟩
        have := hdone b D W3 hF h3 { a with defers := markD D :: a.defers } ⟨by simp [ha.defers], ha.size, ha.at_⟩
        exact this
      · obtain ⟨W3, hrun, h3⟩ := hfin b .done (some c) (by simp) hs
        refine ⟨some c, W3, hrun, ?_⟩
        have := hstop c b D W3 hF h3 { a with defers := markD D :: a.defers } ⟨by simp [ha.defers], ha.size, ha.at_⟩
        exact this
    · -- one round
      intro i W hi hJ
      obtain ⟨b, hF, hs⟩ := hJ
      have hl : W.heap[D + 1]? = some (.loop (rec .ready none)) := hs.get getLast2
      have hy := run_yield (P := P) (args := args i) hl (by rw [hrec]; exact hps i)
      rw [hrec] at hy
      refine ⟨f, _, assign, body, hy, roundIn_of_wpIn (F := Fw none) trivial ?_⟩
      have hhas : Has ⟨n.size, some (D + 1), []⟩ (penv (ps.toList.zip (args i).toList) e) { tmps := (ps.zip (args i)).foldl (fun t (p, v) => t.setIfInBounds p v) a.tmps, defers := [] } := by
        have h1 : Has ⟨n.size, some (D + 1), []⟩ e { tmps := a.tmps, defers := [] } := ⟨rfl, ha.size, ha.at_⟩
        have h2 := has_penv (ps.toList.zip (args i).toList) h1 (by
          rw [List.all_eq_true] at hps2 ⊢
          intro pv hpv
          exact hps2 _ (List.of_mem_zip hpv).1)
        have e3 : (ps.zip (args i)).foldl (fun t (p, v) => t.setIfInBounds p v) a.tmps = (ps.toList.zip (args i).toList).foldl (fun t (p, v) => t.setIfInBounds p v) a.tmps := by
          rw [← Array.toList_zip, Array.foldl_toList]
        rw [e3]
        exact h2
      have hr := hround i b D (D + 1) (rec .ready none) W hi hF hs _ hhas
      refine wpIn_mono hr ?_
      intro x a1 W2 hx
      cases x with
      | normal =>
        obtain ⟨e', ha1, b', hs', hgo⟩ := hx
        have hl2 : W2.heap[D + 1]? = some (.loop (rec .ready none)) := hs'.get getLast2
        have hbeg := run_beginRound (P := P) hl2 (by rw [hrec])
        have hs2 := (hs'.putOb _ getLast2 (.loop { rec .ready none with state := .busy })).setLast
        refine ⟨_, hbeg, ?_⟩
        have hb := hgo _ _ hs2 a1 ha1
        refine wpIn_mono hb ?_
        have fin : ∀ (jump : Option Code) b'' W3, St w0 F0 (Hs b'' ++ [ob D (.deferred (some [])), ob (D + 1) (.loop { rec .ready none with state := .busy })]) W3 →
            ∃ W4, (Instr.endRound (D + 1) jump).run P W3 = .ok (.bool jump.isNone) W4 ∧ St w0 F0 (Hs b'' ++ [ob D (.deferred (some [])), ob (D + 1) (.loop (rec (if jump.isNone then .ready else .done) jump))]) W4 := by
          intro jump b'' W3 hs3
          have hl3 : W3.heap[D + 1]? = some (.loop { rec .ready none with state := .busy }) := hs3.get getLast2
          have hr3 := run_endRound (P := P) jump hl3
          have hs4 := (hs3.putOb _ getLast2 (.loop { ({ rec .ready none with state := .busy } : Loop) with state := if jump.isNone then .ready else .done, pending := jump })).setLast
          refine ⟨_, hr3, ?_⟩
          rw [hrec] at hs4 ⊢
          exact hs4
        intro x2 a2 W3 hx2
        cases x2 with
        | normal =>
          obtain ⟨b2, hF2, hs3⟩ := hx2
          obtain ⟨W4, hr4, hs4⟩ := fin none b2 W3 hs3
          exact ⟨_, W4, hr4, .inl ⟨rfl, b2, hF2, hs4⟩⟩
        | ret =>
          obtain ⟨b2, hF2, hs3⟩ := hx2
          obtain ⟨W4, hr4, hs4⟩ := fin (some .ret) b2 W3 hs3
          exact ⟨_, W4, hr4, .inr ⟨rfl, _, b2, hF2, hs4⟩⟩
        | exit id =>
          obtain ⟨b2, hF2, hs3⟩ := hx2
          obtain ⟨W4, hr4, hs4⟩ := fin (some (.exit id)) b2 W3 hs3
          exact ⟨_, W4, hr4, .inr ⟨rfl, _, b2, hF2, hs4⟩⟩
        | goto t =>
          obtain ⟨b2, hF2, hs3⟩ := hx2
          obtain ⟨W4, hr4, hs4⟩ := fin (some (.goto t)) b2 W3 hs3
          exact ⟨_, W4, hr4, .inr ⟨rfl, _, b2, hF2, hs4⟩⟩
        | panic c => exact hx2.elim
        | outgrown => exact hx2.elim
      | _ => exact hx.elim
    · intro i W hJ
      obtain ⟨b, hF, hs⟩ := hJ
      exact hR i b W hF hs.last2
    · intro i W W' hJ hfr
      obtain ⟨b, hF, hs⟩ := hJ
      exact ⟨b, hF, hs.idle hfr⟩
end Go.Proofs.YtiekoeapmhhjbaaGreatDoor.Sx
