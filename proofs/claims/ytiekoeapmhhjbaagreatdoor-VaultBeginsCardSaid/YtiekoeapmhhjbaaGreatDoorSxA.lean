/- A small logic of walks, over any program: part A, control. A frame is known by a list of its temporaries; the code that is left is a stack. -/
import Derived.WalkKit
import Derived.KernelRfl
import Derived.OrdersIn
import Derived.RangeFuncNested
import Derived.RangeFuncLeaves
import Derived.CallsIn
namespace Go.Proofs.YtiekoeapmhhjbaaGreatDoor.Sx
open Go
set_option linter.unusedVariables false

/-- What is known of a frame's temporaries, the newest first. -/
abbrev Env := List (Nat × Value)
def look : Env → Nat → Option Value
  | [], _ => none
  | (k, v) :: r, t => match Nat.beq k t with
    | true => some v
    | false => look r t
def ev (e : Env) : Operand → Option Value
  | .tmp t => look e t
  | .const v => some v
  | .global g => some (.pointer (some ⟨g, 0, none⟩))
  | .func f => some (.func (.func f) #[] #[])
/-- A frame: how many temporaries it has, the loop over a function of whose rounds it is one, and the marks of such loops that it has left behind. -/
structure Fm where
  size : Nat
  rd : Option Nat := none
  ds : List Nat := []
def markD (D : Nat) : Deferred := { target := .collected D, args := #[] }
/-- The fence that lets everything by. -/
abbrev Fw (rd : Option Nat) : Fence := { fn := fun _ => True, depth := none, alive := false, round := rd }
structure Has (n : Fm) (e : Env) (a : Act) : Prop where
  defers : a.defers = n.ds.map markD
  size : a.tmps.size = n.size
  at_ : ∀ t v, look e t = some v → a.tmps[t]? = some v
theorem Has.eval {n : Fm} {e : Env} {a : Act} (h : Has n e a) {x : Operand} {v : Value} (hx : ev e x = some v) : a.eval x = v := by
  cases x with
  | tmp t =>
    have := h.at_ t v hx
    simp [Act.eval, Array.getD_eq_getD_getElem?, this]
  | const u => simpa [ev, Act.eval] using hx
  | global g => simpa [ev, Act.eval] using hx
  | func f => simpa [ev, Act.eval] using hx
theorem look_cons {k t : Nat} {v : Value} {r : Env} : look ((k, v) :: r) t = if k = t then some v else look r t := by
  show (match Nat.beq k t with | true => some v | false => look r t) = _
  by_cases h : k = t
  · subst h; simp
  · have : Nat.beq k t = false := Bool.eq_false_iff.2 (fun hc => h (Nat.eq_of_beq_eq_true hc))
    simp [h, this]
theorem Has.put {n : Fm} {e : Env} {a : Act} (h : Has n e a) (d : Nat) (hd : Nat.blt d n.size = true) (v : Value) : Has n ((d, v) :: e) (a.put (some d) v) := by
  have hd' : d < n.size := by simpa [Nat.blt_eq] using hd
  refine ⟨h.defers, by simp [Act.put, h.size], fun t u ht => ?_⟩
  rw [look_cons] at ht
  simp only [Act.put]
  by_cases hk : d = t
  · subst hk
    simp at ht
    subst ht
    simp [h.size, hd']
  · simp [hk] at ht
    rw [Array.getElem?_setIfInBounds_ne hk]
    exact h.at_ t u ht
/-- All that one list tells, another tells too. -/
def Sub (e' e : Env) : Prop := ∀ t v, look e' t = some v → look e t = some v
def subB : Env → Env → Prop
  | [], _ => True
  | (k, v) :: r, e => look e k = some v ∧ subB r e
theorem subB_spec : ∀ {e' e : Env}, subB e' e → Sub e' e
  | [], _, _ => fun t v h => by simp [look] at h
  | (k, u) :: r, e, h => fun t v ht => by
    rw [look_cons] at ht
    by_cases hk : k = t
    · subst hk; simp at ht; subst ht; exact h.1
    · simp [hk] at ht; exact subB_spec h.2 t v ht
theorem Has.sub {n : Fm} {e e' : Env} {a : Act} (h : Has n e a) (hs : Sub e' e) : Has n e' a := ⟨h.defers, h.size, fun t v ht => h.at_ t v (hs t v ht)⟩

/-- What is left to do. -/
inductive It where
  | code (c : Code)
  | blk (id : Nat)
  | stop (m : Fm) (Z : Env → World → Prop)
  | stopF (Z : Fm → Env → World → Prop)
variable {P : Program} {n : Fm} {Qf : Exit → Act → World → Prop}
def QQ (P : Program) (rd : Option Nat) (Qf : Exit → Act → World → Prop) : List It → Exit → Act → World → Prop
  | [], x, a, w => Qf x a w
  | .code c :: k, .normal, a, w => c.wpIn (Fw rd) 0 P (QQ P rd Qf k) a w
  | .code _ :: k, x, a, w => QQ P rd Qf k x a w
  | .blk id :: k, .exit j, a, w => if j = id then QQ P rd Qf k .normal a w else QQ P rd Qf k (.exit j) a w
  | .blk _ :: k, x, a, w => QQ P rd Qf k x a w
  | .stop m Z :: _, .normal, a, w => ∃ e, Has m e a ∧ Z e w
  | .stop _ _ :: k, x, a, w => QQ P rd Qf k x a w
  | .stopF Z :: _, .normal, a, w => ∃ m e, Has m e a ∧ Z m e w
  | .stopF _ :: k, x, a, w => QQ P rd Qf k x a w
/-- From a frame of which 'e' is known, the code that is left comes to its end. -/
def Run (P : Program) (n : Fm) (Qf : Exit → Act → World → Prop) (k : List It) (e : Env) (w : World) : Prop := ∀ a, Has n e a → QQ P n.rd Qf k .normal a w
def Ops (P : Program) (n : Fm) (Qf : Exit → Act → World → Prop) (k : List It) (ops : Array Oper) (l : List Oper) (e : Env) (w : World) : Prop :=
  ∀ a, Has n e a → wpListIn (Fw n.rd) 0 P ops (QQ P n.rd Qf k) l a w
variable {k : List It} {e : Env} {w : World}

theorem Run.seq {x y : Code} (h : Run P n Qf (.code x :: .code y :: k) e w) : Run P n Qf (.code (.seq x y) :: k) e w := by
  intro a ha
  refine wpIn_seq (wpIn_mono (h a ha) fun x' a' w' q => ?_)
  cases x' <;> exact q
theorem Run.skip (h : Run P n Qf k e w) : Run P n Qf (.code .skip :: k) e w := fun a ha => wpIn_skip (h a ha)
theorem Run.label {l : Nat} (h : Run P n Qf k e w) : Run P n Qf (.code (.label l) :: k) e w := fun a ha => wpIn_label (h a ha)
theorem Run.block {id : Nat} {c : Code} (h : Run P n Qf (.code c :: .blk id :: k) e w) : Run P n Qf (.code (.block id c) :: k) e w := by
  intro a ha
  refine wpIn_block (wpIn_mono (h a ha) fun x' a' w' q => ?_)
  cases x' <;> exact q
theorem Run.endBlk {id : Nat} (h : Run P n Qf k e w) : Run P n Qf (.blk id :: k) e w := h
def exitK (id : Nat) : List It → Option (List It)
  | [] => none
  | .blk j :: k => match Nat.beq id j with
    | true => some k
    | false => exitK id k
  | .code _ :: k => exitK id k
  | .stop _ _ :: k => exitK id k
  | .stopF _ :: k => exitK id k
theorem QQ_exit {id : Nat} {a : Act} : ∀ {k k' : List It}, exitK id k = some k' → QQ P n.rd Qf k' .normal a w → QQ P n.rd Qf k (.exit id) a w
  | [], _, h, _ => by simp [exitK] at h
  | .code _ :: k, k', h, q => QQ_exit (k := k) h q
  | .stop _ _ :: k, k', h, q => QQ_exit (k := k) h q
  | .stopF _ :: k, k', h, q => QQ_exit (k := k) h q
  | .blk j :: k, k', h, q => by
    unfold exitK at h
    unfold QQ
    by_cases hj : id = j
    · subst hj
      simp at h
      subst h
      simpa using q
    · have : Nat.beq id j = false := Bool.eq_false_iff.2 (fun hc => hj (Nat.eq_of_beq_eq_true hc))
      simp [this] at h
      rw [if_neg hj]
      exact QQ_exit h q
theorem Run.exit {id : Nat} (k' : List It) (hk : exitK id k = some k') (h : Run P n Qf k' e w) : Run P n Qf (.code (.exit id) :: k) e w :=
  fun a ha => wpIn_exit (QQ_exit hk (h a ha))
theorem QQ_ret {a : Act} : ∀ (k : List It), Qf .ret a w → QQ P n.rd Qf k .ret a w
  | [], h => h
  | .code _ :: k, h => QQ_ret k h
  | .blk _ :: k, h => QQ_ret k h
  | .stop _ _ :: k, h => QQ_ret k h
  | .stopF _ :: k, h => QQ_ret k h
theorem Run.cond {c : Operand} {x y : Code} {t : Bool} (hc : ev e c = some (.bool t)) (h1 : t = true → Run P n Qf (.code x :: k) e w) (h2 : t = false → Run P n Qf (.code y :: k) e w) :
    Run P n Qf (.code (.cond c x y) :: k) e w :=
  fun a ha => wpIn_cond_split (ha.eval hc) (fun ht => h1 ht a ha) (fun ht => h2 ht a ha)
theorem Run.condT {c : Operand} {x y : Code} {t : Bool} (hc : ev e c = some (.bool t)) (ht : t = true) (h1 : Run P n Qf (.code x :: k) e w) :
    Run P n Qf (.code (.cond c x y) :: k) e w := Run.cond hc (fun _ => h1) (fun h => by rw [ht] at h; cases h)
theorem Run.condF {c : Operand} {x y : Code} {t : Bool} (hc : ev e c = some (.bool t)) (ht : t = false) (h1 : Run P n Qf (.code y :: k) e w) :
    Run P n Qf (.code (.cond c x y) :: k) e w := Run.cond hc (fun h => by rw [ht] at h; cases h) (fun _ => h1)
theorem Run.sub {e' : Env} (hs : Sub e' e) (h : Run P n Qf k e' w) : Run P n Qf k e w := fun a ha => h a (ha.sub hs)
theorem Run.stopF {Z : Fm → Env → World → Prop} (h : Z n e w) : Run P n Qf (.stopF Z :: k) e w := fun a ha => ⟨n, e, ha, h⟩
theorem Run.stop {Z : Env → World → Prop} (h : Z e w) : Run P n Qf (.stop n Z :: k) e w := fun a ha => ⟨e, ha, h⟩
/-- A loop: a relation with a number that falls; where the round ends the relation is met at a smaller one. -/
theorem Run.loop {c : Code} (I : Nat → Env → World → Prop) (m0 : Nat) (h0 : I m0 e w)
    (round : ∀ m e' w', I m e' w' → Run P n Qf (.code c :: .stop n (fun e2 w2 => ∃ m2, m2 < m ∧ I m2 e2 w2) :: k) e' w') : Run P n Qf (.code (.loop c) :: k) e w := by
  intro a ha
  obtain ⟨Good, hGood⟩ : ∃ Good : Act → World → Nat → Prop, Good = fun a w m => ∃ e, Has n e a ∧ I m e w := ⟨_, rfl⟩
  have least : ∀ a w, (∃ m, Good a w m) → ∃ m, Good a w m ∧ ∀ j, j < m → ¬ Good a w j := by
    intro a w ⟨m, hm⟩
    induction m using Nat.strongRecOn with
    | _ m ih =>
      by_cases hx : ∃ j, j < m ∧ Good a w j
      · obtain ⟨j, hj, hg⟩ := hx
        exact ih j hj hg
      · exact ⟨m, hm, fun j hj hg => hx ⟨j, hj, hg⟩⟩
  classical
  obtain ⟨mu, hmu⟩ : ∃ mu : Act → World → Nat, ∀ a w, (∃ m, Good a w m) → Good a w (mu a w) ∧ ∀ j, Good a w j → mu a w ≤ j := by
    refine ⟨fun a w => if h : ∃ m, Good a w m then Classical.choose (least a w h) else 0, fun a w h => ?_⟩
    simp only [dif_pos h]
    have := Classical.choose_spec (least a w h)
    exact ⟨this.1, fun j hj => Nat.le_of_not_lt (fun hlt => this.2 j hlt hj)⟩
  refine wpIn_loop (fun a w => ∃ m, Good a w m) mu ⟨m0, by rw [hGood]; exact ⟨e, ha, h0⟩⟩ (fun a1 w1 hg => ?_)
  have h1 := hmu a1 w1 hg
  have h2 := h1.1
  rw [hGood] at h2
  obtain ⟨e1, ha1, hI1⟩ := h2
  refine wpIn_mono (round (mu a1 w1) e1 w1 hI1 a1 ha1) (fun x a2 w2 q => ?_)
  cases x with
  | normal =>
    obtain ⟨e2, ha2, m2, hlt, hI2⟩ := q
    have hg2 : Good a2 w2 m2 := by rw [hGood]; exact ⟨e2, ha2, hI2⟩
    exact ⟨⟨m2, hg2⟩, Nat.lt_of_le_of_lt ((hmu a2 w2 ⟨m2, hg2⟩).2 m2 hg2) hlt⟩
  | _ => exact q
/-- A loop whose rounds leave marks of ranges over functions. -/
theorem Run.loopD {c : Code} (I : List Nat → Nat → Env → World → Prop) (m0 : Nat) (h0 : I n.ds m0 e w)
    (round : ∀ ds m e' w', I ds m e' w' → Run P ⟨n.size, n.rd, ds⟩ Qf (.code c :: .stopF (fun n2 e2 w2 => ∃ ds2 m2, n2 = ⟨n.size, n.rd, ds2⟩ ∧ m2 < m ∧ I ds2 m2 e2 w2) :: k) e' w') : Run P n Qf (.code (.loop c) :: k) e w := by
  intro a ha
  obtain ⟨Good, hGood⟩ : ∃ Good : Act → World → Nat → Prop, Good = fun a w m => ∃ ds e, Has ⟨n.size, n.rd, ds⟩ e a ∧ I ds m e w := ⟨_, rfl⟩
  have least : ∀ a w, (∃ m, Good a w m) → ∃ m, Good a w m ∧ ∀ j, j < m → ¬ Good a w j := by
    intro a w ⟨m, hm⟩
    induction m using Nat.strongRecOn with
    | _ m ih =>
      by_cases hx : ∃ j, j < m ∧ Good a w j
      · obtain ⟨j, hj, hg⟩ := hx
        exact ih j hj hg
      · exact ⟨m, hm, fun j hj hg => hx ⟨j, hj, hg⟩⟩
  classical
  obtain ⟨mu, hmu⟩ : ∃ mu : Act → World → Nat, ∀ a w, (∃ m, Good a w m) → Good a w (mu a w) ∧ ∀ j, Good a w j → mu a w ≤ j := by
    refine ⟨fun a w => if h : ∃ m, Good a w m then Classical.choose (least a w h) else 0, fun a w h => ?_⟩
    simp only [dif_pos h]
    have := Classical.choose_spec (least a w h)
    exact ⟨this.1, fun j hj => Nat.le_of_not_lt (fun hlt => this.2 j hlt hj)⟩
  refine wpIn_loop (fun a w => ∃ m, Good a w m) mu ⟨m0, by rw [hGood]; exact ⟨n.ds, e, ha, h0⟩⟩ (fun a1 w1 hg => ?_)
  have h1 := hmu a1 w1 hg
  have h2 := h1.1
  rw [hGood] at h2
  obtain ⟨ds1, e1, ha1, hI1⟩ := h2
  refine wpIn_mono (round ds1 (mu a1 w1) e1 w1 hI1 a1 ha1) (fun x a2 w2 q => ?_)
  cases x with
  | normal =>
    obtain ⟨n2, e2, ha2, ds2, m2, rfl, hlt, hI2⟩ := q
    have hg2 : Good a2 w2 m2 := by rw [hGood]; exact ⟨ds2, e2, ha2, hI2⟩
    exact ⟨⟨m2, hg2⟩, Nat.lt_of_le_of_lt ((hmu a2 w2 ⟨m2, hg2⟩).2 m2 hg2) hlt⟩
  | _ => exact q
/-- A cut: what is left is walked once, from a relation. -/
theorem Run.cut {c : Code} (Z : Env → World → Prop) (h1 : Run P n Qf (.code c :: .stop n Z :: k) e w) (h2 : ∀ e' w', Z e' w' → Run P n Qf k e' w') : Run P n Qf (.code c :: k) e w := by
  intro a ha
  refine wpIn_mono (h1 a ha) fun x a' w' q => ?_
  cases x with
  | normal => obtain ⟨e', ha', hz⟩ := q; exact h2 e' w' hz a' ha'
  | _ => exact q
theorem Run.region {id : Nat} {ops : Array Oper} (h : Ops P n Qf k ops ops.toList e w) : Run P n Qf (.code (.region id ops false) :: k) e w :=
  fun a ha => wpIn_region_list (h a ha)
theorem Ops.nil {ops : Array Oper} (h : Run P n Qf k e w) : Ops P n Qf k ops [] e w := fun a ha => h a ha

/-! ### The end of a function -/
def argEnv : Nat → List Value → Env
  | _, [] => []
  | i, v :: r => (i, v) :: argEnv (i + 1) r
theorem look_argEnv : ∀ (vs : List Value) (i t : Nat) (v : Value), look (argEnv i vs) t = some v → i ≤ t ∧ vs[t - i]? = some v
  | [], i, t, v, h => by simp [argEnv, look] at h
  | u :: r, i, t, v, h => by
    unfold argEnv at h
    rw [look_cons] at h
    by_cases hk : i = t
    · subst hk; simp at h; subst h; simp
    · simp [hk] at h
      have := look_argEnv r (i + 1) t v h
      refine ⟨by omega, ?_⟩
      have e : t - i = (t - (i + 1)) + 1 := by omega
      rw [e]; simpa using this.2
theorem has_args {n : Nat} {args : List Value} (hn : Nat.ble args.length n = true) : Has ⟨n, none, []⟩ (argEnv 0 args) { tmps := args.toArray ++ Array.replicate (n - args.toArray.size) undef, defers := [] } := by
  refine ⟨rfl, ?_, fun t v ht => ?_⟩
  · have := Nat.le_of_ble_eq_true hn
    simp; omega
  · obtain ⟨_, h2⟩ := look_argEnv args 0 t v ht
    simp at h2
    have hlt : t < args.length := by
      rcases Nat.lt_or_ge t args.length with h' | h'
      · exact h'
      · rw [List.getElem?_eq_none h'] at h2; cases h2
    simp [Array.getElem?_append, hlt] at h2 ⊢
    exact h2
theorem calls_of_run {P : Program} {f : FuncId} {fn : Func} {c : Code} {args : List Value} {w : World} {R : Ending → World → Prop}
    (hf : P.funcs[f]? = some fn) (hb : fn.body = some c) (hn : Nat.ble args.length fn.ntmps = true)
    (h : Run P ⟨fn.ntmps, none, []⟩ (bodyPost P fn R) [.code c] (argEnv 0 args) w) : Calls P f args.toArray w R :=
  (callsIn_wide (n := 0)).1 (callsIn_of_wp (F := Fw none) hf hb trivial (h _ (has_args hn)) rfl)
/-- .. where the body holds a range over a function. -/
theorem calls_of_runM {P : Program} {f : FuncId} {fn : Func} {c : Code} {args : List Value} {w : World} {R : Ending → World → Prop}
    (hf : P.funcs[f]? = some fn) (hb : fn.body = some c) (hn : Nat.ble args.length fn.ntmps = true)
    (h : Run P ⟨fn.ntmps, none, []⟩ (bodyPostM (Fw none) 0 P fn R) [.code c] (argEnv 0 args) w) : Calls P f args.toArray w R :=
  (callsIn_wide (n := 0)).1 (callsIn_of_wp_marks (F := Fw none) hf hb trivial (h _ (has_args hn)) rfl)
theorem Run.ret {fn : Func} {R : Ending → World → Prop} (v : Value) (hd : n.ds = []) (hr : ∀ a, Has n e a → (results fn a.tmps).run P w = .ok v w) (h : R (.returned v) w) :
    Run P n (bodyPost P fn R) (.code .ret :: k) e w :=
  fun a ha => wpIn_ret (QQ_ret k ⟨by rw [ha.defers, hd]; rfl, v, hr a ha, h⟩)
theorem Run.done {fn : Func} {R : Ending → World → Prop} (v : Value) (hd : n.ds = []) (hr : ∀ a, Has n e a → (results fn a.tmps).run P w = .ok v w) (h : R (.returned v) w) :
    Run P n (bodyPost P fn R) [] e w :=
  fun a ha => ⟨by rw [ha.defers, hd]; rfl, v, hr a ha, h⟩
/-- The marks are taken, one by one; then the results are read. -/
inductive Shut : List Nat → World → World → Prop where
  | nil (w : World) : Shut [] w w
  | cons {D : Nat} {ds : List Nat} {w w' : World} (h : w.heap[D]? = some (.deferred (some []))) (h' : Shut ds (w.putObj D (.deferred none)) w') : Shut (D :: ds) w w'
theorem leaves_of_shut {fn : Func} {R : Ending → World → Prop} {v : Value} {tmps : Array Value} : ∀ {ds : List Nat} {w w' : World}, Shut ds w w' → (results fn tmps).run P w' = .ok v w' → R (.returned v) w' →
    LeavesInM (Fw none) 0 P fn tmps R (ds.map markD) .returning w
  | [], w, _, .nil _, hr, h => by simp only [List.map_nil, LeavesInM, LeavesIn]; exact ⟨_, hr, h⟩
  | D :: ds, w, w', .cons hD h', hr, h => by
    simp only [List.map_cons, LeavesInM]
    exact ⟨by simp, .inl ⟨D, _, rfl, run_takeDeferred hD, leaves_of_shut h' hr h⟩⟩
theorem Run.retM {fn : Func} {R : Ending → World → Prop} {w' : World} (v : Value) (hd : Shut n.ds w w') (hr : ∀ a, Has n e a → (results fn a.tmps).run P w' = .ok v w') (h : R (.returned v) w') :
    Run P n (bodyPostM (Fw none) 0 P fn R) (.code .ret :: k) e w :=
  fun a ha => wpIn_ret (QQ_ret k (by show LeavesInM _ _ _ _ _ _ a.defers _ _; rw [ha.defers]; exact leaves_of_shut hd (hr a ha) h))
theorem Run.doneM {fn : Func} {R : Ending → World → Prop} {w' : World} (v : Value) (hd : Shut n.ds w w') (hr : ∀ a, Has n e a → (results fn a.tmps).run P w' = .ok v w') (h : R (.returned v) w') :
    Run P n (bodyPostM (Fw none) 0 P fn R) [] e w :=
  fun a ha => by show LeavesInM _ _ _ _ _ _ a.defers _ _; rw [ha.defers]; exact leaves_of_shut hd (hr a ha) h
/-- A contract serves in a round, too. -/
theorem callsW {f : FuncId} {args : Array Value} {w : World} {R : Ending → World → Prop} (rd : Option Nat) (m : Nat) (h : Calls P f args w R) : CallsIn (Fw rd) m P f args w R := by
  cases rd with
  | none => exact (callsIn_wide (n := m)).2 h
  | some l => exact CallsIn.inRound l ((callsIn_wide (n := m)).2 h)
theorem res0 {fn : Func} (h : fn.results = #[]) {a : Act} (_ : Has n e a) : (results fn a.tmps).run P w = .ok (.tuple #[]) w := results_none h _ _ _
theorem Has.getD {a : Act} (h : Has n e a) {t : Nat} {v : Value} (ht : look e t = some v) : a.tmps.getD t undef = v := by
  simp [Array.getD_eq_getD_getElem?, h.at_ t v ht]
theorem res1 {fn : Func} {t : Nat} (h : fn.results = #[.tmp t]) {v : Value} (ht : look e t = some v) {a : Act} (ha : Has n e a) : (results fn a.tmps).run P w = .ok v w := by
  rw [results_tmp h, ha.getD ht]
theorem res2 {fn : Func} {t u : Nat} (h : fn.results = #[.tmp t, .tmp u]) {v x : Value} (ht : look e t = some v) (hu : look e u = some x) {a : Act} (ha : Has n e a) :
    (results fn a.tmps).run P w = .ok (.tuple #[v, x]) w := by
  rw [results_tmp2 h, ha.getD ht, ha.getD hu]
theorem res3 {fn : Func} {t u s : Nat} (h : fn.results = #[.tmp t, .tmp u, .tmp s]) {v x y : Value} (ht : look e t = some v) (hu : look e u = some x) (hs : look e s = some y) {a : Act} (ha : Has n e a) :
    (results fn a.tmps).run P w = .ok (.tuple #[v, x, y]) w := by
  rw [results_tmp3 h, ha.getD ht, ha.getD hu, ha.getD hs]
end Go.Proofs.YtiekoeapmhhjbaaGreatDoor.Sx
