/- A small logic of walks, part C: memory. A list of resources, each with the blocks it owns; the frame from an elder world. -/
import Derived.Test.YtiekoeapmhhjbaaGreatDoorSxB
namespace Go.Proofs.YtiekoeapmhhjbaaGreatDoor.Sx
open Go Go.RowKit
set_option linter.unusedVariables false
set_option linter.unusedSimpArgs false

def hp (w : World) : Nat → Option Obj := fun k => w.heap[k]?
structure Res where
  S : Nat → Prop
  p : (Nat → Option Obj) → Prop
  loc : ∀ h h' : Nat → Option Obj, (∀ k, S k → h' k = h k) → p h → p h'
/-- A block whose cells are known. -/
def blk (g : Nat) (cs : List Value) (T : TypeId) : Res where
  S := fun k => k = g
  p := fun h => h g = some (.cells cs.toArray T (0, 0))
  loc := fun h h' hs hh => by rw [hs g rfl]; exact hh
/-- A slice's row of the call's own. -/
def row (E sz : Nat) (v : Value) (n : Nat) (xs : List Value) : Res where
  S := fun k => v.ownBlock = some k
  p := fun h => xs.length = n * sz ∧ ((v = .slice none 0 0 ∧ n = 0) ∨
    ∃ g cap cur, v = .slice (some ⟨g, 0, none⟩) n cap ∧ h g = some (.cells cur E (0, 0)) ∧ n ≤ cap ∧ cap ≤ maxLen ∧ cur.size = cap * sz ∧ cur.toList.take (n * sz) = xs)
  loc := by
    rintro h h' hs ⟨h1, h2⟩
    refine ⟨h1, ?_⟩
    rcases h2 with h2 | ⟨g, cap, cur, rfl, hg, r⟩
    · exact .inl h2
    · exact .inr ⟨g, cap, cur, rfl, (hs g rfl).trans hg, r⟩
/-- Nothing. -/
def emp : Res where
  S := fun _ => False
  p := fun _ => True
  loc := fun _ _ _ _ => trivial

structure Fr (w w' : World) (F : Nat → Prop) : Prop where
  os : w'.os = w.os
  tape : w'.tape = w.tape
  output : w'.output = w.output
  size : w.heap.size ≤ w'.heap.size
  same : ∀ k, k < w.heap.size → ¬ F k → w'.heap[k]? = w.heap[k]?
theorem Fr.refl (w : World) (F : Nat → Prop) : Fr w w F := ⟨rfl, rfl, rfl, Nat.le_refl _, fun _ _ _ => rfl⟩
theorem Fr.trans {a b c : World} {F G : Nat → Prop} (h : Fr a b F) (h' : Fr b c G) (hg : ∀ k, k < a.heap.size → G k → F k) : Fr a c F :=
  ⟨h'.os.trans h.os, h'.tape.trans h.tape, h'.output.trans h.output, Nat.le_trans h.size h'.size, fun k hk hf => (h'.same k (Nat.lt_of_lt_of_le hk h.size) (fun hG => hf (hg k hk hG))).trans (h.same k hk hf)⟩
theorem Fr.below {w w' : World} {F : Nat → Prop} {B : Nat} (h : Fr w w' F) (hB : B ≤ w.heap.size) (hF : ∀ k, k < B → ¬ F k) : Below B w w' :=
  ⟨h.os, h.tape, h.output, h.size, fun k hk => h.same k (Nat.lt_of_lt_of_le hk hB) (hF k hk)⟩
theorem Fr.of_below {w w' : World} (h : Below w.heap.size w w') (F : Nat → Prop) : Fr w w' F := ⟨h.os, h.tape, h.output, h.size, fun k hk _ => h.block k hk⟩

def fps (H : List Res) : Nat → Prop := fun k => ∃ R, R ∈ H ∧ R.S k
structure St (w0 : World) (F0 : Nat → Prop) (H : List Res) (w : World) : Prop where
  fr : Fr w0 w F0
  own : ∀ R, R ∈ H → ∀ k, R.S k → (F0 k ∨ w0.heap.size ≤ k) ∧ k < w.heap.size
  hold : ∀ R, R ∈ H → R.p (hp w)
  dis : H.Pairwise (fun R R' => ∀ k, R.S k → ¬ R'.S k)
/-- What a call is handed: its resources, all of its footprint. -/
abbrev Owns (H : List Res) (w : World) : Prop := St w (fps H) H w

section
variable {w0 w w' : World} {F0 : Nat → Prop} {H : List Res} {R R' : Res}
theorem St.nil (w : World) (F : Nat → Prop) : St w F [] w := ⟨Fr.refl _ _, fun _ h => (by cases h), fun _ h => (by cases h), List.Pairwise.nil⟩
theorem St.get (h : St w0 F0 H w) {i : Nat} (hi : H[i]? = some R) : R.p (hp w) := h.hold R (List.mem_of_getElem? hi)
theorem St.lt (h : St w0 F0 H w) {i : Nat} (hi : H[i]? = some R) {k : Nat} (hk : R.S k) : k < w.heap.size := (h.own R (List.mem_of_getElem? hi) k hk).2
/-- A fact on blocks of the elder world that are not let go. -/
theorem St.old (h : St w0 F0 H w) {k : Nat} (hk : k < w0.heap.size) (hf : ¬ F0 k) : w.heap[k]? = w0.heap[k]? := h.fr.same k hk hf

/-- The world turns in nobody's blocks. -/
theorem St.idle (h : St w0 F0 H w) (hw : Fr w w' (fun _ => False)) : St w0 F0 H w' := by
  refine ⟨h.fr.trans hw (fun _ _ hf => hf.elim), fun R hR k hk => ?_, fun R hR => ?_, h.dis⟩
  · have := h.own R hR k hk
    exact ⟨this.1, Nat.lt_of_lt_of_le this.2 hw.size⟩
  · exact R.loc _ _ (fun k hk => hw.same k (h.own R hR k hk).2 (fun hf => hf)) (h.hold R hR)
/-- A new resource, of new blocks. -/
theorem St.push (h : St w0 F0 H w) (hw : Fr w w' (fun _ => False)) (hp' : R'.p (hp w')) (hS : ∀ k, R'.S k → w.heap.size ≤ k ∧ k < w'.heap.size) : St w0 F0 (H ++ [R']) w' := by
  have h1 := h.idle hw
  refine ⟨h1.fr, fun R hR k hk => ?_, fun R hR => ?_, ?_⟩
  · rcases List.mem_append.1 hR with hR | hR
    · exact h1.own R hR k hk
    · rw [List.mem_singleton] at hR; subst hR
      have := hS k hk
      have := h.fr.size
      exact ⟨.inr (by omega), (hS k hk).2⟩
  · rcases List.mem_append.1 hR with hR | hR
    · exact h1.hold R hR
    · rw [List.mem_singleton] at hR; subst hR; exact hp'
  · refine List.pairwise_append.2 ⟨h1.dis, by simp, fun R hR R'' hR'' k hk hk' => ?_⟩
    rw [List.mem_singleton] at hR''; subst hR''
    have := (h.own R hR k hk).2
    have := (hS k hk').1
    omega
/-- One resource turns into another one, of its blocks or new ones. -/
theorem St.upd (h : St w0 F0 H w) (i : Nat) (hi : H[i]? = some R) (hw : Fr w w' R.S) (hp' : R'.p (hp w')) (hS : ∀ k, R'.S k → (R.S k ∨ w.heap.size ≤ k) ∧ k < w'.heap.size) : St w0 F0 (H.set i R') w' := by
  have hRm := List.mem_of_getElem? hi
  have hlen : i < H.length := by
    rcases Nat.lt_or_ge i H.length with h' | h'
    · exact h'
    · rw [List.getElem?_eq_none h'] at hi; cases hi
  -- two resources at different places
  have hdis : ∀ j R2, H[j]? = some R2 → j ≠ i → ∀ k, R2.S k → ¬ R.S k := by
    intro j R2 hj hne k h2 h1
    have hp := List.pairwise_iff_getElem.1 h.dis
    have hj' : j < H.length := by
      rcases Nat.lt_or_ge j H.length with h' | h'
      · exact h'
      · rw [List.getElem?_eq_none h'] at hj; cases hj
    rw [List.getElem?_eq_getElem hj'] at hj
    rw [List.getElem?_eq_getElem hlen] at hi
    cases hj; cases hi
    rcases Nat.lt_or_ge j i with hlt | hge
    · exact hp j i hj' hlen hlt k h2 h1
    · exact hp i j hlen hj' (by omega) k h1 h2
  have keep : ∀ j R2, H[j]? = some R2 → j ≠ i → R2.p (hp w') := fun j R2 hj hne =>
    R2.loc _ _ (fun k hk => hw.same k (h.own R2 (List.mem_of_getElem? hj) k hk).2 (hdis j R2 hj hne k hk)) (h.hold R2 (List.mem_of_getElem? hj))
  have mem_set : ∀ X, X ∈ H.set i R' → X = R' ∨ ∃ j, j ≠ i ∧ H[j]? = some X := by
    intro X hX
    obtain ⟨j, hj⟩ := List.mem_iff_getElem?.1 hX
    by_cases hji : j = i
    · subst hji
      rw [List.getElem?_set_self hlen] at hj
      exact .inl (Option.some.inj hj).symm
    · rw [List.getElem?_set_ne (Ne.symm hji)] at hj
      exact .inr ⟨j, hji, hj⟩
  refine ⟨h.fr.trans hw (fun k hk hr => ?_), fun X hX k hk => ?_, fun X hX => ?_, ?_⟩
  · rcases (h.own R hRm k hr).1 with h' | h'
    · exact h'
    · omega
  · rcases mem_set X hX with rfl | ⟨j, hne, hj⟩
    · have h1 := hS k hk
      refine ⟨?_, h1.2⟩
      rcases h1.1 with h2 | h2
      · exact (h.own R hRm k h2).1
      · have := h.fr.size
        exact .inr (by omega)
    · have := h.own X (List.mem_of_getElem? hj) k hk
      exact ⟨this.1, Nat.lt_of_lt_of_le this.2 hw.size⟩
  · rcases mem_set X hX with rfl | ⟨j, hne, hj⟩
    · exact hp'
    · exact keep j X hj hne
  · refine List.pairwise_iff_getElem.2 fun a b ha hb hab k h1 h2 => ?_
    simp only [List.length_set] at ha hb
    have hd := List.pairwise_iff_getElem.1 h.dis a b ha hb hab k
    by_cases hai : i = a
    · subst hai
      rw [List.getElem_set_self] at h1
      rw [List.getElem_set_ne (by omega)] at h2
      rcases (hS k h1).1 with h3 | h3
      · exact hdis b _ (List.getElem?_eq_getElem hb) (by omega) k h2 h3
      · have := (h.own _ (List.getElem_mem hb) k h2).2
        omega
    · by_cases hbi : i = b
      · subst hbi
        rw [List.getElem_set_self] at h2
        rw [List.getElem_set_ne hai] at h1
        rcases (hS k h2).1 with h3 | h3
        · exact hdis a _ (List.getElem?_eq_getElem ha) (fun e => hai e.symm) k h1 h3
        · have := (h.own _ (List.getElem_mem ha) k h1).2
          omega
      · rw [List.getElem_set_ne hai] at h1
        rw [List.getElem_set_ne hbi] at h2
        exact hd h1 h2
theorem St.perm {H' : List Res} (h : St w0 F0 H w) (hp : H.Perm H') : St w0 F0 H' w :=
  ⟨h.fr, fun R hR => h.own R (hp.mem_iff.2 hR), fun R hR => h.hold R (hp.mem_iff.2 hR), (hp.pairwise_iff (fun {x y} hxy k hy hx => hxy k hx hy)).1 h.dis⟩
/-- Forget some. -/
theorem St.sub {H' : List Res} (h : St w0 F0 H w) (hs : H'.Sublist H) : St w0 F0 H' w :=
  ⟨h.fr, fun R hR => h.own R (hs.subset hR), fun R hR => h.hold R (hs.subset hR), h.dis.sublist hs⟩
/-- What is handed to a call. -/
theorem St.hand {H1 H2 : List Res} (h : St w0 F0 (H1 ++ H2) w) : Owns H1 w :=
  ⟨Fr.refl _ _, fun R hR k hk => ⟨.inl ⟨R, hR, hk⟩, (h.own R (List.mem_append_left _ hR) k hk).2⟩, fun R hR => h.hold R (List.mem_append_left _ hR), (List.pairwise_append.1 h.dis).1⟩
/-- What comes back. -/
theorem St.back {H1 H1' H2 : List Res} (h : St w0 F0 (H1 ++ H2) w) (h' : St w (fps H1) H1' w') : St w0 F0 (H1' ++ H2) w' := by
  have hd := List.pairwise_append.1 h.dis
  refine ⟨h.fr.trans h'.fr (fun k hk hf => ?_), fun R hR k hk => ?_, fun R hR => ?_, List.pairwise_append.2 ⟨h'.dis, hd.2.1, fun R1 hR1 R2 hR2 k h1 h2 => ?_⟩⟩
  · obtain ⟨R, hR, hS⟩ := hf
    rcases (h.own R (List.mem_append_left _ hR) k hS).1 with h1 | h1
    · exact h1
    · omega
  · rcases List.mem_append.1 hR with hR | hR
    · have h1 := h'.own R hR k hk
      refine ⟨?_, h1.2⟩
      rcases h1.1 with ⟨R1, hR1, hS1⟩ | h2
      · exact (h.own R1 (List.mem_append_left _ hR1) k hS1).1
      · have := h.fr.size
        exact .inr (by omega)
    · have h1 := h.own R (List.mem_append_right _ hR) k hk
      exact ⟨h1.1, Nat.lt_of_lt_of_le h1.2 h'.fr.size⟩
  · rcases List.mem_append.1 hR with hR | hR
    · exact h'.hold R hR
    · refine R.loc _ _ (fun k hk => h'.fr.same k (h.own R (List.mem_append_right _ hR) k hk).2 ?_) (h.hold R (List.mem_append_right _ hR))
      rintro ⟨R1, hR1, hS1⟩
      exact hd.2.2 R1 hR1 R hR k hS1 hk
  · have hlt := (h.own R2 (List.mem_append_right _ hR2) k h2).2
    rcases (h'.own R1 hR1 k h1).1 with ⟨R3, hR3, hS3⟩ | h3
    · exact hd.2.2 R3 hR3 R2 hR2 k hS3 h2
    · omega
end
/-! ### Picking resources by their numbers -/
def pick (H : List Res) : List Nat → List Res
  | [] => []
  | i :: is => match H[i]? with
    | some R => R :: pick H is
    | none => pick H is
def okPick (n : Nat) : List Nat → Bool
  | [] => true
  | i :: is => Nat.blt i n && !(is.any (Nat.beq i)) && okPick n is
theorem pick_append (H : List Res) : ∀ is js, pick H (is ++ js) = pick H is ++ pick H js
  | [], js => rfl
  | i :: is, js => by
    simp only [List.cons_append, pick]
    cases H[i]? <;> simp [pick_append H is js]
theorem pick_map (H : List Res) : ∀ is : List Nat, (∀ i ∈ is, i < H.length) → (pick H is) = is.filterMap (fun i => H[i]?)
  | [], _ => rfl
  | i :: is, h => by
    have := pick_map H is (fun j hj => h j (List.mem_cons_of_mem _ hj))
    have hi := h i (by simp)
    simp [pick, List.getElem?_eq_getElem hi, this]
theorem range_filterMap (H : List Res) : (List.range H.length).filterMap (fun i => H[i]?) = H := by
  have key : ∀ m, m ≤ H.length → (List.range m).filterMap (fun i => H[i]?) = H.take m := by
    intro m
    induction m with
    | zero => intro _; simp
    | succ m ih =>
      intro hm
      rw [List.range_succ, List.filterMap_append, ih (by omega), List.take_add_one]
      refine congrArg _ ?_
      have : m < H.length := by omega
      simp [List.filterMap_cons, List.getElem?_eq_getElem this]
  rw [key _ (Nat.le_refl _), List.take_length]
/-- The numbers in an order of one's own are all numbers. -/
theorem St.take {w0 w : World} {F0 : Nat → Prop} {H : List Res} (is js : List Nat) (h : St w0 F0 H w) (hp : (is ++ js).Perm (List.range H.length)) :
    St w0 F0 (pick H is ++ pick H js) w := by
  refine h.perm ?_
  rw [← pick_append, pick_map H _ (fun i hi => List.mem_range.1 (hp.mem_iff.1 hi))]
  conv => lhs; rw [← range_filterMap H]
  exact (hp.symm).filterMap _

/-! ### Operations on memory -/
section
variable {P : Program} {n : Fm} {Qf : Exit → Act → World → Prop} {k : List It} {e : Env} {w w0 : World} {F0 : Nat → Prop} {H : List Res} {ops : Array Oper} {rest : List Oper} {T : TypeId} {pos : String} {af : Array Edge} {d : Nat}
def aggB : TypeDesc → Bool
  | .struct _ => true
  | .array _ _ => true
  | _ => false
theorem run_isAgg {t : TypeId} {u : TypeDesc} (h : P.underlying t = some u) (w : World) : (isAgg t).run P w = .ok (aggB u) w := by
  unfold isAgg
  rw [Sem.run_bind, run_underlying h]
  cases u <;> rfl
theorem St.cell (h : St w0 F0 H w) {i g : Nat} {cs : List Value} {Tb : TypeId} (hi : H[i]? = some (blk g cs Tb)) {o : Nat} {v : Value} (hc : cs[o]? = some v) : w.cell? ⟨g, o, none⟩ = some v := by
  have := h.get hi
  simp only [blk, hp] at this
  simp [World.cell?, this, hc]
theorem St.cells (h : St w0 F0 H w) {i g : Nat} {cs : List Value} {Tb : TypeId} (hi : H[i]? = some (blk g cs Tb)) (o m : Nat) : ∀ j v, ((cs.drop o).take m)[j]? = some v → w.cell? ((⟨g, o, none⟩ : Addr).add j) = some v := by
  intro j v hj
  have h1 : cs[o + j]? = some v := by
    rw [List.getElem?_take] at hj
    split at hj
    · simpa using hj
    · cases hj
  have := h.cell hi h1
  unfold Addr.add
  split
  · rename_i h0; subst h0; simpa using this
  · exact this
theorem Ops.load {t : TypeId} {x : Operand} {ad : Addr} {v : Value} {u : TypeDesc} (hx : ev e x = some (.pointer (some ad))) (hu : P.underlying t = some u) (ha : aggB u = false) (hc : w.cell? ad = some v) (hn : Nat.blt d n.size = true)
    (h : Ops P n Qf k ops rest ((d, v) :: e) w) : Ops P n Qf k ops (⟨some d, .load t x, T, pos, af, none⟩ :: rest) e w := by
  refine Ops.val rfl rfl hn (fun c hcc => ?_) h
  simp only [execOp, hcc _ _ hx, Instr.loadAt, Instr.sureAddr]
  simp [loadVar, run_isAgg hu, ha, load, hc]
theorem Ops.loadAgg {t : TypeId} {x : Operand} {ad : Addr} {u : TypeDesc} {z : Nat} (cs : List Value) (hx : ev e x = some (.pointer (some ad))) (hu : P.underlying t = some u) (ha : aggB u = true) (hz : (P.info? t).map (·.size) = some z) (hl : cs.length = z)
    (hc : ∀ j v, cs[j]? = some v → w.cell? (ad.add j) = some v) (hn : Nat.blt d n.size = true)
    (h : Ops P n Qf k ops rest ((d, .agg cs.toArray) :: e) w) : Ops P n Qf k ops (⟨some d, .load t x, T, pos, af, none⟩ :: rest) e w := by
  refine Ops.val rfl rfl hn (fun c hcc => ?_) h
  simp only [execOp, hcc _ _ hx, Instr.loadAt, Instr.sureAddr]
  subst hl
  simp [loadVar, run_isAgg hu, ha, run_sizeOf hz, run_loadCells_list w ad cs hc]
theorem setRow_fr (w : World) (g : Nat) (arr : Array Value) : Fr w (w.setRow g arr) (fun k => k = g) :=
  ⟨rfl, rfl, rfl, by simp, fun k hk hne => setRow_other w g k _ hne⟩
/-- A store into a block that is known. -/
theorem Ops.store {t : TypeId} {x y : Operand} {g o z : Nat} {cs : List Value} {Tb : TypeId} {v : Value} (i : Nat) (vs : List Value) (hst : St w0 F0 H w) (hi : H[i]? = some (blk g cs Tb)) (hx : ev e x = some (.pointer (some ⟨g, o, none⟩))) (hy : ev e y = some v)
    (hv : v.cells = vs.toArray) (hz : (P.info? t).map (·.size) = some z) (hl : vs.length = z) (h1 : ∀ u ∈ vs, u.oneCell' = true) (hroom : o + vs.length ≤ cs.length)
    (h : ∀ w', St w0 F0 (H.set i (blk g (cs.take o ++ vs ++ cs.drop (o + vs.length)) Tb)) w' → Ops P n Qf k ops rest e w') : Ops P n Qf k ops (⟨none, .store t x y, T, pos, af, none⟩ :: rest) e w := by
  have hg : w.heap[g]? = some (.cells cs.toArray Tb (0, 0)) := hst.get hi
  have hrun := run_storeCells_at (P := P) g o Tb vs 0 cs.toArray w hg (by simpa using hroom) h1
  have e1 : ((cs.toArray.toList.take (o + 0) ++ vs ++ cs.toArray.toList.drop (o + 0 + vs.length)).toArray) = (cs.take o ++ vs ++ cs.drop (o + vs.length)).toArray := by simp
  rw [e1] at hrun
  refine Ops.unit (w' := w.setRow g (cs.take o ++ vs ++ cs.drop (o + vs.length)).toArray) rfl rfl (fun c hcc => ?_) (h _ ?_)
  · simp only [execOp, hcc _ _ hx, hcc _ _ hy, Instr.storeAt, Instr.sureAddr]
    have hs : v.cells.size = z := by rw [hv]; simpa using hl
    have hl' : v.cells.toList = vs := by rw [hv]
    simp only [storeVar, hl']
    simp [run_sizeOf hz, hs, hrun]
  · refine hst.upd i hi (setRow_fr w g _) ?_ (fun k hk => ⟨.inl hk, ?_⟩)
    · show (w.setRow g _).heap[g]? = _
      rw [setRow_heap w g cs.toArray _ Tb (0, 0) hg]
    · have : k < w.heap.size := hst.lt hi hk
      simpa using this
theorem alloc_fr (w : World) (o : Obj) : Fr w (w.alloc o) (fun _ => False) := ⟨rfl, rfl, rfl, by simp, fun k hk _ => heap_alloc_old w o hk⟩
theorem drew_fr (w : World) : Fr w w.drew (fun _ => False) := ⟨rfl, rfl, rfl, Nat.le_refl _, fun _ _ _ => rfl⟩
theorem St.new (hst : St w0 F0 H w) (cs : List Value) (Tb : TypeId) : St w0 F0 (H ++ [blk w.heap.size cs Tb]) (w.alloc (.cells cs.toArray Tb)) :=
  hst.push (alloc_fr w _) (heap_alloc_new w _) (fun k hk => by have hk' : k = w.heap.size := hk; subst hk'; simp)
theorem Ops.alloc {t : TypeId} {z : Value} (cs : List Value) (hst : St w0 F0 H w) (hz : (P.info? t).map (·.zero) = some (some z)) (hcs : z.cells = cs.toArray) (hn : Nat.blt d n.size = true)
    (h : ∀ g w', St w0 F0 (H ++ [blk g cs t]) w' → w.heap.size ≤ g → Ops P n Qf k ops rest ((d, .pointer (some ⟨g, 0, none⟩)) :: e) w') : Ops P n Qf k ops (⟨some d, .alloc t, T, pos, af, none⟩ :: rest) e w := by
  refine Ops.val (w' := w.alloc (.cells cs.toArray t)) rfl rfl hn (fun c hcc => ?_) (h _ _ (hst.new cs t) (Nat.le_refl _))
  obtain ⟨ti, hi, hzz⟩ := Option.map_eq_some_iff.1 hz
  simp only [execOp, Instr.alloc]
  simp [zeroValue, typeInfo, hi, hzz, newVar, newRow, hcs]
theorem Ops.box {t : TypeId} {x : Operand} {v : Value} (cs : List Value) (hst : St w0 F0 H w) (hx : ev e x = some v) (hcs : v.cells = cs.toArray) (hn : Nat.blt d n.size = true)
    (h : ∀ g w', St w0 F0 (H ++ [blk g cs t]) w' → w.heap.size ≤ g → Ops P n Qf k ops rest ((d, .pointer (some ⟨g, 0, none⟩)) :: e) w') : Ops P n Qf k ops (⟨some d, .box t x, T, pos, af, none⟩ :: rest) e w := by
  refine Ops.val (w' := w.alloc (.cells cs.toArray t)) rfl rfl hn (fun c hcc => ?_) (h _ _ (hst.new cs t) (Nat.le_refl _))
  simp only [execOp, Instr.box, hcc _ _ hx]
  simp [newVar, newRow, hcs]
/-- The values of a literal's parts. -/
def evs (e : Env) : List (Nat × Operand) → Option (List (Nat × Value))
  | [] => some []
  | (i, x) :: r => match ev e x with
    | some v => match evs e r with
      | some l => some ((i, v) :: l)
      | none => none
    | none => none
theorem evs_spec {ρ : Operand → Value} (hρ : ∀ x v, ev e x = some v → ρ x = v) : ∀ {l : List (Nat × Operand)} {m : List (Nat × Value)}, evs e l = some m → l.map (fun (i, x) => (i, ρ x)) = m
  | [], m, h => by simp [evs] at h; simp [h]
  | (i, x) :: r, m, h => by
    unfold evs at h
    cases hx : ev e x with
    | none => simp [hx] at h
    | some v =>
      simp only [hx] at h
      cases hr : evs e r with
      | none => simp [hr] at h
      | some l =>
        simp [hr] at h
        subst h
        simp [hρ x v hx, evs_spec hρ hr]
theorem Ops.build {t : TypeId} {parts : Array (Nat × Operand)} (cs : List Value) {fs : Array Field} {z : Value} {m : List (Nat × Value)} {pl : Array (Nat × Nat)} (hm : evs e parts.toList = some m) (ht : P.underlying t = some (.struct fs)) (hz : (P.info? t).map (·.zero) = some (some z))
    (hpl : ∀ w, (fs.mapM fun f => do pure (f.offset, ← sizeOf f.type) : Sem (Array (Nat × Nat))).run P w = .ok pl w) (hf : Instr.fill (pl[·]?) z.cells m = some cs.toArray) (hn : Nat.blt d n.size = true)
    (h : Ops P n Qf k ops rest ((d, .agg cs.toArray) :: e) w) : Ops P n Qf k ops (⟨some d, .build t parts, T, pos, af, none⟩ :: rest) e w := by
  refine Ops.val rfl rfl hn (fun c hcc => ?_) h
  obtain ⟨ti, hi, hzz⟩ := Option.map_eq_some_iff.1 hz
  have h1 := evs_spec hcc hm
  simp only [execOp, Instr.build]
  have h2 : (parts.map (fun (i, x) => (i, c x))).toList = m := by rw [Array.toList_map]; exact h1
  simp only [bind_pure_comp] at hpl
  simp [zeroValue, typeInfo, hi, hzz, run_underlying ht, hpl]
  simp only [Array.toList_map] at h2
  simp [h2, hf]
theorem Ops.buildSlice {t et : TypeId} {len sz : Nat} {parts : Array (Nat × Operand)} (cs : List Value) {z : Value} {m : List (Nat × Value)} (hst : St w0 F0 H w) (hm : evs e parts.toList = some m) (ht : P.underlying t = some (.slice et)) (hs : (P.info? et).map (·.size) = some sz) (hz : (P.info? et).map (·.zero) = some (some z))
    (hb : Nat.ble (len * sz) 16777216 = true) (h0 : Nat.beq (len * sz) 0 = false) (hf : Instr.fill (fun i => some (i * sz, sz)) ((Array.range (len * sz)).map (z.cells[· % z.cells.size]!)) m = some cs.toArray) (hn : Nat.blt d n.size = true)
    (h : ∀ g w', St w0 F0 (H ++ [blk g cs et]) w' → w.heap.size ≤ g → Ops P n Qf k ops rest ((d, .slice (some ⟨g, 0, none⟩) len len) :: e) w') : Ops P n Qf k ops (⟨some d, .buildSlice t len parts, T, pos, af, none⟩ :: rest) e w := by
  refine Ops.val (w' := w.alloc (.cells cs.toArray et)) rfl rfl hn (fun c hcc => ?_) (h _ _ (hst.new cs et) (Nat.le_refl _))
  obtain ⟨ti, hi, hzz⟩ := Option.map_eq_some_iff.1 hz
  have h1 := evs_spec hcc hm
  have hb' : ¬ 16777216 < len * sz := by have := Nat.le_of_ble_eq_true hb; omega
  have h0' : len * sz ≠ 0 := fun h => by rw [h] at h0; simp at h0
  have h2 : (parts.map (fun (i, x) => (i, c x))).toList = m := by rw [Array.toList_map]; exact h1
  simp only [execOp, Instr.buildSlice, h2]
  rw [Sem.run_bind, Sem.run_bind, run_underlying ht]
  simp only [Result.andThen_ok]
  rw [Sem.run_bind, run_sizeOf hs]
  simp only [Result.andThen_ok]
  rw [if_neg (by omega)]
  simp [h0', zeroValue, typeInfo, hi, hzz, hf, newRow]
/-- A call of a function, by its contract. -/
def evl (e : Env) : List Operand → Option (List Value)
  | [] => some []
  | x :: r => match ev e x with
    | some v => match evl e r with
      | some l => some (v :: l)
      | none => none
    | none => none
theorem evl_spec {ρ : Operand → Value} (hρ : ∀ x v, ev e x = some v → ρ x = v) : ∀ {l : List Operand} {m : List Value}, evl e l = some m → l.map ρ = m
  | [], m, h => by simp [evl] at h; simp [h]
  | x :: r, m, h => by
    unfold evl at h
    cases hx : ev e x with
    | none => simp [hx] at h
    | some v =>
      simp only [hx] at h
      cases hr : evl e r with
      | none => simp [hr] at h
      | some l =>
        simp [hr] at h
        subst h
        simp [hρ x v hx, evl_spec hρ hr]
theorem Ops.call {args : Array Operand} {tys : Array TypeId} {cal : Operand} {f : FuncId} {fn : Func} {vs : List Value} {cv : Array Value} {R : Ending → World → Prop} (hcal : ev e cal = some (.func (.func f) #[] cv)) (hargs : evl e args.toList = some vs) (hf : P.funcs[f]? = some fn) (hname : (fn.name == "runtime.NumGoroutine") = false) (hb : fn.body.isNone = false)
    (hn : Nat.blt d n.size = true) (hc : Calls P f (vs.toArray ++ cv) w R) (h : ∀ x w', R x w' → ∃ v, x = .returned v ∧ Ops P n Qf k ops rest ((d, v) :: e) w') : Ops P n Qf k ops (⟨some d, .call ⟨.value cal, args, tys⟩, T, pos, af, none⟩ :: rest) e w := by
  intro a ha
  unfold wpListIn
  rw [if_pos (by simp [Region.wanted])]
  have hρ : ∀ x v, ev e x = some v → a.eval x = v := fun x v hx => ha.eval hx
  have hrun : (execOp a.eval ⟨some d, .call ⟨.value cal, args, tys⟩, T, pos, af, none⟩).run P w = .ok (.enter f (vs.toArray ++ cv)) w := by
    have h2 : args.map a.eval = vs.toArray := by
      have := evl_spec hρ hargs
      rw [← Array.toList_map] at this
      rw [← this]
    simp only [execOp, resolve, hρ _ _ hcal, h2]
    have hn' : ¬ fn.name = "runtime.NumGoroutine" := by simpa using hname
    have hb' : ¬ fn.body = none := fun h => by simp [h] at hb
    simp [Deferred.ofValue, invoke, callFunc, hf, hn', hb']
  refine ⟨fun _ _ => trivial, ?_⟩
  rw [Oper.semAt_eq _ _ _ (by intro c h; cases h), hrun, Oper.uponIn_enter]
  refine ⟨fun h => (by cases h), (callsW n.rd _ hc).mono fun x w' hR => ?_⟩
  obtain ⟨v, rfl, hv⟩ := h x w' hR
  exact hv _ (ha.put d hn v)
end
end Go.Proofs.YtiekoeapmhhjbaaGreatDoor.Sx
