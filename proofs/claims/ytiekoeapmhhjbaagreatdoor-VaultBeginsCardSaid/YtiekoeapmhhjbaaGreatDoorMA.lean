/- The interpreter. -/
import Derived.Test.YtiekoeapmhhjbaaGreatDoorProg
/- The interpreter, part A: values, memory, operations. -/
namespace Go.Proofs.YtiekoeapmhhjbaaGreatDoor.X
open Go
set_option linter.unusedVariables false
noncomputable section
def lrec {α β : Type} (z : β) (s : α → List α → β → β) (l : List α) : β := List.rec z s l
def nrec {α β : Type} (z : α → β) (s : Nat → (α → β) → α → β) (n : Nat) : α → β := Nat.rec z s n
/-- A box: what is in it is made once (the kernel's cache). -/
structure Bx (F : Type) where
  f : F
def un {F : Type} (x : Bx F) : F := Bx.rec (fun f => f) x
def bi {A : Type} (b : Bool) (x y : A) : A := Bool.rec y x b

inductive Cap where
  | all (sz : Nat)
  | is (c : Nat)
inductive V where
  | any
  | bool (b : Bool)
  | int (k : IntKind) (n : Nat)
  | rng (k : IntKind) (lo : Nat) (hi : Nat)
  | str (s : List Nat)
  | ptr (b : Nat) (o : Nat)
  | nilP
  | slice (b : Nat) (o : Nat) (l : Nat) (c : Cap)
  | nilS
  | emp (c0 : Bool)
  | map (r : Nat)
  | nilM
  | func (f : FuncId) (a : List V) (c : List V)
  | yld (l : Nat)
  | nilF
  | iface (t : TypeId) (v : V)
  | nilI
  | agg (cs : List V)
  | tup (vs : List V)
  | opq (i : Nat)
def V.onBool {A : Type} (v : V) : (Bool → A) → A → A :=
  V.rec (motive_1 := fun _ => (Bool → A) → A → A) (motive_2 := fun _ => Unit) (fun _ z => z) (fun x0 K _ => K x0) (fun _ _ _ z => z) (fun _ _ _ _ z => z) (fun _ _ z => z) (fun _ _ _ z => z) (fun _ z => z) (fun _ _ _ _ _ z => z) (fun _ z => z) (fun _ _ z => z) (fun _ _ z => z) (fun _ z => z) (fun _ _ _ _ _ _ z => z) (fun _ _ z => z) (fun _ z => z) (fun _ _ _ _ z => z) (fun _ z => z) (fun _ _ _ z => z) (fun _ _ _ z => z) (fun _ _ z => z) () (fun _ _ _ _ => ()) v
def V.onInt {A : Type} (v : V) : (IntKind → Nat → A) → A → A :=
  V.rec (motive_1 := fun _ => (IntKind → Nat → A) → A → A) (motive_2 := fun _ => Unit) (fun _ z => z) (fun _ _ z => z) (fun x0 x1 K _ => K x0 x1) (fun _ _ _ _ z => z) (fun _ _ z => z) (fun _ _ _ z => z) (fun _ z => z) (fun _ _ _ _ _ z => z) (fun _ z => z) (fun _ _ z => z) (fun _ _ z => z) (fun _ z => z) (fun _ _ _ _ _ _ z => z) (fun _ _ z => z) (fun _ z => z) (fun _ _ _ _ z => z) (fun _ z => z) (fun _ _ _ z => z) (fun _ _ _ z => z) (fun _ _ z => z) () (fun _ _ _ _ => ()) v
def V.onPtr {A : Type} (v : V) : (Nat → Nat → A) → A → A :=
  V.rec (motive_1 := fun _ => (Nat → Nat → A) → A → A) (motive_2 := fun _ => Unit) (fun _ z => z) (fun _ _ z => z) (fun _ _ _ z => z) (fun _ _ _ _ z => z) (fun _ _ z => z) (fun x0 x1 K _ => K x0 x1) (fun _ z => z) (fun _ _ _ _ _ z => z) (fun _ z => z) (fun _ _ z => z) (fun _ _ z => z) (fun _ z => z) (fun _ _ _ _ _ _ z => z) (fun _ _ z => z) (fun _ z => z) (fun _ _ _ _ z => z) (fun _ z => z) (fun _ _ _ z => z) (fun _ _ _ z => z) (fun _ _ z => z) () (fun _ _ _ _ => ()) v
def V.onSlice {A : Type} (v : V) : (Nat → Nat → Nat → Cap → A) → A → A :=
  V.rec (motive_1 := fun _ => (Nat → Nat → Nat → Cap → A) → A → A) (motive_2 := fun _ => Unit) (fun _ z => z) (fun _ _ z => z) (fun _ _ _ z => z) (fun _ _ _ _ z => z) (fun _ _ z => z) (fun _ _ _ z => z) (fun _ z => z) (fun x0 x1 x2 x3 K _ => K x0 x1 x2 x3) (fun _ z => z) (fun _ _ z => z) (fun _ _ z => z) (fun _ z => z) (fun _ _ _ _ _ _ z => z) (fun _ _ z => z) (fun _ z => z) (fun _ _ _ _ z => z) (fun _ z => z) (fun _ _ _ z => z) (fun _ _ _ z => z) (fun _ _ z => z) () (fun _ _ _ _ => ()) v
def V.onTup {A : Type} (v : V) : (List V → A) → A → A :=
  V.rec (motive_1 := fun _ => (List V → A) → A → A) (motive_2 := fun _ => Unit) (fun _ z => z) (fun _ _ z => z) (fun _ _ _ z => z) (fun _ _ _ _ z => z) (fun _ _ z => z) (fun _ _ _ z => z) (fun _ z => z) (fun _ _ _ _ _ z => z) (fun _ z => z) (fun _ _ z => z) (fun _ _ z => z) (fun _ z => z) (fun _ _ _ _ _ _ z => z) (fun _ _ z => z) (fun _ z => z) (fun _ _ _ _ z => z) (fun _ z => z) (fun _ _ _ z => z) (fun x0 _ K _ => K x0) (fun _ _ z => z) () (fun _ _ _ _ => ()) v
def V.onAgg {A : Type} (v : V) : (List V → A) → A → A :=
  V.rec (motive_1 := fun _ => (List V → A) → A → A) (motive_2 := fun _ => Unit) (fun _ z => z) (fun _ _ z => z) (fun _ _ _ z => z) (fun _ _ _ _ z => z) (fun _ _ z => z) (fun _ _ _ z => z) (fun _ z => z) (fun _ _ _ _ _ z => z) (fun _ z => z) (fun _ _ z => z) (fun _ _ z => z) (fun _ z => z) (fun _ _ _ _ _ _ z => z) (fun _ _ z => z) (fun _ z => z) (fun _ _ _ _ z => z) (fun _ z => z) (fun x0 _ K _ => K x0) (fun _ _ _ z => z) (fun _ _ z => z) () (fun _ _ _ _ => ()) v
def V.onFunc {A : Type} (v : V) : (FuncId → List V → List V → A) → A → A :=
  V.rec (motive_1 := fun _ => (FuncId → List V → List V → A) → A → A) (motive_2 := fun _ => Unit) (fun _ z => z) (fun _ _ z => z) (fun _ _ _ z => z) (fun _ _ _ _ z => z) (fun _ _ z => z) (fun _ _ _ z => z) (fun _ z => z) (fun _ _ _ _ _ z => z) (fun _ z => z) (fun _ _ z => z) (fun _ _ z => z) (fun _ z => z) (fun x0 x1 x2 _ _ K _ => K x0 x1 x2) (fun _ _ z => z) (fun _ z => z) (fun _ _ _ _ z => z) (fun _ z => z) (fun _ _ _ z => z) (fun _ _ _ z => z) (fun _ _ z => z) () (fun _ _ _ _ => ()) v
def V.onYld {A : Type} (v : V) : (Nat → A) → A → A :=
  V.rec (motive_1 := fun _ => (Nat → A) → A → A) (motive_2 := fun _ => Unit) (fun _ z => z) (fun _ _ z => z) (fun _ _ _ z => z) (fun _ _ _ _ z => z) (fun _ _ z => z) (fun _ _ _ z => z) (fun _ z => z) (fun _ _ _ _ _ z => z) (fun _ z => z) (fun _ _ z => z) (fun _ _ z => z) (fun _ z => z) (fun _ _ _ _ _ _ z => z) (fun x0 K _ => K x0) (fun _ z => z) (fun _ _ _ _ z => z) (fun _ z => z) (fun _ _ _ z => z) (fun _ _ _ z => z) (fun _ _ z => z) () (fun _ _ _ _ => ()) v
def V.onStr {A : Type} (v : V) : (List Nat → A) → A → A :=
  V.rec (motive_1 := fun _ => (List Nat → A) → A → A) (motive_2 := fun _ => Unit) (fun _ z => z) (fun _ _ z => z) (fun _ _ _ z => z) (fun _ _ _ _ z => z) (fun x0 K _ => K x0) (fun _ _ _ z => z) (fun _ z => z) (fun _ _ _ _ _ z => z) (fun _ z => z) (fun _ _ z => z) (fun _ _ z => z) (fun _ z => z) (fun _ _ _ _ _ _ z => z) (fun _ _ z => z) (fun _ z => z) (fun _ _ _ _ z => z) (fun _ z => z) (fun _ _ _ z => z) (fun _ _ _ z => z) (fun _ _ z => z) () (fun _ _ _ _ => ()) v
def V.onMap {A : Type} (v : V) : (Nat → A) → A → A :=
  V.rec (motive_1 := fun _ => (Nat → A) → A → A) (motive_2 := fun _ => Unit) (fun _ z => z) (fun _ _ z => z) (fun _ _ _ z => z) (fun _ _ _ _ z => z) (fun _ _ z => z) (fun _ _ _ z => z) (fun _ z => z) (fun _ _ _ _ _ z => z) (fun _ z => z) (fun _ _ z => z) (fun x0 K _ => K x0) (fun _ z => z) (fun _ _ _ _ _ _ z => z) (fun _ _ z => z) (fun _ z => z) (fun _ _ _ _ z => z) (fun _ z => z) (fun _ _ _ z => z) (fun _ _ _ z => z) (fun _ _ z => z) () (fun _ _ _ _ => ()) v
structure N8 (α : Type) where
  (a b c d e f g h : α)
def selB {α : Type} (z : α) (d : Nat) : Bx (N8 α → α) := Nat.rec (motive := fun _ => Bx (N8 α → α)) (⟨fun n => n.a⟩) (fun d _ => Nat.rec (motive := fun _ => Bx (N8 α → α)) (⟨fun n => n.b⟩) (fun d _ => Nat.rec (motive := fun _ => Bx (N8 α → α)) (⟨fun n => n.c⟩) (fun d _ => Nat.rec (motive := fun _ => Bx (N8 α → α)) (⟨fun n => n.d⟩) (fun d _ => Nat.rec (motive := fun _ => Bx (N8 α → α)) (⟨fun n => n.e⟩) (fun d _ => Nat.rec (motive := fun _ => Bx (N8 α → α)) (⟨fun n => n.f⟩) (fun d _ => Nat.rec (motive := fun _ => Bx (N8 α → α)) (⟨fun n => n.g⟩) (fun d _ => Nat.rec (motive := fun _ => Bx (N8 α → α)) (⟨fun n => n.h⟩) (fun d _ => ⟨fun _ => z⟩) d) d) d) d) d) d) d) d
def updB {α : Type} (d : Nat) : Bx (N8 α → α → N8 α) := Nat.rec (motive := fun _ => Bx (N8 α → α → N8 α)) (⟨fun n x => N8.rec (motive := fun _ => N8 α) (fun a b c d e f g h => ⟨x, b, c, d, e, f, g, h⟩) n⟩) (fun d _ => Nat.rec (motive := fun _ => Bx (N8 α → α → N8 α)) (⟨fun n x => N8.rec (motive := fun _ => N8 α) (fun a b c d e f g h => ⟨a, x, c, d, e, f, g, h⟩) n⟩) (fun d _ => Nat.rec (motive := fun _ => Bx (N8 α → α → N8 α)) (⟨fun n x => N8.rec (motive := fun _ => N8 α) (fun a b c d e f g h => ⟨a, b, x, d, e, f, g, h⟩) n⟩) (fun d _ => Nat.rec (motive := fun _ => Bx (N8 α → α → N8 α)) (⟨fun n x => N8.rec (motive := fun _ => N8 α) (fun a b c d e f g h => ⟨a, b, c, x, e, f, g, h⟩) n⟩) (fun d _ => Nat.rec (motive := fun _ => Bx (N8 α → α → N8 α)) (⟨fun n x => N8.rec (motive := fun _ => N8 α) (fun a b c d e f g h => ⟨a, b, c, d, x, f, g, h⟩) n⟩) (fun d _ => Nat.rec (motive := fun _ => Bx (N8 α → α → N8 α)) (⟨fun n x => N8.rec (motive := fun _ => N8 α) (fun a b c d e f g h => ⟨a, b, c, d, e, x, g, h⟩) n⟩) (fun d _ => Nat.rec (motive := fun _ => Bx (N8 α → α → N8 α)) (⟨fun n x => N8.rec (motive := fun _ => N8 α) (fun a b c d e f g h => ⟨a, b, c, d, e, f, x, h⟩) n⟩) (fun d _ => Nat.rec (motive := fun _ => Bx (N8 α → α → N8 α)) (⟨fun n x => N8.rec (motive := fun _ => N8 α) (fun a b c d e f g h => ⟨a, b, c, d, e, f, g, x⟩) n⟩) (fun d _ => ⟨fun n _ => n⟩) d) d) d) d) d) d) d) d
def sel8 {α : Type} (z : α) (d : Nat) (n : N8 α) : α := Bx.rec (fun f => f n) (selB z d)
def upd8 {α : Type} (d : Nat) (n : N8 α) (x : α) : N8 α := Bx.rec (fun f => f n x) (updB d)
def al8 {α : Type} (x : α) : N8 α := ⟨x, x, x, x, x, x, x, x⟩
abbrev T2 (α : Type) := N8 (N8 α)
abbrev T3 (α : Type) := N8 (T2 α)
abbrev T4 (α : Type) := N8 (T3 α)
abbrev T5 (α : Type) := N8 (T4 α)
/-- A number as it is written: what follows is handed the number itself. -/
def frc {A : Type} (n : Nat) (K : Nat → A) : A := Nat.rec (motive := fun _ => A) (K 0) (fun p _ => K (Nat.succ p)) n
section
variable {α : Type} (z : α)
def g2B (k : Nat) : Bx (T2 α → α) := Bx.rec (fun f => Bx.rec (fun g => ⟨fun t => g (f t)⟩) (selB z (Nat.mod k 8))) (selB (al8 z) (Nat.div k 8))
def g3B (k : Nat) : Bx (T3 α → α) := Bx.rec (fun f => Bx.rec (fun g => ⟨fun t => g (f t)⟩) (g2B z (Nat.mod k 64))) (selB (al8 (al8 z)) (Nat.div k 64))
def g4B (k : Nat) : Bx (T4 α → α) := Bx.rec (fun f => Bx.rec (fun g => ⟨fun t => g (f t)⟩) (g3B z (Nat.mod k 512))) (selB (al8 (al8 (al8 z))) (Nat.div k 512))
def g5B (k : Nat) : Bx (T5 α → α) := Bx.rec (fun f => Bx.rec (fun g => ⟨fun t => g (f t)⟩) (g4B z (Nat.mod k 4096))) (selB (al8 (al8 (al8 (al8 z)))) (Nat.div k 4096))
def u2B (k : Nat) : Bx (α → T2 α → T2 α) := Bx.rec (fun f => Bx.rec (fun u => Bx.rec (fun w => ⟨fun v t => u t (w (f t) v)⟩) (updB (Nat.mod k 8))) (updB (Nat.div k 8))) (selB (al8 z) (Nat.div k 8))
def u3B (k : Nat) : Bx (α → T3 α → T3 α) := Bx.rec (fun f => Bx.rec (fun u => Bx.rec (fun w => ⟨fun v t => u t (w v (f t))⟩) (u2B z (Nat.mod k 64))) (updB (Nat.div k 64))) (selB (al8 (al8 z)) (Nat.div k 64))
def u4B (k : Nat) : Bx (α → T4 α → T4 α) := Bx.rec (fun f => Bx.rec (fun u => Bx.rec (fun w => ⟨fun v t => u t (w v (f t))⟩) (u3B z (Nat.mod k 512))) (updB (Nat.div k 512))) (selB (al8 (al8 (al8 z))) (Nat.div k 512))
def u5B (k : Nat) : Bx (α → T5 α → T5 α) := Bx.rec (fun f => Bx.rec (fun u => Bx.rec (fun w => ⟨fun v t => u t (w v (f t))⟩) (u4B z (Nat.mod k 4096))) (updB (Nat.div k 4096))) (selB (al8 (al8 (al8 (al8 z)))) (Nat.div k 4096))
def g3 (k : Nat) (t : T3 α) : α := Bx.rec (fun f => f t) (g3B z k)
def g4 (k : Nat) (t : T4 α) : α := Bx.rec (fun f => f t) (g4B z k)
def g5 (k : Nat) (t : T5 α) : α := Bx.rec (fun f => f t) (g5B z k)
def u3 (k : Nat) (v : α) (t : T3 α) : T3 α := Bx.rec (fun f => f v t) (u3B z k)
def u4 (k : Nat) (v : α) (t : T4 α) : T4 α := Bx.rec (fun f => f v t) (u4B z k)
def u5 (k : Nat) (v : α) (t : T5 α) : T5 α := Bx.rec (fun f => f v t) (u5B z k)
end
abbrev En := T3 V
abbrev Cs := T4 V
def en0 : En := al8 (al8 (al8 .any))
def cs0 : Cs := al8 (al8 (al8 (al8 .any)))
def gE (k : Nat) : En → V := g3 .any k
def uE (k : Nat) (v : V) : En → En := u3 .any k v
def gC (k : Nat) : Cs → V := g4 .any k
def uC (k : Nat) (v : V) : Cs → Cs := u4 .any k v

inductive Blk where
  | dead
  | cells (n : Nat) (t : Cs) (T : TypeId) (fz : Bool)
  | tab (n : Nat) (t : Cs)
  | map (es : List (V × V × Nat)) (clock : Nat)
  | mapIter (m : Option Nat) (since : Nat) (seen : List Nat) (last : Nat)
  | strIter (s : List Nat) (pos : Nat)
  | loop (st : Nat) (pend : Option Code) (t : En) (sz : Nat) (params : List Tmp) (assign body : Code)
  | deferred
def Blk.onCells {A : Type} (b : Blk) : (Nat → Cs → TypeId → Bool → A) → A → A :=
  Blk.rec (motive := fun _ => (Nat → Cs → TypeId → Bool → A) → A → A) (fun _ z => z) (fun n t T fz K _ => K n t T fz) (fun _ _ _ z => z) (fun _ _ _ z => z) (fun _ _ _ _ _ z => z) (fun _ _ _ z => z) (fun _ _ _ _ _ _ _ _ z => z) (fun _ z => z) b
/-- Cells that may be read. -/
def Blk.onRead {A : Type} (b : Blk) : (Nat → Cs → A) → A → A :=
  Blk.rec (motive := fun _ => (Nat → Cs → A) → A → A) (fun _ z => z) (fun n t _ _ K _ => K n t) (fun n t K _ => K n t) (fun _ _ _ z => z) (fun _ _ _ _ _ z => z) (fun _ _ _ z => z) (fun _ _ _ _ _ _ _ _ z => z) (fun _ z => z) b
structure M where
  n : Nat
  t : T5 Blk
  lg : List Nat
def M.get (m : M) (k : Nat) : Blk := g5 .dead k m.t
def M.put (m : M) (k : Nat) (b : Blk) : M := ⟨m.n, u5 .dead k b m.t, k :: m.lg⟩
def M.kill (m : M) (k : Nat) : M := m.put k .dead
def M.new (m : M) (b : Blk) : M := frc (Nat.add m.n 1) fun n => ⟨n, u5 .dead m.n b m.t, m.n :: m.lg⟩
inductive Rs where
  | normal
  | exit (id : Nat)
  | ret

def ob {α β : Type} (o : Option α) (f : α → Option β) : Option β := Option.rec none (fun a => f a) o
/-- Go on with what there is. -/
def oc {α A : Type} (o : Option α) (z : A) (f : α → A) : A := Option.rec z (fun a => f a) o
def lapp {α : Type} (a b : List α) : List α := List.rec b (fun x _ ih => x :: ih) a

/-! ### constants -/
def modN (k : IntKind) : Nat := IntKind.rec 256 65536 4294967296 18446744073709551616 256 65536 4294967296 18446744073709551616 k
def halfN (k : IntKind) : Nat := IntKind.rec 128 32768 2147483648 9223372036854775808 256 65536 4294967296 18446744073709551616 k
/-- What is added ahead of a comparison. -/
def biasN (k : IntKind) : Nat := IntKind.rec 128 32768 2147483648 9223372036854775808 0 0 0 0 k
def kn (k : IntKind) : Nat := IntKind.rec 0 1 2 3 4 5 6 7 k
def bitsN (k : IntKind) : Nat := IntKind.rec 8 16 32 64 8 16 32 64 k
/-- A number that is not below 0, as one. -/
def posI (k : IntKind) (a : Nat) : Bool := Nat.blt a (halfN k)
/-- A number, if it is one of its kind. -/
def cI (k : IntKind) (n : Int) : V := Int.rec (fun a => bi (posI k a) (.int k a) .any) (fun a => bi (bi (Nat.beq (biasN k) 0) false (Nat.blt a (halfN k))) (.int k (Nat.sub (Nat.sub (modN k) 1) a)) .any) n
def strN (s : ByteArray) : List Nat := s.data.toList.map (·.toNat)
def vOfL (f : Value → V) (l : List Value) : List V := lrec [] (fun x _ ih => f x :: ih) l
def vOf (n : Nat) : Value → V :=
  nrec (fun _ => .any) (fun _ ih x => match x with
    | .bool b => .bool b
    | .int k n => cI k n
    | .string s => .str (strN s)
    | .pointer none => .nilP
    | .slice none 0 0 => .nilS
    | .map none => .nilM
    | .nilFunc => .nilF
    | .nilIface => .nilI
    | .agg cs => bi (lrec true (fun x _ r => match x with
      | .agg _ => false
      | .tuple _ => false
      | _ => r) cs.toList) (.agg (vOfL ih cs.toList)) .any
    | .tuple vs => .tup (vOfL ih vs.toList)
    | _ => .any) n
def cEv (x : Operand) : Bx (En → V) := Operand.rec (fun t => ⟨gE t⟩) (fun v => ⟨fun _ => vOf 4 v⟩) (fun g => ⟨fun _ => bi (Nat.blt g 6) (.ptr g 0) .any⟩) (fun f => ⟨fun _ => .func f [] []⟩) x
def ev (x : Operand) (e : En) : V := Bx.rec (fun f => f e) (cEv x)
def evl (e : En) (l : List Operand) : List V := lrec [] (fun x _ ih => ev x e :: ih) l
def evp (e : En) (l : List (Nat × Operand)) : List (Nat × V) := lrec [] (fun x _ ih => (x.1, ev x.2 e) :: ih) l

/-! ### numbers -/
def eqL (a : List Nat) : List Nat → Bool :=
  lrec (fun b => List.rec true (fun _ _ _ => false) b) (fun x _ ih b => List.rec false (fun y r _ => bi (Nat.beq (Nat.mod x 256) (Nat.mod y 256)) (ih r) false) b) a
def ltL (a : List Nat) : List Nat → Bool :=
  lrec (fun b => List.rec false (fun _ _ _ => true) b) (fun x _ ih b => List.rec false (fun y r _ => bi (Nat.beq (Nat.mod x 256) (Nat.mod y 256)) (ih r) (Nat.blt (Nat.mod x 256) (Nat.mod y 256))) b) a
def notB (b : Bool) : Bool := Bool.rec true false b
def eqBo (a b : Bool) : Bool := Bool.rec (notB b) b a
def leI (k : IntKind) (a b : Nat) : Bool := Nat.ble (Nat.mod (Nat.add a (biasN k)) (modN k)) (Nat.mod (Nat.add b (biasN k)) (modN k))
def eqI (k : IntKind) (a b : Nat) : Bool := Nat.beq (Nat.mod a (modN k)) (Nat.mod b (modN k))
section
variable {A : Type}
def kI (K : V → A) (k : IntKind) (n : Nat) : A := frc n fun n => K (.int k n)
def intOp (op : BinOp) : IntKind → Nat → Nat → (V → A) → A → A :=
  BinOp.rec (motive := fun _ => IntKind → Nat → Nat → (V → A) → A → A)
    (fun k a b K _ => (kI K k (Nat.mod (Nat.add a b) (modN k))))
    (fun k a b K _ => (kI K k (Nat.mod (Nat.add a (Nat.sub (modN k) (Nat.mod b (modN k)))) (modN k))))
    (fun k a b K _ => (kI K k (Nat.mod (Nat.mul a b) (modN k))))
    (fun k a b K z => bi (posI k a) (bi (posI k b) (bi (Nat.beq b 0) z ((kI K k (Nat.div a b)))) z) z)
    (fun k a b K z => bi (posI k a) (bi (posI k b) (bi (Nat.beq b 0) z ((kI K k (Nat.mod a b)))) z) z)
    (fun k a b K _ => (kI K k (Nat.land (Nat.mod a (modN k)) (Nat.mod b (modN k)))))
    (fun k a b K _ => (kI K k (Nat.lor (Nat.mod a (modN k)) (Nat.mod b (modN k)))))
    (fun k a b K _ => (kI K k (Nat.xor (Nat.mod a (modN k)) (Nat.mod b (modN k)))))
    (fun _ _ _ _ z => z)
    (fun _ _ _ _ z => z)
    (fun _ _ _ _ z => z)
    (fun k a b K _ => bi (eqI k a b) (K (.bool true)) (K (.bool false)))
    (fun k a b K _ => bi (notB (eqI k a b)) (K (.bool true)) (K (.bool false)))
    (fun k a b K _ => bi (notB (leI k b a)) (K (.bool true)) (K (.bool false)))
    (fun k a b K _ => bi (leI k a b) (K (.bool true)) (K (.bool false)))
    (fun k a b K _ => bi (notB (leI k a b)) (K (.bool true)) (K (.bool false)))
    (fun k a b K _ => bi (leI k b a) (K (.bool true)) (K (.bool false)))
    op
/-- Shifts: 1, 2; other operations: 0. -/
def shN (op : BinOp) : Nat := BinOp.rec 0 0 0 0 0 0 0 0 1 2 0 0 0 0 0 0 0 op
def shOp (op : Nat) (k : IntKind) (a : Nat) (q : IntKind) (b : Nat) (K : V → A) (z : A) : A := bi (Nat.ble b (bitsN k)) (bi (posI q b)
  (bi (Nat.beq op 1) (kI K k (Nat.mod (Nat.mul a (Nat.pow 2 b)) (modN k))) (bi (posI k a) (kI K k (Nat.div a (Nat.pow 2 b))) z)) z) z
end
def lenN (l : List Nat) : Nat := List.rec 0 (fun _ _ ih => Nat.add ih 1) l
def strOp (op : BinOp) (a b : List Nat) : Option V := match op with
  | .add => bi (Nat.ble (Nat.add (lenN a) (lenN b)) 1000000) (some (.str (lapp a b))) none
  | .eql => some (.bool (eqL a b))
  | .neq => some (.bool (notB (eqL a b)))
  | .lss => some (.bool (ltL a b))
  | .leq => some (.bool (notB (ltL b a)))
  | .gtr => some (.bool (ltL b a))
  | .geq => some (.bool (notB (ltL a b)))
  | _ => none
def eqOp (op : BinOp) (b : Bool) : Option V := match op with
  | .eql => some (.bool b)
  | .neq => some (.bool (notB b))
  | _ => none
/-- A number of a range beside one that is known. -/
def rngOp (op : BinOp) (lo hi b : Nat) : Option V := match op with
  | .lss => bi (Nat.blt hi b) (some (.bool true)) (bi (Nat.ble b lo) (some (.bool false)) none)
  | .leq => bi (Nat.ble hi b) (some (.bool true)) (bi (Nat.blt b lo) (some (.bool false)) none)
  | .gtr => bi (Nat.blt b lo) (some (.bool true)) (bi (Nat.ble hi b) (some (.bool false)) none)
  | .geq => bi (Nat.ble b lo) (some (.bool true)) (bi (Nat.blt hi b) (some (.bool false)) none)
  | .rem => bi (Nat.beq b 0) none (some (.rng .i64 0 (Nat.sub b 1)))
  | _ => none
def gnrOp (op : BinOp) (b lo hi : Nat) : Option V := match op with
  | .lss => rngOp .gtr lo hi b
  | .leq => rngOp .geq lo hi b
  | .gtr => rngOp .lss lo hi b
  | .geq => rngOp .leq lo hi b
  | _ => none
def isAdd (op : BinOp) : Bool := BinOp.rec true false false false false false false false false false false false false false false false false op
/-- A number of a range and one that is known, together. -/
def addR (k : IntKind) (lo hi b : Nat) : Option V := bi (posI k (Nat.add hi b)) (some (.rng k (Nat.add lo b) (Nat.add hi b))) none
def cmpOnly (op : BinOp) : Bool := BinOp.rec false false false false false false false false false false false false false true true true true op
/-- What kind a type is of. -/
inductive Kd where
  | other
  | bool
  | ptr
  | slice
  | map
  | func
  | iface
  | strct (l : List (Nat × Nat))
def szI (P : Program) (t : TypeId) : Nat := match P.info? t with
  | some i => i.size
  | none => 0
/-- A struct's fields, those of its fields too: numbers (0), texts (1), bools (2): their places. -/
def fldsF (P : Program) (n : Nat) : TypeId → Nat → Option (List (Nat × Nat)) := nrec (fun _ _ => none) (fun _ ih t b => match P.underlying t with
  | some (.int _) => some [(b, 0)]
  | some .string => some [(b, 1)]
  | some .bool => some [(b, 2)]
  | some (.struct fs) => lrec (some []) (fun (f : Field) _ r => bi (Nat.ble (Nat.add f.offset (szI P f.type)) (szI P t)) (ob (ih f.type (Nat.add b f.offset)) fun x => ob r fun y => some (lapp x y)) none) fs.toList
  | _ => none) n
/-- The structs that are compared. -/
def eqTs : List Nat := [45, 47, 123]
def memT (k : Nat) (l : List Nat) : Bool := List.rec false (fun x _ ih => bi (Nat.beq k x) true ih) l
def kdT (P : Program) (t : TypeId) : Kd := match P.underlying t with
  | some (.struct fs) => bi (memT t eqTs) (Option.rec .other (fun l => .strct l) (fldsF P 3 t 0)) .other
  | some .bool => .bool
  | some (.pointer _) => .ptr
  | some (.slice _) => .slice
  | some (.map _ _) => .map
  | some (.func _ _ _) => .func
  | some (.interface _) => .iface
  | _ => .other
/-- A type of numbers that may be compared. -/
def cmpT (P : Program) (t : TypeId) : Bool := match P.info? t with
  | some i => bi i.comparable (match P.underlying t with
    | some (.int _) => true
    | _ => false) false
  | none => false
def dropL {α : Type} (n : Nat) : List α → List α := nrec (fun l => l) (fun _ ih l => List.rec [] (fun _ r _ => ih r) l) n
def headO {α : Type} (l : List α) : Option α := List.rec none (fun x _ _ => some x) l
/-- Structs of such fields, one by one. -/
def eqA (l : List (Nat × Nat)) (xs ys : List V) : Option Bool := lrec (some true) (fun p _ ih => ob (headO (dropL p.1 xs)) fun x => ob (headO (dropL p.1 ys)) fun y => match p.2, x, y with
  | 0, .int k a, .int q b => bi (Nat.beq (kn k) (kn q)) (bi (eqI k a b) ih (some false)) none
  | 1, .str a, .str b => bi (eqL a b) ih (some false)
  | 2, .bool a, .bool b => bi (eqBo a b) ih (some false)
  | _, _, _ => none) l
def lenV (l : List V) : Nat := List.rec 0 (fun _ _ ih => Nat.add ih 1) l
def isC (x : Operand) : Bool := Operand.rec (fun _ => false) (fun _ => true) (fun _ => false) (fun _ => false) x
/-! ### numbers and rows that have names -/
def btw (a i b : Nat) : Bool := bi (Nat.ble a i) (Nat.blt i b) false
/-- The numbers 100 to 102 have names; rows of so many: 110 to 112; numbers that are not less: 120 to 122. -/
def famN (i : Nat) : Option Nat := bi (btw 100 i 103) (some (Nat.sub i 100)) none
def famS (i : Nat) : Option Nat := bi (btw 110 i 113) (some (Nat.sub i 110)) none
def famG (i : Nat) : Option Nat := bi (btw 120 i 123) (some (Nat.sub i 120)) none
def loF (f : Nat) : Nat := bi (Nat.beq f 2) 26 0
def hiF (f : Nat) : Nat := bi (Nat.beq f 1) 26 60
def lim40 : Nat := 1099511627776
/-- Between which numbers a number of 64 bits is. -/
def asR (v : V) : Option (Nat × Nat) := match v with
  | .int .i64 b => bi (Nat.blt b lim40) (some (b, b)) none
  | .rng .i64 lo hi => bi (Nat.blt hi lim40) (some (lo, hi)) none
  | .opq i => ob (famN i) fun f => some (loF f, hiF f)
  | _ => none
def opN (v : V) : Option Nat := match v with
  | .opq i => famN i
  | _ => none
def opG (v : V) : Option Nat := match v with
  | .opq i => famG i
  | _ => none
def isZ (v : V) : Bool := match v with
  | .int .i64 b => Nat.beq b 0
  | _ => false
def symAdd (x y : V) : Option V := ob (asR x) fun a => ob (asR y) fun b => bi (isZ x) (some y) (match opN x with
  | some f => some (.opq (Nat.add 120 f))
  | none => some (.rng .i64 (Nat.add a.1 b.1) (Nat.add a.2 b.2)))
def geB (x y : V) : Bool := match opN x, opG y with
  | some f, some g => Nat.beq f g
  | _, _ => false
def lesN (a b : Nat) : Nat := bi (Nat.ble a b) a b
def grtN (a b : Nat) : Nat := bi (Nat.ble a b) b a
def symMin (x y : V) : Option V := bi (geB x y) (some x) (bi (geB y x) (some y) (ob (asR x) fun a => ob (asR y) fun b =>
  some (bi (Nat.ble a.2 b.1) x (bi (Nat.ble b.2 a.1) y (.rng .i64 (lesN a.1 b.1) (lesN a.2 b.2))))))
def symMax (x y : V) : Option V := ob (asR x) fun a => ob (asR y) fun b =>
  some (bi (Nat.ble b.2 a.1) x (bi (Nat.ble a.2 b.1) y (.rng .i64 (grtN a.1 b.1) (grtN a.2 b.2))))
def clsV (a hi : Nat) : V := bi (Nat.blt a 8) (.int .u8 a) (.rng .u8 (Nat.sub a 8) hi)
def symRem (x y : V) : Option V := match x, y with
  | .opq i, .int .u8 b => bi (btw 2000 i 2016) (bi (Nat.beq b 16) (some (.int .u8 (Nat.sub i 2000))) none) (bi (btw 3000 i 3256) (bi (Nat.beq b 9) (some (clsV (Nat.div (Nat.sub i 3000) 16) 8)) none) none)
  | _, _ => none
def symQuo (x y : V) : Option V := match x, y with
  | .opq i, .int .u8 b => bi (btw 3000 i 3256) (bi (Nat.beq b 9) (some (clsV (Nat.mod (Nat.sub i 3000) 16) 28)) none) (bi (btw 4000 i 4016) (bi (Nat.beq b 2) (some (.opq (Nat.add 5000 (Nat.mod (Nat.sub i 4000) 4)))) none) none)
  | _, _ => none
def symBin (op : BinOp) (x y : V) : Option V := match op with
  | .add => symAdd x y
  | .rem => symRem x y
  | .quo => symQuo x y
  | _ => none
def bytV (c : Nat) : V := bi (Nat.beq c 0) (.opq 101) (bi (Nat.beq c 1) (.opq 102) (bi (Nat.beq c 2) (.rng .i64 60 255) (.rng .i64 0 255)))
def symConv (k : IntKind) (i : Nat) : Option V := bi (Nat.beq (kn k) 3) (bi (btw 4000 i 4016) (some (bytV (Nat.div (Nat.sub i 4000) 4))) (bi (btw 5000 i 5004) (some (bytV (Nat.sub i 5000))) none)) none
def symLen (i : Nat) : Option V := ob (famS i) fun f => some (.opq (Nat.add 100 f))
def xBinS (P : Program) (op : BinOp) (t : TypeId) (cst : Bool) (x y : V) : Option V := match x, y with
  | .str a, .str b => strOp op a b
  | .rng k lo hi, .int q b => bi (Nat.beq (kn k) (kn q)) (bi (isAdd op) (addR q lo hi b) (bi (cmpOnly op) (bi (posI q b) (bi (posI q hi) (rngOp op lo hi b) none) none) none)) none
  | .int q b, .rng k lo hi => bi (Nat.beq (kn k) (kn q)) (bi (isAdd op) (addR q lo hi b) (bi (cmpOnly op) (bi (posI q b) (bi (posI q hi) (gnrOp op b lo hi) none) none) none)) none
  | .opq i, y => symBin op (.opq i) y
  | x, .opq i => symBin op x (.opq i)
  | x, y => match kdT P t, x, y with
    | .bool, .bool a, .bool b => eqOp op (eqBo a b)
    | .strct l, .agg a, .agg b => bi (Nat.beq (lenV a) (szI P t)) (bi (Nat.beq (lenV b) (szI P t)) (ob (eqA l a b) fun r => eqOp op r) none) none
    | .ptr, .nilP, .nilP => eqOp op true
    | .ptr, .ptr _ _, .nilP => eqOp op false
    | .ptr, .nilP, .ptr _ _ => eqOp op false
    | .slice, .nilS, .nilS => eqOp op true
    | .slice, .slice _ _ _ _, .nilS => eqOp op false
    | .slice, .emp _, .nilS => eqOp op false
    | .map, .nilM, .nilM => eqOp op true
    | .map, .map _, .nilM => eqOp op false
    | .func, .nilF, .nilF => eqOp op true
    | .func, .func _ _ _, .nilF => eqOp op false
    | .iface, .iface t (.int k a), .iface u (.int q b) => bi (Nat.beq t u) (bi (cmpT P t) (bi (Nat.beq (kn k) (kn q)) (eqOp op (eqI k a b)) none) none) (eqOp op false)
    | .iface, .nilI, .nilI => bi cst (eqOp op true) none
    | .iface, .iface _ _, .nilI => eqOp op false
    | _, _, _ => none
section
variable {A : Type}
def xBin (P : Program) (op : BinOp) (t : TypeId) (cst : Bool) (x y : V) (K : V → A) (z : A) : A :=
  x.onInt (fun k a => y.onInt (fun q b => Nat.rec (motive := fun _ => A) (bi (Nat.beq (kn k) (kn q)) (intOp op k a b K z) z) (fun s _ => shOp (Nat.add s 1) k a q b K z) (shN op)) (oc (xBinS P op t cst x y) z K)) (oc (xBinS P op t cst x y) z K)
end
def xUn (op : UnOp) (x : V) : Option V := match op, x with
  | .not, .bool b => some (.bool (notB b))
  | .neg, .int k a => some (.int k (Nat.mod (Nat.sub (modN k) (Nat.mod a (modN k))) (modN k)))
  | .xor, .int k a => some (.int k (Nat.xor (Nat.sub (modN k) 1) (Nat.mod a (modN k))))
  | _, _ => none

/-! ### memory -/
inductive Ld where
  | bad
  | one
  | agg (n : Nat)
/-- How a type lies. -/
def ldT (P : Program) (t : TypeId) : Ld := match P.underlying t with
  | some (.struct _) => match P.info? t with
    | some i => .agg i.size
    | none => .bad
  | some (.array _ _) => match P.info? t with
    | some i => .agg i.size
    | none => .bad
  | some _ => .one
  | none => .bad
def szT (P : Program) (t : TypeId) : Option Nat := match P.info? t with
  | some i => some i.size
  | none => none
def byT (P : Program) (t : TypeId) : Option Nat := match P.info? t with
  | some i => some i.bytes
  | none => none
def zeroT (P : Program) (t : TypeId) : V := match P.info? t with
  | some i => match i.zero with
    | some z => vOf 4 z
    | none => .any
  | none => .any
def elT (P : Program) (t : TypeId) : Option TypeId := match P.underlying t with
  | some (.slice e) => some e
  | _ => none
/-- A slice's element: its type and how many cells it takes. -/
def elz (P : Program) (t : TypeId) : Option (TypeId × Nat) := ob (elT P t) fun e => ob (szT P e) fun z => some (e, z)
/-- An array's length, its elements' type and cells. -/
def arT (P : Program) (t : TypeId) : Option (Nat × TypeId × Nat) := match P.underlying t with
  | some (.array n e) => ob (szT P e) fun z => some (n, e, z)
  | _ => none
/-- The cells of a value that may be laid down; none: it is not known whether it is one. -/
def cellsV (v : V) : Option (List V) := V.rec (motive_1 := fun _ => Option (List V)) (motive_2 := fun _ => Unit) none (fun b => some [.bool b]) (fun k n => some [.int k n]) (fun k a b => some [.rng k a b]) (fun s => some [.str s]) (fun b o => some [.ptr b o]) (some [.nilP]) (fun b o l c => some [.slice b o l c]) (some [.nilS]) (fun c => some [.emp c]) (fun r => some [.map r]) (some [.nilM]) (fun f a c _ _ => some [.func f a c]) (fun l => some [.yld l]) (some [.nilF]) (fun t v _ => some [.iface t v]) (some [.nilI]) (fun cs _ => some cs) (fun _ _ => none) (fun i => some [.opq i]) () (fun _ _ _ _ => ()) v
def len {α : Type} (l : List α) : Nat := List.rec 0 (fun _ _ ih => Nat.add ih 1) l
def rdT (t : Cs) (n : Nat) : Nat → List V := nrec (fun _ => []) (fun _ ih o => gC o t :: ih (Nat.add o 1)) n
def wrT (vs : List V) : Cs → Nat → Cs := List.rec (fun t _ => t) (fun v _ ih t o => ih (uC o v t) (Nat.add o 1)) vs
def trOf (vs : List V) : Cs := wrT vs cs0 0
section
variable {A : Type}
def rdK (m : M) (b o n : Nat) (K : List V → A) (z : A) : A := (m.get b).onRead (fun q t => bi (Nat.ble (Nat.add o n) q) (K (rdT t n o)) z) z
def rd (m : M) (b o n : Nat) : Option (List V) := rdK m b o n (fun l => some l) none
def rd1 (m : M) (b o : Nat) (K : V → A) (z : A) : A := (m.get b).onRead (fun q t => bi (Nat.blt o q) (K (gC o t)) z) z
def wrK (m : M) (b o : Nat) (vs : List V) (K : M → A) (z : A) : A := (m.get b).onCells (fun n t T fz => bi (Nat.ble (Nat.add o (len vs)) n) (K (m.put b (.cells n (wrT vs t o) T fz))) z) z
def wr (m : M) (b o : Nat) (vs : List V) : Option M := wrK m b o vs (fun m => some m) none
def loadK (P : Program) (t : TypeId) (m : M) (b o : Nat) (K : V → A) (z : A) : A := Ld.rec (motive := fun _ => A) z (rd1 m b o K z) (fun n => rdK m b o n (fun l => K (.agg l)) z) (ldT P t)
def storeK (P : Program) (t : TypeId) (m : M) (b o : Nat) (v : V) (K : M → A) (z : A) : A := oc (szT P t) z fun n => oc (cellsV v) z fun vs => bi (Nat.beq (len vs) n) (wrK m b o vs K z) z
end
/-- A new block: its number, the memory. -/
def allo {A : Type} (m : M) (b : Blk) (K : Nat → M → A) : A := frc m.n fun k => frc (Nat.add k 1) fun n => K k ⟨n, u5 .dead k b m.t, k :: m.lg⟩
def alloC {A : Type} (m : M) (vs : List V) (T : TypeId) (K : Nat → M → A) : A := frc (len vs) fun n => allo m (.cells n (trOf vs) T false) K
def fieldOf (P : Program) (t : TypeId) (i : Nat) : Option Field := match P.underlying t with
  | some (.struct fs) => fs.toList[i]?
  | _ => none
/-- A field's place, if it has cells. -/
def fOff (P : Program) (t : TypeId) (i : Nat) : Option Nat := ob (fieldOf P t i) fun f => ob (szT P f.type) fun z => bi (Nat.beq z 0) none (some f.offset)
def takeL {α : Type} (n : Nat) : List α → Option (List α) := nrec (fun _ => some []) (fun _ ih l => List.rec none (fun x r _ => ob (ih r) fun s => some (x :: s)) l) n
def part (P : Program) (t : TypeId) (cs : List V) (o : Nat) : Option V := Ld.rec (motive := fun _ => Option V) none (headO (dropL o cs)) (fun n => ob (takeL n (dropL o cs)) fun l => some (.agg l)) (ldT P t)
def xField (P : Program) (t : TypeId) (x : V) (i : Nat) : Option V := match x with
  | .agg cs => ob (fieldOf P t i) fun f => part P f.type cs f.offset
  | _ => none
section
variable {A : Type}
def fieldAddrK (P : Program) (t : TypeId) (i : Nat) (x : V) (K : V → A) (z : A) : A := x.onPtr (fun b o => oc (fOff P t i) z fun f => frc (Nat.add o f) fun o => K (.ptr b o)) z
def indexAddrK (P : Program) (t : TypeId) (x y : V) (K : V → A) (z : A) : A :=
  y.onInt (fun q i => bi (posI q i) (x.onSlice (fun b o l _ => oc (elz P t) z fun ez => bi (Nat.blt i l) (frc (Nat.add o (Nat.mul i ez.2)) fun o => K (.ptr b o)) z)
    (x.onPtr (fun b o => oc (arT P t) z fun a => bi (Nat.blt i a.1) (frc (Nat.add o (Nat.mul i a.2.2)) fun o => K (.ptr b o)) z) z)) z) z
end
def strT (P : Program) (t : TypeId) : Bool := match P.underlying t with
  | some .string => true
  | _ => false
def xIndex (P : Program) (t : TypeId) (x y : V) : Option V := match y with
  | .int q i => bi (posI q i) (match x with
    | .str s => bi (strT P t) (List.rec none (fun c _ _ => some (.int .u8 (Nat.mod c 256))) (dropL i s)) none
    | .agg cs => ob (arT P t) fun a => bi (Nat.blt i a.1) (part P a.2.1 cs (Nat.mul i a.2.2)) none
    | _ => none) none
  | _ => none
def natV (v : V) : Option Nat := match v with
  | .int q i => bi (posI q i) (some i) none
  | _ => none
/-- How many cells a row is known to have from here on. -/
def roomN (m : M) (b o : Nat) : Option Nat := (m.get b).onCells (fun n _ _ _ => bi (Nat.ble o n) (some (Nat.sub n o)) none) none
def optI (e : En) (o : Option Operand) (d : Nat) : Option Nat := Option.rec (some d) (fun x => natV (ev x e)) o
/-- x[l:h:q] of what begins at o. -/
def cut (b o z l h q : Nat) : V := bi (Nat.beq q l) (.slice b o 0 (.is 0)) (.slice b (Nat.add o (Nat.mul l z)) (Nat.sub h l) (.is (Nat.sub q l)))
def xSliceB (P : Program) (e : En) (m : M) (t : TypeId) (x : V) (lo hi mx : Option Operand) : Option V := match x with
  | .str s => bi (strT P t) (match mx with
    | none => ob (optI e lo 0) fun l => ob (optI e hi (len s)) fun h => bi (Nat.ble l h) (bi (Nat.ble h (len s)) (ob (takeL (Nat.sub h l) (dropL l s)) fun r => some (.str r)) none) none
    | some _ => none) none
  | .nilS => ob (elz P t) fun _ => ob (optI e lo 0) fun l => ob (optI e hi 0) fun h => ob (optI e mx 0) fun q => bi (Nat.beq l 0) (bi (Nat.beq h 0) (bi (Nat.beq q 0) (some .nilS) none) none) none
  | .emp c => ob (elz P t) fun _ => ob (optI e lo 0) fun l => ob (optI e hi 0) fun h => bi (Nat.beq l 0) (bi (Nat.beq h 0) (match mx with
    | none => some (.emp c)
    | some _ => ob (optI e mx 0) fun q => bi (Nat.beq q 0) (some (.emp true)) none) none) none
  | .slice b o n c => ob (elz P t) fun ez => ob (optI e lo 0) fun l => ob (optI e hi n) fun h => bi (Nat.ble l h) (match c with
    | .is c => ob (optI e mx c) fun q => bi (Nat.ble h q) (bi (Nat.ble q c) (some (cut b o ez.2 l h q)) none) none
    | .all z => bi (Nat.beq ez.2 z) (bi (Nat.beq z 0) none (ob (roomN m b o) fun rm => bi (Nat.ble h (Nat.div rm z)) (match mx with
      | some _ => ob (optI e mx 0) fun q => bi (Nat.ble q (Nat.div rm z)) (bi (Nat.ble h q) (some (cut b o z l h q)) none) none
      | none => bi (Nat.beq l 0) (some (.slice b o h (.all z))) (bi (Nat.blt l (Nat.div rm z)) (some (.slice b (Nat.add o (Nat.mul l z)) (Nat.sub h l) (.all z))) (some (.emp false)))) none)) none) none
  | .ptr b o => ob (arT P t) fun a => ob (optI e lo 0) fun l => ob (optI e hi a.1) fun h => ob (optI e mx a.1) fun q => bi (Nat.ble l h) (bi (Nat.ble h q) (bi (Nat.ble q a.1) (some (cut b o a.2.2 l h q)) none) none) none
  | _ => none
def okHM (hi mx : Option Operand) : Bool := match hi, mx with
  | none, some _ => false
  | _, _ => true
/-- A bound that has a name. -/
def symHi (e : En) (hi : Option Operand) : Option Nat := Option.rec none (fun x => opN (ev x e)) hi
def symMx (e : En) (mx : Option Operand) (f : Nat) : Bool := Option.rec true (fun x => Option.rec false (fun g => Nat.beq f g) (opN (ev x e))) mx
def noOp (lo : Option Operand) : Bool := Option.rec true (fun _ => false) lo
def xSliceY (P : Program) (e : En) (t : TypeId) (x : V) (lo mx : Option Operand) (f : Nat) : Option V := ob (elz P t) fun _ => bi (noOp lo) (bi (symMx e mx f) (match x with
  | .slice b o n c => bi (Nat.ble (hiF f) n) (some (.opq (Nat.add 110 f))) none
  | .opq i => ob (famS i) fun g => bi (Nat.beq f g) (some (.opq i)) none
  | _ => none) none) none
def xSlice (P : Program) (e : En) (m : M) (t : TypeId) (x : V) (lo hi mx : Option Operand) : Option V := bi (okHM hi mx) (Option.rec (xSliceB P e m t x lo hi mx) (fun f => xSliceY P e t x lo mx f) (symHi e hi)) none
def byteV (c : Nat) : V := .int .u8 (Nat.mod c 256)
def mapL {α β : Type} (f : α → β) (l : List α) : List β := List.rec [] (fun x _ ih => f x :: ih) l
/-- The cells of a slice or a text. -/
def srcCells (m : M) (z : Nat) (x : V) : Option (List V) := match x with
  | .slice b o l _ => rd m b o (Nat.mul l z)
  | .nilS => some []
  | .emp _ => some []
  | .str s => bi (Nat.beq z 1) (some (mapL byteV s)) none
  | _ => none
def srcLen (x : V) : Option Nat := match x with
  | .slice _ _ l _ => some l
  | .nilS => some 0
  | .emp _ => some 0
  | .str s => some (len s)
  | _ => none
def repL (n : Nat) (z : List V) : List V := nrec (fun (_ : Unit) => []) (fun _ ih u => lapp z (ih u)) n ()
def big : Nat := 1000000
abbrev R1 := Option (V × M)
def one (v : V) (m : M) : R1 := some (v, m)
/-- A new row of known cells and unknown room behind them. -/
def grown (m : M) (cs : List V) (T : TypeId) (l z : Nat) : R1 := alloC m cs T fun k m => some (.slice k 0 l (.all z), m)
/-- .. in the place of an elder one, perhaps. -/
def grownF (m : M) (cs : List V) (T : TypeId) (l z : Nat) (fz : Bool) : R1 := frc (len cs) fun n => allo m (.cells n (trOf cs) T fz) fun k m => some (.slice k 0 l (.all z), m)
def fzOf (m : M) (b : Nat) : Bool := (m.get b).onCells (fun _ _ _ fz => fz) false
/-- An element's zero value has the element's cells. -/
def zOK (P : Program) (ez : TypeId × Nat) : Bool := Option.rec false (fun zv => Nat.beq (len zv) ez.2) (cellsV (zeroT P ez.1))
def xAppend (P : Program) (m : M) (t : TypeId) (s : V) (n : Nat) (news : List V) : R1 := ob (elz P t) fun ez => ob (byT P ez.1) fun by_ =>
  bi (zOK P ez) (bi (Nat.beq ez.2 0) none (bi (Nat.ble (Nat.mul (Nat.add n big) (Nat.add by_ 1)) 70368744177664) (match s with
    | .nilS => bi (Nat.beq n 0) (one .nilS m) (grown m news ez.1 n ez.2)
    | .emp c => bi (Nat.beq n 0) (one (.emp c) m) (bi c (grown m news ez.1 n ez.2) none)
    | .slice b o l c => bi (Nat.ble l big) (match c with
      | .is c => bi (Nat.ble (Nat.add l n) c) (ob (wr m b (Nat.add o (Nat.mul l ez.2)) news) fun m => one (.slice b o (Nat.add l n) (.is c)) m) (ob (rd m b o (Nat.mul l ez.2)) fun old => grown m (lapp old news) ez.1 (Nat.add l n) ez.2)
      | .all z => bi (Nat.beq ez.2 z) (ob (roomN m b o) fun rm => bi (Nat.ble (Nat.mul (Nat.add l n) z) rm) (ob (wr m b (Nat.add o (Nat.mul l z)) news) fun m => one (.slice b o (Nat.add l n) (.all z)) m)
          (ob (rd m b o (Nat.mul l z)) fun old => grownF (m.kill b) (lapp old news) ez.1 (Nat.add l n) z (fzOf m b))) none) none
    | _ => none) none)) none
def minN (a b : Nat) : Nat := bi (Nat.ble a b) a b
def intV (n : Nat) : V := frc n fun n => .int .i64 n
def sliceLen (x : V) : Option Nat := match x with
  | .slice _ _ l _ => some l
  | .nilS => some 0
  | .emp _ => some 0
  | _ => none
def copyTo (m : M) (d s : V) (n z : Nat) : R1 := match d with
  | .slice b o _ _ => bi (Nat.blt n 9223372036854775808) (ob (srcCells m z s) fun cs => ob (takeL (Nat.mul n z) cs) fun cs => ob (wr m b o cs) fun m => one (intV n) m) none
  | _ => none
def xCopy (P : Program) (m : M) (t : TypeId) (d s : V) : R1 := ob (elz P t) fun ez => ob (sliceLen d) fun dl => ob (srcLen s) fun sl =>
  bi (Nat.beq (minN sl dl) 0) (one (intV 0) m) (copyTo m d s (minN sl dl) ez.2)
def xClear (P : Program) (m : M) (t : TypeId) (x : V) : R1 := match x with
  | .nilS => ob (elT P t) fun _ => one (.tup []) m
  | .emp _ => ob (elT P t) fun _ => one (.tup []) m
  | .slice b o l _ => ob (elT P t) fun el => ob (cellsV (zeroT P el)) fun zv => ob (wr m b o (repL l zv)) fun m => one (.tup []) m
  | _ => none
def mapT (P : Program) (t : TypeId) : Option TypeId := match P.underlying t with
  | some (.map k el) => bi (strT P k) (some el) none
  | _ => none
def xLen (P : Program) (m : M) (t : TypeId) (x : V) : Option V := match P.underlying t, x with
  | some (.slice _), .slice _ _ l _ => bi (Nat.blt l 9223372036854775808) (some (intV l)) none
  | some (.slice _), .nilS => some (intV 0)
  | some (.slice _), .emp _ => some (intV 0)
  | some (.slice _), .opq i => symLen i
  | some .string, .str s => bi (Nat.blt (len s) 9223372036854775808) (some (intV (len s))) none
  | some (.map _ _), .nilM => some (intV 0)
  | some (.map _ _), .map r => match m.get r with
    | .map es _ => bi (Nat.blt (len es) 9223372036854775808) (some (intV (len es))) none
    | _ => none
  | some (.array n _), _ => bi (Nat.blt n 9223372036854775808) (some (intV n)) none
  | _, _ => none
def xCap (P : Program) (t : TypeId) (x : V) : Option V := match P.underlying t, x with
  | some (.slice _), .slice _ _ _ (.is c) => bi (Nat.blt c 9223372036854775808) (some (intV c)) none
  | some (.slice _), .nilS => some (intV 0)
  | some (.slice _), .emp true => some (intV 0)
  | _, _ => none
/-- A number of a range beside one that is known: the lesser, the greater. -/
def minR (k : IntKind) (lo hi b : Nat) : V := bi (Nat.ble hi b) (.rng k lo hi) (bi (Nat.ble b lo) (.int k b) (.rng k lo b))
def maxR (k : IntKind) (lo hi b : Nat) : V := bi (Nat.ble b lo) (.rng k lo hi) (bi (Nat.ble hi b) (.int k b) (.rng k b hi))
def min2 (x y : V) : Option V := match x, y with
  | .int k a, .int q b => bi (Nat.beq (kn k) (kn q)) (some (bi (leI k a b) (.int k a) (.int k b))) none
  | .rng k lo hi, .int q b => bi (Nat.beq (kn k) (kn q)) (bi (posI k b) (bi (posI k hi) (some (minR k lo hi b)) none) none) none
  | .int q b, .rng k lo hi => bi (Nat.beq (kn k) (kn q)) (bi (posI k b) (bi (posI k hi) (some (minR k lo hi b)) none) none) none
  | x, y => symMin x y
def max2 (x y : V) : Option V := match x, y with
  | .int k a, .int q b => bi (Nat.beq (kn k) (kn q)) (some (bi (leI k b a) (.int k a) (.int k b))) none
  | .rng k lo hi, .int q b => bi (Nat.beq (kn k) (kn q)) (bi (posI k b) (bi (posI k hi) (some (maxR k lo hi b)) none) none) none
  | .int q b, .rng k lo hi => bi (Nat.beq (kn k) (kn q)) (bi (posI k b) (bi (posI k hi) (some (maxR k lo hi b)) none) none) none
  | x, y => symMax x y
def foldO (f : V → V → Option V) (l : List V) : V → Option V := List.rec (fun a => some a) (fun x _ ih a => ob (f a x) ih) l
/-! maps -/
def eqK (a b : V) : Option Bool := match a, b with
  | .str a, .str b => some (eqL a b)
  | _, _ => none
def findK (k : V) (es : List (V × V × Nat)) : Option (Option V) := lrec (some none) (fun x _ ih => ob (eqK k x.1) fun b => bi b (some (some x.2.1)) ih) es
def updK (k v : V) (es : List (V × V × Nat)) : List (V × V × Nat) := lrec [] (fun x r ih => match eqK k x.1 with
  | some true => (k, v, x.2.2) :: r
  | _ => x :: ih) es
def delK (k : V) (es : List (V × V × Nat)) : List (V × V × Nat) := lrec [] (fun x r ih => match eqK k x.1 with
  | some true => r
  | _ => x :: ih) es
/-- A type's zero value, if there is one. -/
def zeroO (P : Program) (t : TypeId) : Option V := match P.info? t with
  | some i => match i.zero with
    | some z => some (vOf 4 z)
    | none => none
  | none => none
def xFind (m : M) (x k : V) : Option (Option V) := match x with
  | .nilM => some none
  | .map r => match m.get r with
    | .map es _ => findK k es
    | _ => none
  | _ => none
def xLookup (P : Program) (m : M) (t : TypeId) (x k : V) (ok : Bool) : Option V := ob (mapT P t) fun el => ob (xFind m x k) fun r => match r with
    | some v => some (bi ok (.tup [v, .bool true]) v)
    | none => ob (zeroO P el) fun z => some (bi ok (.tup [z, .bool false]) z)
def xMapUpdate (P : Program) (m : M) (t : TypeId) (x k v : V) : Option M := ob (mapT P t) fun _ => match x with
  | .map r => match m.get r with
    | .map es c => ob (findK k es) fun f => match f with
      | some _ => some (m.put r (.map (updK k v es) c))
      | none => some (m.put r (.map (lapp es [(k, v, c)]) (Nat.add c 1)))
    | _ => none
  | _ => none
def xDelete (P : Program) (m : M) (t : TypeId) (x k : V) : R1 := ob (mapT P t) fun _ => match x with
  | .nilM => one (.tup []) m
  | .map r => match m.get r with
    | .map es c => ob (findK k es) fun _ => one (.tup []) (m.put r (.map (delK k es) c))
    | _ => none
  | _ => none
def xRange (P : Program) (m : M) (t : TypeId) (x : V) : R1 := match x with
  | .str s => bi (strT P t) (allo m (.strIter s 0) fun k m => one (.ptr k 0) m) none
  | .nilM => ob (mapT P t) fun _ => allo m (.mapIter none 0 [] 0) fun k m => one (.ptr k 0) m
  | .map r => ob (mapT P t) fun _ => match m.get r with
    | .map _ c => allo m (.mapIter (some r) c [] c) fun k m => one (.ptr k 0) m
    | _ => none
  | _ => none
def memN (k : Nat) (l : List Nat) : Bool := List.rec false (fun x _ ih => bi (Nat.beq k x) true ih) l
def filL {α : Type} (p : α → Bool) (l : List α) : List α := List.rec [] (fun x _ ih => bi (p x) (x :: ih) ih) l
def allB {α : Type} (p : α → Bool) (l : List α) : Bool := List.rec true (fun x _ ih => bi (p x) ih false) l
def isNil {α : Type} (l : List α) : Bool := List.rec true (fun _ _ _ => false) l
/-- The next of an iterator: all that may come. -/
def xNext (m : M) (x : V) (isS : Bool) : List (V × M) := match x with
  | .ptr r 0 => match m.get r with
    | .strIter s p => bi isS (match dropL p s with
        | [] => [(.tup [.bool false], m.kill r)]
        | c :: _ => bi (bi (Nat.blt (Nat.mod c 256) 128) (Nat.blt p 9223372036854775808) false) [(.tup [.bool true, intV p, .int .i32 (Nat.mod c 256)], m.put r (.strIter s (Nat.add p 1)))] []) []
    | .mapIter none _ _ _ => bi isS [] [(.tup [.bool false], m.kill r)]
    | .mapIter (some q) since seen last => bi isS [] (match m.get q with
        | .map es clock => bi (bi (isNil seen) false (bi (isNil es) false (allB (fun x => Nat.ble last x.2.2) es))) []
            (let left := filL (fun x => notB (memN x.2.2 seen)) es
            let old := filL (fun x => Nat.blt x.2.2 since) left
            let new := filL (fun x => Nat.ble since x.2.2) left
            let go := mapL (fun (x : V × V × Nat) => ((V.tup [.bool true, x.1, x.2.1]), m.put r (.mapIter (some q) since (lapp seen [x.2.2]) clock))) (lapp old new)
            bi (isNil old) ((.tup [.bool false], m.kill r) :: go) go)
        | _ => [])
    | _ => []
  | _ => []
def lastL (l : List Nat) : Option Nat := lrec none (fun x r ih => bi (isNil r) (some x) ih) l
def findB (k : Nat) (es : List (V × V × Nat)) : Option (V × V × Nat) := lrec none (fun x _ ih => bi (Nat.beq x.2.2 k) (some x) ih) es
def xEntry (m : M) (x : V) : Option V := match x with
  | .ptr r 0 => match m.get r with
    | .mapIter (some q) _ seen last => match m.get q with
      | .map es clock => bi (Nat.beq clock last) (ob (lastL seen) fun s => ob (findB s es) fun x => some (.tup [x.1, x.2.1])) none
      | _ => none
    | _ => none
  | _ => none
/-! conversions -/
inductive Ty where
  | other
  | int (k : IntKind)
  | str
  | bytes (e : TypeId)
def tyT (P : Program) (t : TypeId) : Ty := match P.underlying t with
  | some (.int k) => .int k
  | some .string => .str
  | some (.slice e) => match P.underlying e with
    | some (.int .u8) => .bytes e
    | _ => .other
  | _ => .other
def cvI (k q : IntKind) (a : Nat) : Nat := bi (bi (posI k a) false (Nat.ble (modN k) (modN q))) (Nat.sub (Nat.add a (modN q)) (modN k)) (Nat.mod a (modN q))
def bytesL (cs : List V) : Option (List Nat) := lrec (some []) (fun v _ ih => match v with
  | .int .u8 c => ob ih fun r => some (c :: r)
  | _ => none) cs
def xConvert (P : Program) (m : M) (src dst : TypeId) (x : V) : R1 := ob (P.underlying src) fun _ => match tyT P dst, x with
  | .int k, .int q a => bi (Nat.blt a (modN q)) (one (.int k (cvI q k a)) m) none
  | .int k, .rng q lo hi => bi (posI q hi) (bi (posI k hi) (one (.rng k lo hi) m) none) none
  | .int k, .opq i => ob (symConv k i) fun v => one v m
  | .str, .str s => one (.str s) m
  | .bytes e, .str s => allo m (.cells (len s) (trOf (mapL byteV s)) e true) fun k m => one (.slice k 0 (len s) (.all 1)) m
  | .bytes _, .slice b o l c => bi (Nat.beq src dst) ((m.get b).onCells (fun n t T fz => bi fz none (one (.slice b o l c) (m.put b (.cells n t T true)))) none) none
  | .str, x => match tyT P src with
    | .bytes _ => ob (srcCells m 1 x) fun cs => ob (bytesL cs) fun s => one (.str s) m
    | _ => none
  | _, _ => none
def fillL (n : Nat) (pl : Nat → Option (Nat × Nat)) (ps : List (Nat × V)) : Cs → Option Cs := lrec (fun t => some t) (fun x _ ih t => ob (pl x.1) fun q => ob (cellsV x.2) fun vs => bi (Nat.beq (len vs) q.2) (bi (Nat.ble (Nat.add q.1 q.2) n) (ih (wrT vs t q.1)) none) none) ps
def isSome {α : Type} (o : Option α) : Bool := Option.rec false (fun _ => true) o
def allSz (P : Program) (fs : List Field) : Bool := allB (fun f => isSome (szT P f.type)) fs
def fillT (P : Program) (t : TypeId) (n : Nat) (ps : List (Nat × V)) (z : Cs) : Option Cs := match P.underlying t with
  | some (.struct fs) => bi (allSz P fs.toList) (fillL n (fun i => ob (fs.toList[i]?) fun f => ob (szT P f.type) fun s => some (f.offset, s)) ps z) none
  | some (.array _ e) => ob (szT P e) fun s => fillL n (fun i => some (Nat.mul i s, s)) ps z
  | _ => none
def xBuild (P : Program) (t : TypeId) (ps : List (Nat × V)) : Option V := ob (cellsV (zeroT P t)) fun z => ob (fillT P t (len z) ps (trOf z)) fun tr => some (.agg (rdT tr (len z) 0))
def xBuildSlice (P : Program) (m : M) (t : TypeId) (l : Nat) (ps : List (Nat × V)) : R1 := ob (elz P t) fun ez => ob (cellsV (zeroT P ez.1)) fun z =>
  bi (Nat.beq (len z) ez.2) (bi (Nat.ble (Nat.mul l ez.2) 4096) (ob (fillL (Nat.mul l ez.2) (fun i => some (Nat.mul i ez.2, ez.2)) ps (trOf (repL l z))) fun tr => frc (Nat.mul l ez.2) fun n => allo m (.cells n tr ez.1 false) fun k m => one (.slice k 0 l (.is l)) m) none) none
def xMakeSlice (P : Program) (m : M) (t : TypeId) (l c : V) : R1 := ob (natV l) fun l => ob (natV c) fun c => ob (elz P t) fun ez => ob (cellsV (zeroT P ez.1)) fun z => ob (byT P ez.1) fun by_ =>
  bi (Nat.beq (len z) ez.2) (bi (Nat.ble l c) (bi (Nat.ble c 1000000) (bi (Nat.ble (Nat.mul c by_) 16777216) (bi (Nat.ble (Nat.mul c (len z)) 4096) (alloC m (repL c z) ez.1 fun k m => one (.slice k 0 l (.is c)) m) none) none) none) none) none
def xTypeAssert (P : Program) (x : V) (asserted : TypeId) (ok : Bool) : Option V := match x with
  | .iface t v => match P.underlying asserted with
    | some (.interface _) => none
    | some _ => bi (Nat.beq t asserted) (some (bi ok (.tup [v, .bool true]) v)) (bi ok (ob (zeroO P asserted) fun z => some (.tup [z, .bool false])) none)
    | none => none
  | _ => none
def xNil (x : V) : Option V := match x with
  | .ptr b o => some (.ptr b o)
  | .func f a c => some (.func f a c)
  | .yld l => some (.yld l)
  | _ => none
def xAppS (P : Program) (m : M) (t : TypeId) (s x : V) : R1 := ob (elz P t) fun ez => ob (srcLen x) fun n => ob (srcCells m ez.2 x) fun cs => xAppend P m t s n cs
def tyOne (l : List TypeId) : Option TypeId := match l with
  | [t] => some t
  | _ => none
def tyTwo (l : List TypeId) : Option (TypeId × TypeId) := match l with
  | [t, u] => some (t, u)
  | _ => none
def xApp (P : Program) (m : M) (t u : TypeId) (s x : V) : R1 := match P.underlying u with
  | some (.int _) => ob (natV x) fun n => ob (elT P t) fun e => ob (cellsV (zeroT P e)) fun z => xAppend P m t s n (repL n z)
  | some (.slice _) => xAppS P m t s x
  | some .string => xAppS P m t s x
  | _ => none
def xBuiltin (P : Program) (m : M) (b : Builtin) (tys : List TypeId) (vs : List V) : R1 := match b, vs with
  | .len, [x] => ob (tyOne tys) fun t => ob (xLen P m t x) fun v => one v m
  | .cap, [x] => ob (tyOne tys) fun t => ob (xCap P t x) fun v => one v m
  | .min, x :: r => ob (foldO min2 r x) fun v => one v m
  | .max, x :: r => ob (foldO max2 r x) fun v => one v m
  | .append, [s, x] => ob (tyTwo tys) fun t => xApp P m t.1 t.2 s x
  | .copy, [d, s] => ob (tyTwo tys) fun t => xCopy P m t.1 d s
  | .clear, [x] => ob (tyOne tys) fun t => xClear P m t x
  | .delete, [x, k] => ob (tyTwo tys) fun t => xDelete P m t.1 x k
  | _, _ => none
def eqLs (f : V → V → Bool) (a : List V) : List V → Bool := lrec (fun b => isNil b) (fun x _ ih b => List.rec false (fun y r _ => bi (f x y) (ih r) false) b) a
def eqS (a : List Nat) : List Nat → Bool := lrec (fun b => isNil b) (fun x _ ih b => List.rec false (fun y r _ => bi (Nat.beq x y) (ih r) false) b) a
def eqCap (a b : Cap) : Bool := match a, b with
  | .all x, .all y => Nat.beq x y
  | .is x, .is y => Nat.beq x y
  | _, _ => false
/-- Are two values the same (to a depth)? -/
def eqV (n : Nat) : V → V → Bool := nrec (fun _ _ => false) (fun _ ih a b => match a, b with
  | .bool a, .bool b => eqBo a b
  | .int k a, .int q b => bi (Nat.beq (kn k) (kn q)) (Nat.beq a b) false
  | .rng k a c, .rng q b d => bi (Nat.beq (kn k) (kn q)) (bi (Nat.beq a b) (Nat.beq c d) false) false
  | .str a, .str b => eqS a b
  | .ptr a b, .ptr c d => bi (Nat.beq a c) (Nat.beq b d) false
  | .nilP, .nilP => true
  | .slice a b c d, .slice x y z u => bi (Nat.beq a x) (bi (Nat.beq b y) (bi (Nat.beq c z) (eqCap d u) false) false) false
  | .nilS, .nilS => true
  | .emp a, .emp b => eqBo a b
  | .map a, .map b => Nat.beq a b
  | .nilM, .nilM => true
  | .func f a b, .func g c d => bi (Nat.beq f g) (bi (eqLs ih a c) (eqLs ih b d) false) false
  | .yld a, .yld b => Nat.beq a b
  | .nilF, .nilF => true
  | .iface t a, .iface u b => bi (Nat.beq t u) (ih a b) false
  | .nilI, .nilI => true
  | .agg a, .agg b => eqLs ih a b
  | .tup a, .tup b => eqLs ih a b
  | .opq a, .opq b => Nat.beq a b
  | .any, .any => true
  | _, _ => false) n
def eqBk (a b : Blk) : Bool := match a, b with
  | .dead, .dead => true
  | .cells n t T f, .cells k u S g => bi (Nat.beq n k) (bi (Nat.beq T S) (bi (eqBo f g) (nrec (fun (_ : Unit) => true) (fun i ih v => bi (eqV 4 (gC i t) (gC i u)) (ih v) false) n ()) false) false) false
  | .map es c, .map fs d => bi (Nat.beq c d) (lrec (fun b => isNil b) (fun (x : V × V × Nat) _ ih b => List.rec false (fun (y : V × V × Nat) r _ => bi (eqV 4 x.1 y.1) (bi (eqV 4 x.2.1 y.2.1) (bi (Nat.beq x.2.2 y.2.2) (ih r) false) false) false) b) es fs) false
  | _, _ => false
/-! ### the operations that call nothing -/
/-- What comes out in the end. -/
abbrev A := Option (V × M)
abbrev Kt := V → M → A
def ovm (o : Option V) (m : M) (K : Kt) : A := Option.rec (motive := fun _ => A) none (fun v => K v m) o
def orm (o : R1) (K : Kt) : A := Option.rec (motive := fun _ => A) none (fun r => K r.1 r.2) o
/-- A type that is no interface. -/
def plainT (P : Program) (t : TypeId) : Bool := match P.underlying t with
  | some (.interface _) => false
  | some _ => true
  | none => false
abbrev Op1 := En → M → Kt → A
def failO : Bx Op1 := ⟨fun _ _ _ => none⟩
/-- A value that is what two are: unknown, if they are not the same. -/
def joinV (a b : V) : V := bi (eqV 4 a b) a .any
def joinT (t u : Cs) (n : Nat) : Cs := nrec (fun (r : Cs) => r) (fun i ih r => ih (bi (eqV 4 (gC i t) (gC i u)) r (uC i .any r))) n t
def joinB (a b : Blk) : Blk := bi (eqBk a b) a (match a, b with
  | .cells n t T f, .cells k u S g => bi (bi (Nat.beq n k) (bi (Nat.beq T S) (eqBo f g) false) false) (.cells n (joinT t u n) T f) .dead
  | _, _ => .dead)
def joinM (a b : M) : M := ⟨a.n, lrec a.t (fun k _ t => u5 .dead k (joinB (a.get k) (b.get k)) t) (lapp a.lg b.lg), lapp a.lg b.lg⟩
/-- Both, and what they have in common. -/
def both (a b : A) : A := Option.rec none (fun x => Option.rec none (fun y => bi (Nat.beq x.2.n y.2.n) (some (joinV x.1 y.1, joinM x.2 y.2)) none) b) a
/-- All that may come, one after another. -/
def alls (K : Kt) (l : List (V × M)) : A := lrec none (fun x r ih => bi (isNil r) (K x.1 x.2) (both (K x.1 x.2) ih)) l
noncomputable def P : Program := Tryz.prog
/-- A variable of the program's of one cell: what it holds is not known. -/
def loadG (P : Program) (t : TypeId) (a : Operand) : Option Nat := Operand.rec (motive := fun _ => Option Nat) (fun _ => none) (fun _ => none) (fun g => bi (Nat.blt g 2) (Ld.rec (motive := fun _ => Option Nat) none (some g) (fun _ => none) (ldT P t)) none) (fun _ => none) a
def cOp (op : Op) : Bx Op1 :=
  Op.rec (motive := fun _ => Bx Op1)
    (fun x => ⟨fun e m K => K (ev x e) m⟩)
    (fun x => ⟨fun e m K => K (ev x e) m⟩)
    (fun c a b => ⟨fun e m K => (ev c e).onBool (fun t => K (bi t (ev a e) (ev b e)) m) none⟩)
    (fun t => ⟨fun _ m K => oc (cellsV (zeroT P t)) none fun cs => alloC m cs t fun k m => K (.ptr k 0) m⟩)
    (fun t x => ⟨fun e m K => oc (cellsV (ev x e)) none fun cs => alloC m cs t fun k m => K (.ptr k 0) m⟩)
    (fun t ps => ⟨fun e m K => ovm (xBuild P t (evp e ps.toList)) m K⟩)
    (fun t n ps => ⟨fun e m K => orm (xBuildSlice P m t n (evp e ps.toList)) K⟩)
    (fun t x k v => ⟨fun e m K => oc (xMapUpdate P m t (ev x e) (ev k e) (ev v e)) none fun m => K (.tup []) m⟩)
    (fun t a => Option.rec (motive := fun _ => Bx Op1) ⟨fun e m K => (ev a e).onPtr (fun b o => loadK P t m b o (fun v => K v m) none) none⟩ (fun g => ⟨fun _ m K => K (.opq (Nat.add 1000 g)) m⟩) (loadG P t a))
    (fun t a x => ⟨fun e m K => (ev a e).onPtr (fun b o => storeK P t m b o (ev x e) (fun m => K (.tup []) m) none) none⟩)
    (fun _ => failO)
    (fun _ => failO)
    (fun x => ⟨fun e m K => (ev x e).onPtr (fun b o => K (.ptr b o) m) (ovm (xNil (ev x e)) m K)⟩)
    (fun op t x y _ => ⟨fun e m K => xBin P op t (bi (isC x) true (isC y)) (ev x e) (ev y e) (fun v => K v m) none⟩)
    (fun op _ x => ⟨fun e m K => ovm (xUn op (ev x e)) m K⟩)
    (fun s d x => ⟨fun e m K => orm (xConvert P m s d (ev x e)) K⟩)
    (fun _ _ => failO)
    (fun t x => bi (plainT P t) ⟨fun e m K => K (.iface t (ev x e)) m⟩ failO)
    (fun f a b => ⟨fun e m K => match f with
      | .func f => K (.func f (evl e a.toList) (evl e b.toList)) m
      | _ => none⟩)
    (fun _ r => Option.rec ⟨fun _ m K => allo m (.map [] 0) fun k m => K (.map k) m⟩ (fun _ => failO) r)
    (fun _ _ => failO)
    (fun t l c => ⟨fun e m K => orm (xMakeSlice P m t (ev l e) (ev c e)) K⟩)
    (fun t x lo hi mx => ⟨fun e m K => ovm (xSlice P e m t (ev x e) lo hi mx) m K⟩)
    (fun t x i => ⟨fun e m K => fieldAddrK P t i (ev x e) (fun v => K v m) none⟩)
    (fun t x i => ⟨fun e m K => ovm (xField P t (ev x e) i) m K⟩)
    (fun t x y => ⟨fun e m K => indexAddrK P t (ev x e) (ev y e) (fun v => K v m) none⟩)
    (fun t x y => ⟨fun e m K => ovm (xIndex P t (ev x e) (ev y e)) m K⟩)
    (fun t x k ok => ⟨fun e m K => ovm (xLookup P m t (ev x e) (ev k e) ok) m K⟩)
    (fun t x k v => ⟨fun e m K => oc (xMapUpdate P m t (ev x e) (ev k e) (ev v e)) none fun m => K (.tup []) m⟩)
    (fun _ _ _ => failO)
    (fun _ _ _ _ => failO)
    (fun t x => ⟨fun e m K => orm (xRange P m t (ev x e)) K⟩)
    (fun x s => ⟨fun e m K => alls K (xNext m (ev x e) s)⟩)
    (fun x => ⟨fun e m K => ovm (xEntry m (ev x e)) m K⟩)
    (fun x _ a ok => ⟨fun e m K => ovm (xTypeAssert P (ev x e) a ok) m K⟩)
    (fun x i => ⟨fun e m K => (ev x e).onTup (fun vs => ovm (headO (dropL i vs)) m K) none⟩)
    (fun c => Call.rec (fun c args tys => Callee.rec (fun _ => failO) (fun _ _ => failO) (fun b => ⟨fun e m K => orm (xBuiltin P m b tys.toList (evl e args.toList)) K⟩) c) c)
    (fun _ => failO)
    (fun _ => failO)
    (fun _ => failO)
    (fun _ _ => failO)
    (fun _ _ _ => failO)
    (fun _ _ => failO)
    op
end
end Go.Proofs.YtiekoeapmhhjbaaGreatDoor.X
/- The interpreter, part B: code, calls, ranges over functions. -/
namespace Go.Proofs.YtiekoeapmhhjbaaGreatDoor.X
open Go
set_option linter.unusedVariables false
noncomputable section
abbrev Kn := En → List Nat → M → A
abbrev Kx := Rs → En → List Nat → M → A
/-- What runs code: a frame's size, the round it is of, its temporaries, its marks, the memory; what follows, and what follows where it is left. -/
abbrev Cf := Nat → Option Nat → En → List Nat → M → Kn → Kx → A
abbrev Ex := Code → Cf
def resV (e : En) (m : M) (r : ResultVar) : Option V := ResultVar.rec (motive := fun _ => Option V) (fun t => some (gE t e)) (fun t ty => (gE t e).onPtr (fun b o => loadK P ty m b o (fun v => some v) none) none) r
def resL (e : En) (m : M) (l : List ResultVar) : Option (List V) := lrec (some []) (fun x _ ih => ob (resV e m x) fun a => ob ih fun b => some (a :: b)) l
def shut (ds : List Nat) : M → Option M := lrec (fun m => some m) (fun d _ ih m => match m.get d with
  | .deferred => ih (m.kill d)
  | _ => none) ds
def tupV (l : List V) : V := List.rec (.tup []) (fun x r _ => bi (isNil r) x (.tup (x :: r))) l
def endF (rs : List ResultVar) (K : Kt) : Kn := fun e ds m => oc (shut ds m) none fun m => oc (resL e m rs) none fun l => K (tupV l) m
/-- The library's functions that have no body. -/
inductive XK where
  | clone
  | overlaps
  | cmp
/-- Which function is which of them. -/
def exK (f : Nat) : Option XK := bi (Nat.beq f 97) (some .clone) (bi (Nat.beq f 298) (some .cmp) (bi (bi (Nat.beq f 230) true (bi (Nat.beq f 275) true (Nat.beq f 280))) (some .overlaps) none))
def andB (a b : Bool) : Bool := bi a b false
/-- A slice's row, if it has one. -/
def slK (x : V) : Option (Option (Nat × Nat × Nat)) := match x with
  | .slice b o l _ => some (some (b, o, l))
  | .nilS => some none
  | .emp _ => some none
  | _ => none
def xOver (P : Program) (m : M) (t : TypeId) (x y : V) : R1 := ob (elz P t) fun ez => ob (slK x) fun p => ob (slK y) fun q => match p, q with
  | some p, some q => bi (Nat.beq p.2.2 0) (one (.bool false) m) (bi (Nat.beq q.2.2 0) (one (.bool false) m) (bi (Nat.beq p.1 q.1)
      (one (.bool (andB (Nat.blt p.2.1 (Nat.add q.2.1 (Nat.mul q.2.2 ez.2))) (Nat.blt q.2.1 (Nat.add p.2.1 (Nat.mul p.2.2 ez.2))))) m)
      ((m.get p.1).onCells (fun _ _ _ fz => bi fz none ((m.get q.1).onCells (fun k _ _ _ => bi (Nat.beq k 0) none (one (.bool false) m)) none)) none)))
  | _, _ => one (.bool false) m
def xClone (m : M) (t : TypeId) (r : Nat) : R1 := match m.get r with
  | .map es c => allo m (.map es c) fun k m => one (.iface t (.map k)) m
  | _ => none
def extern (fn : Func) (f : FuncId) (m : M) (vs : List V) : R1 := ob (exK f) fun k => match k, vs with
  | .clone, [.iface t (.map r)] => xClone m t r
  | .cmp, [.str a, .str b] => bi (ltL a b) (one (.int .i64 18446744073709551615) m) (bi (ltL b a) (one (intV 1) m) (one (intV 0) m))
  | .overlaps, [x, y] => ob (headO fn.params.toList) fun t => xOver P m t x y
  | _, _ => none
def wrE (vs : List V) : En → Nat → En := List.rec (fun t _ => t) (fun v _ ih t o => ih (uE o v t) (Nat.add o 1)) vs
def argT (vs : List V) : En := wrE vs en0 0
def setPs (sz : Nat) (ps : List Tmp) : List V → En → Option En := lrec (fun vs t => bi (isNil vs) (some t) none) (fun p _ ih vs t => List.rec none (fun v r _ => bi (Nat.blt p sz) (ih r (uE p v t)) none) vs) ps
def funOf (f : Nat) : Option Func := P.funcs.toList[f]?
def nox : Kx := fun _ _ _ _ => none
/-- Where a function's body returns. -/
def retK (K : Kn) : Kx := fun r e ds m => Rs.rec (motive := fun _ => A) none (fun _ => none) (K e ds m) r
abbrev Fnf := Ex → M → List V → Kt → A
abbrev Hk := FuncId → Option Fnf
def cFun (f : FuncId) : Bx Fnf := Option.rec ⟨fun _ _ _ _ => none⟩ (fun fn => Option.rec (motive := fun _ => Bx Fnf) ⟨fun _ m vs K => orm (extern fn f m vs) K⟩
  (fun c => ⟨fun X m vs K => bi (Nat.ble (len vs) fn.ntmps) (X c fn.ntmps none (argT vs) [] m (endF fn.results.toList K) (retK (endF fn.results.toList K))) none⟩) fn.body) (funOf f)
def callF (h : Hk) (X : Ex) (m : M) (f : FuncId) (vs : List V) (K : Kt) : A := Option.rec (Bx.rec (fun g => g X m vs K) (cFun f)) (fun g => g X m vs K) (h f)
def onLoop {A : Type} (b : Blk) : (Nat → Option Code → En → Nat → List Tmp → Code → Code → A) → A → A :=
  Blk.rec (motive := fun _ => (Nat → Option Code → En → Nat → List Tmp → Code → Code → A) → A → A) (fun _ z => z) (fun _ _ _ _ _ z => z) (fun _ _ _ z => z) (fun _ _ _ z => z) (fun _ _ _ _ _ z => z) (fun _ _ _ z => z) (fun a b c d e f g K _ => K a b c d e f g) (fun _ z => z) b
def endR (l : Nat) (m : M) (pend : Option Code) (K : Kt) : A := onLoop (m.get l) (fun st p t sz ps asg body => bi (Nat.beq st 1) (Option.rec (motive := fun _ => A) (K (.bool true) (m.put l (.loop 0 none t sz ps asg body))) (fun c => K (.bool false) (m.put l (.loop 2 (some c) t sz ps asg body))) pend) none) none
def roundF (X : Ex) (m : M) (l : Nat) (vs : List V) (K : Kt) : A := onLoop (m.get l) (fun st p t sz ps asg body => bi (Nat.beq st 0) (oc (setPs sz ps vs t) none fun e =>
  X asg sz (some l) e [] m (fun e ds m => onLoop (m.get l) (fun st p t' sz' ps' asg' body' => bi (Nat.beq st 0) (X body sz (some l) e ds (m.put l (.loop 1 p t' sz' ps' asg' body'))
    (fun e ds m => endR l m none K) (fun r e ds m => Rs.rec (motive := fun _ => A) none (fun id => endR l m (some (.exit id)) K) (endR l m (some .ret) K) r)) none) none) nox) none) none
def callV (h : Hk) (X : Ex) (m : M) (f : V) (vs : List V) (K : Kt) : A :=
  f.onFunc (fun f k cs => callF h X m f (lapp k (lapp vs cs)) K) (f.onYld (fun l => roundF X m l vs K) none)
abbrev Op2 := Hk → Ex → En → M → Kt → A
def cOp2 (op : Op) : Bx Op2 := Option.rec (Bx.rec (fun f => ⟨fun _ _ e m K => f e m K⟩) (cOp op)) (fun p => ⟨fun h X e m K => callV h X m (ev p.1 e) (evl e p.2) K⟩) (match op with
  | .call ⟨.value f, args, _⟩ => some (f, args.toList)
  | _ => none)
def cPut (d : Option Tmp) : Bx (Nat → V → En → (En → A) → A) := Option.rec ⟨fun _ _ e K => K e⟩ (fun d => ⟨fun sz v e K => bi (Nat.blt d sz) (K (uE d v e)) none⟩) d
/-- Is an operation wanted? -/
def guardT (ops : List Oper) (g : Nat × Bool) : Option Tmp := ob (ops[g.1]?) fun o => o.dst
abbrev Opf := Hk → Ex → Nat → En → M → (En → M → A) → A
def cOper (ops : List Oper) (o : Oper) : Bx Opf := Option.rec (motive := fun _ => Bx Opf)
  (Bx.rec (fun f => Bx.rec (fun p => ⟨fun h X sz e m K => f h X e m (fun v m => p sz v e (fun e => K e m))⟩) (cPut o.dst)) (cOp2 o.op))
  (fun g => Option.rec (motive := fun _ => Bx Opf) ⟨fun _ _ _ _ _ _ => none⟩ (fun t => Bx.rec (fun f => Bx.rec (fun p => ⟨fun h X sz e m K =>
    (gE t e).onBool (fun x => bi (eqBo x g.2) (f h X e m (fun v m => p sz v e (fun e => K e m))) (p sz (.tup []) e (fun e => K e m))) ((gE t e).onTup (fun _ => p sz (.tup []) e (fun e => K e m)) none)⟩) (cPut o.dst)) (cOp2 o.op)) (guardT ops g)) o.guard
def cOps (ops : List Oper) (l : List Oper) : Bx Opf := List.rec ⟨fun _ _ _ e m K => K e m⟩ (fun o _ ih => Bx.rec (fun f => ⟨fun h X sz e m K => f h X sz e m (fun e m => Bx.rec (fun g => g h X sz e m K) ih)⟩) (cOper ops o)) l
/-! ### a region that draws its order -/
/-- What an operation does to memory: 0: nothing; 1: it reads; 2: it turns it; 3: it makes a new block. -/
def clsO (op : Op) : Nat := match op with
  | .move _ => 0
  | .assign _ => 0
  | .pick _ _ _ => 0
  | .build _ _ => 0
  | .nilCheck _ => 0
  | .binOp _ _ _ _ _ => 0
  | .unOp _ _ _ => 0
  | .makeInterface _ _ => 0
  | .makeFunc _ _ _ => 0
  | .fieldAddr _ _ _ => 0
  | .field _ _ _ => 0
  | .indexAddr _ _ _ => 0
  | .index _ _ _ => 0
  | .typeAssert _ _ _ _ => 0
  | .extract _ _ => 0
  | .slice _ _ _ _ _ => 1
  | .load _ _ => 1
  | .lookup _ _ _ _ => 1
  | .entry _ => 1
  | .convert _ d _ => match tyT P d with
    | .bytes _ => 2
    | _ => 1
  | .alloc _ => 3
  | .box _ _ => 3
  | .buildSlice _ _ _ => 3
  | .call ⟨.builtin b, _, _⟩ => match b with
    | .len => 1
    | .cap => 1
    | .min => 1
    | .max => 1
    | _ => 2
  | _ => 2
def bit (i : Nat) : Nat := Nat.pow 2 i
/-- All bits of the one are bits of the other. -/
def subM (a b : Nat) : Bool := Nat.beq (Nat.land a b) a
def hasM (i m : Nat) : Bool := Nat.beq (Nat.land (bit i) m) (bit i)
def nthN (l : List Nat) (i : Nat) : Nat := Option.rec 0 (fun x => x) (headO (dropL i l))
def depsO (o : Oper) : List Nat := lrec [] (fun x _ ih => bi (Region.binds .any x) (x.on :: ih) ih) o.after.toList
/-- For whom each operation waits, at any remove. -/
def reachL (l : List Oper) : List Nat → List Nat := lrec (fun R => R) (fun o _ ih R => ih (lapp R [lrec 0 (fun d _ m => Nat.lor (Nat.lor (bit d) (nthN R d)) m) (depsO o)])) l
def tmpM (x : Operand) : Nat := Operand.rec (fun t => bit t) (fun _ => 0) (fun _ => 0) (fun _ => 0) x
def usesM (ops : List Oper) (o : Oper) : Nat := Nat.lor (lrec 0 (fun x _ m => Nat.lor (tmpM x) m) o.op.operands.toList) (Option.rec 0 (fun g => Option.rec 0 (fun t => bit t) (guardT ops g)) o.guard)
def dstM (o : Oper) : Nat := Option.rec 0 (fun t => bit t) o.dst
/-- An operation of a region: its class, for whom it waits, what it looks at, what it sets. -/
structure Inf where
  cls : Nat
  w : Nat
  u : Nat
  d : Nat
def clsL (ops : List Oper) (l : List Oper) : Nat → List Nat → List Inf := lrec (fun _ _ => []) (fun o _ ih seen R =>
  (⟨bi (bi (Nat.ble 2 (clsO o.op)) true (Nat.beq (Nat.land (dstM o) seen) 0)) (clsO o.op) 2, Option.rec 0 (fun x => x) (headO R), usesM ops o, dstM o⟩ : Inf) :: ih (Nat.lor (Nat.lor (dstM o) (usesM ops o)) seen) (dropL 1 R)) l
def infL (ops : List Oper) : List Inf := clsL ops ops 0 (reachL ops [])
/-- The first of some that is ready, of these classes. -/
def pickI (p : Nat → Bool) (done : Nat) (l : List (Nat × Inf)) : Option (Nat × Inf) := lrec none (fun x _ ih => bi (bi (p x.2.cls) (subM x.2.w done) false) (some x) ih) l
def remI (i : Nat) (l : List (Nat × Inf)) : List (Nat × Inf) := lrec [] (fun x r ih => bi (Nat.beq x.1 i) r (x :: ih)) l
def ordI (n : Nat) : Nat → List (Nat × Inf) → List (Nat × Inf) := nrec (fun _ _ => []) (fun _ ih done l => Option.rec [] (fun x => x :: ih (Nat.lor (bit x.1) done) (remI x.1 l))
  (Option.rec (Option.rec (pickI (fun _ => true) done l) (fun x => some x) (pickI (fun c => Nat.beq c 2) done l)) (fun x => some x) (pickI (fun c => Nat.ble c 1) done l))) n
def numL {α : Type} (l : List α) : Nat → List (Nat × α) := lrec (fun _ => []) (fun x _ ih i => (i, x) :: ih (Nat.add i 1)) l
/-- Does a pair abide being taken in this order, whatever order is drawn? 'x' ahead of 'y'. -/
def okP (x y : Nat × Inf) : Bool :=
  bi (Nat.beq x.1 y.1) false (bi (hasM y.1 x.2.w) false (bi (hasM x.1 y.2.w) (bi (bi (Nat.beq (Nat.land y.2.d x.2.u) 0) (Nat.beq (Nat.land y.2.d x.2.d) 0) false) true (Nat.beq y.2.cls 2))
    (bi (bi (Nat.ble 2 x.2.cls) (Nat.ble y.2.cls 2) false) false (bi (Nat.beq (Nat.land y.2.d x.2.u) 0) (bi (Nat.beq (Nat.land y.2.d x.2.d) 0) (Nat.beq (Nat.land x.2.d y.2.u) 0) false) false))))
def okS (x : Nat × Inf) : Bool := bi (Nat.beq x.2.cls 2) true (bi (Nat.beq (Nat.land x.2.d x.2.u) 0) (bi (Nat.ble x.2.cls 1) true (bi (Nat.beq x.2.cls 3) (notB (Nat.beq x.2.d 0)) false)) false)
def okL (l : List (Nat × Inf)) : Bool := lrec true (fun x r ih => bi (okS x) (bi (allB (okP x) r) ih false) false) l
def drawOrd (ops : List Oper) : List (Nat × Inf) := ordI (len ops) 0 (numL (infL ops) 0)
/-- Is each in the list? -/
def covL (ops : List Oper) (l : List (Nat × Inf)) : Bool := allB (fun x => memN x.1 (mapL (fun y => y.1) l)) (numL ops 0)
/-- Each waits for elder ones only. -/
def fwdL (ops : List Oper) : Bool := allB (fun x => allB (fun d => Nat.blt d x.1) (depsO x.2)) (numL ops 0)
/-- What makes a block and may come up ahead does not look at what the like of it have made. -/
def chL (l : List (Nat × Inf)) : List (Nat × Inf) → Bool := lrec (fun _ => true) (fun x _ ih pre => bi (bi (Nat.beq x.2.cls 3) (bi (allB (fun y => bi (Nat.ble 2 y.2.cls) (hasM y.1 x.2.w) true) pre) true (allB (fun z => bi (Nat.beq z.2.cls 3) (Nat.beq (Nat.land z.2.d x.2.u) 0) true) pre)) true) (ih (x :: pre)) false) l
def okDraw (ops : List Oper) : Bool := bi (covL ops (drawOrd ops)) (bi (okL (drawOrd ops)) (bi (chL (drawOrd ops) []) (fwdL ops) false) false) false
def idO : Bx Opf := ⟨fun _ _ _ e m K => K e m⟩
def yesA (m : M) : A := some (.nilP, m)
/-- Those that read yield what they yielded. -/
def recheck (ops : List Oper) (l : List (Nat × Inf)) : Bx Opf := lrec idO (fun x _ ih => Bx.rec (fun g => Option.rec ⟨fun _ _ _ _ _ _ => none⟩ (fun o => Option.rec ⟨fun _ _ _ _ _ _ => none⟩ (fun t => Bx.rec (fun f =>
  ⟨fun h X sz e m K => oc (f h X sz e m (fun e' m' => bi (eqV 4 (gE t e) (gE t e')) (yesA m') none)) none (fun _ => g h X sz e m K)⟩) (cOper ops o)) o.dst) (ops[x.1]?)) ih) l
/-- Those that make new blocks, and may come up ahead, can be made. -/
def preck (ops : List Oper) (x : Nat × Inf) (l : List (Nat × Inf)) : Bx Opf := lrec idO (fun z _ ih => bi (bi (Nat.beq z.2.cls 3) (notB (hasM x.1 z.2.w)) false) (Bx.rec (fun g => Option.rec ⟨fun _ _ _ _ _ _ => none⟩ (fun o => Bx.rec (fun f =>
  ⟨fun h X sz e m K => oc (f h X sz e m (fun _ m' => yesA m')) none (fun _ => g h X sz e m K)⟩) (cOper ops o)) (ops[z.1]?)) ih) ih) l
/-- The reads ahead for which one does not wait. -/
def readsF (x : Nat × Inf) (pre : List (Nat × Inf)) : List (Nat × Inf) := filL (fun y => bi (Nat.beq y.2.cls 1) (notB (hasM y.1 x.2.w)) false) pre
def cDr (ops : List Oper) (l : List (Nat × Inf)) : List (Nat × Inf) → Bx Opf := lrec (fun _ => idO) (fun x r ih pre => Option.rec ⟨fun _ _ _ _ _ _ => none⟩ (fun o => Bx.rec (fun p => Bx.rec (fun f => Bx.rec (fun c =>
  ⟨fun h X sz e m K => p h X sz e m (fun e m => f h X sz e m (fun e m => c h X sz e m (fun e m => Bx.rec (fun g => g h X sz e m K) (ih (x :: pre)))))⟩) (bi (Nat.ble 2 x.2.cls) (recheck ops (readsF x pre)) idO)) (cOper ops o)) (bi (Nat.ble 2 x.2.cls) (preck ops x r) idO)) (ops[x.1]?)) l
def cDraw (ops : List Oper) : Bx Opf := bi (okDraw ops) (cDr ops (drawOrd ops) []) ⟨fun _ _ _ _ _ _ => none⟩

/-- Has a function a body? -/
def hasB (f : Nat) : Bool := Option.rec false (fun fn => Option.rec false (fun _ => true) fn.body) (funOf f)
def rangeF (h : Hk) (X : Ex) (f : Operand) (ps : List Tmp) (asg body : Code) (sz : Nat) (rd : Option Nat) (e : En) (ds : List Nat) (m : M) (Kn : Kn) (Kx : Kx) : A := Option.rec (motive := fun _ => A)
  (allo m .deferred fun D m => allo m (.loop 0 none e sz ps asg body) fun l m => (ev f e).onFunc (fun g k cs => bi (hasB g) (callF h X m g (lapp k (lapp [.yld l] cs)) (fun _ m => onLoop (m.get l) (fun st p _ _ _ _ _ => bi (Nat.beq st 1) none
    (Option.rec (motive := fun _ => A) (Kn e (D :: ds) (m.kill l)) (fun c => match c with
      | .ret => Kx .ret e (D :: ds) (m.kill l)
      | .exit id => Kx (.exit id) e (D :: ds) (m.kill l)
      | _ => none) p)) none)) none) none) (fun _ => none) rd
abbrev Cb := Hk → Ex → Cf
def run (x : Bx Cb) (h : Hk) (X : Ex) (sz : Nat) (rd : Option Nat) (e : En) (ds : List Nat) (m : M) (Kn : Kn) (Kx : Kx) : A := Bx.rec (fun f => f h X sz rd e ds m Kn Kx) x
def cCode (c : Code) : Bx Cb :=
  Code.rec (motive := fun _ => Bx Cb)
    ⟨fun _ _ _ _ e ds m Kn _ => Kn e ds m⟩
    (fun _ ops dr => Bx.rec (fun f => ⟨fun h X sz _ e ds m Kn _ => f h X sz e m (fun e m => Kn e ds m)⟩) (bi dr (cDraw ops.toList) (cOps ops.toList ops.toList)))
    (fun _ _ a b => Bx.rec (fun f => ⟨fun h X sz rd e ds m Kn Kx => f h X sz rd e ds m (fun e ds m => run b h X sz rd e ds m Kn Kx) Kx⟩) a)
    (fun c _ _ a b => ⟨fun h X sz rd e ds m Kn Kx => (ev c e).onBool (fun t => run (bi t a b) h X sz rd e ds m Kn Kx) none⟩)
    (fun id _ c => Bx.rec (fun f => ⟨fun h X sz rd e ds m Kn Kx => f h X sz rd e ds m Kn (fun r e ds m => Rs.rec (motive := fun _ => A) none (fun i => bi (Nat.beq i id) (Kn e ds m) (Kx (.exit i) e ds m)) (Kx .ret e ds m) r)⟩) c)
    (fun c _ => ⟨fun h X sz rd e ds m Kn Kx => X c sz rd e ds m (fun e ds m => X (.loop c) sz rd e ds m Kn Kx) Kx⟩)
    (fun f ps a b _ _ => ⟨fun h X sz rd e ds m Kn Kx => rangeF h X f ps.toList a b sz rd e ds m Kn Kx⟩)
    (fun id => ⟨fun _ _ _ _ e ds m _ Kx => Kx (.exit id) e ds m⟩)
    (fun _ _ => ⟨fun _ _ _ _ _ _ _ _ _ => none⟩)
    (fun _ => ⟨fun _ _ _ _ e ds m Kn _ => Kn e ds m⟩)
    (fun _ => ⟨fun _ _ _ _ _ _ _ _ _ => none⟩)
    ⟨fun _ _ _ _ e ds m _ Kx => Kx .ret e ds m⟩
    (fun _ => ⟨fun _ _ _ _ _ _ _ _ _ => none⟩) c
def exec (h : Hk) (n : Nat) : Ex := Nat.rec (fun _ _ _ _ _ _ _ _ => none) (fun _ ih c sz rd e ds m Kn Kx => run (cCode c) h ih sz rd e ds m Kn Kx) n
def call (h : Hk) (n : Nat) (m : M) (f : FuncId) (vs : List V) (K : Kt) : A := callF h (exec h n) m f vs K
end
end Go.Proofs.YtiekoeapmhhjbaaGreatDoor.X
/- The interpreter, part H: calls that are known. -/
namespace Go.Proofs.YtiekoeapmhhjbaaGreatDoor.X
open Go
set_option linter.unusedVariables false
noncomputable section
/-- The table of check.Of, at the one row of bits that there is. -/
def crcL : List Nat := [0, 1996959894, 3993919788, 2567524794, 124634137, 1886057615, 3915621685, 2657392035, 249268274, 2044508324, 3772115230, 2547177864, 162941995, 2125561021, 3887607047, 2428444049, 498536548, 1789927666, 4089016648, 2227061214, 450548861, 1843258603, 4107580753, 2211677639, 325883990, 1684777152, 4251122042, 2321926636, 335633487, 1661365465, 4195302755, 2366115317, 997073096, 1281953886, 3579855332, 2724688242, 1006888145, 1258607687, 3524101629, 2768942443, 901097722, 1119000684, 3686517206, 2898065728, 853044451, 1172266101, 3705015759, 2882616665, 651767980, 1373503546, 3369554304, 3218104598, 565507253, 1454621731, 3485111705, 3099436303, 671266974, 1594198024, 3322730930, 2970347812, 795835527, 1483230225, 3244367275, 3060149565, 1994146192, 31158534, 2563907772, 4023717930, 1907459465, 112637215, 2680153253, 3904427059, 2013776290, 251722036, 2517215374, 3775830040, 2137656763, 141376813, 2439277719, 3865271297, 1802195444, 476864866, 2238001368, 4066508878, 1812370925, 453092731, 2181625025, 4111451223, 1706088902, 314042704, 2344532202, 4240017532, 1658658271, 366619977, 2362670323, 4224994405, 1303535960, 984961486, 2747007092, 3569037538, 1256170817, 1037604311, 2765210733, 3554079995, 1131014506, 879679996, 2909243462, 3663771856, 1141124467, 855842277, 2852801631, 3708648649, 1342533948, 654459306, 3188396048, 3373015174, 1466479909, 544179635, 3110523913, 3462522015, 1591671054, 702138776, 2966460450, 3352799412, 1504918807, 783551873, 3082640443, 3233442989, 3988292384, 2596254646, 62317068, 1957810842, 3939845945, 2647816111, 81470997, 1943803523, 3814918930, 2489596804, 225274430, 2053790376, 3826175755, 2466906013, 167816743, 2097651377, 4027552580, 2265490386, 503444072, 1762050814, 4150417245, 2154129355, 426522225, 1852507879, 4275313526, 2312317920, 282753626, 1742555852, 4189708143, 2394877945, 397917763, 1622183637, 3604390888, 2714866558, 953729732, 1340076626, 3518719985, 2797360999, 1068828381, 1219638859, 3624741850, 2936675148, 906185462, 1090812512, 3747672003, 2825379669, 829329135, 1181335161, 3412177804, 3160834842, 628085408, 1382605366, 3423369109, 3138078467, 570562233, 1426400815, 3317316542, 2998733608, 733239954, 1555261956, 3268935591, 3050360625, 752459403, 1541320221, 2607071920, 3965973030, 1969922972, 40735498, 2617837225, 3943577151, 1913087877, 83908371, 2512341634, 3803740692, 2075208622, 213261112, 2463272603, 3855990285, 2094854071, 198958881, 2262029012, 4057260610, 1759359992, 534414190, 2176718541, 4139329115, 1873836001, 414664567, 2282248934, 4279200368, 1711684554, 285281116, 2405801727, 4167216745, 1634467795, 376229701, 2685067896, 3608007406, 1308918612, 956543938, 2808555105, 3495958263, 1231636301, 1047427035, 2932959818, 3654703836, 1088359270, 936918000, 2847714899, 3736837829, 1202900863, 817233897, 3183342108, 3401237130, 1404277552, 615818150, 3134207493, 3453421203, 1423857449, 601450431, 3009837614, 3294710456, 1567103746, 711928724, 3020668471, 3272380065, 1510334235, 755167117]
def crcV : V := .agg (mapL (fun n => V.int .u32 n) crcL)
def primOf : Fnf := fun _ m vs K => List.rec (motive := fun _ => A) none (fun x r _ => x.onInt (fun k p => bi (Nat.beq (kn k) 6) (bi (isNil r) (bi (Nat.beq p 3988292384) (K crcV m) none) none) none) none) vs
/-- The one says no more than the other. -/
def leV (a b : V) : Bool := bi (V.rec (motive_1 := fun _ => Bool) (motive_2 := fun _ => Unit) true (fun _ => false) (fun _ _ => false) (fun _ _ _ => false) (fun _ => false) (fun _ _ => false) false (fun _ _ _ _ => false) false (fun _ => false) (fun _ => false) false (fun _ _ _ _ _ => false) (fun _ => false) false (fun _ _ _ => false) false (fun _ _ => false) (fun _ _ => false) (fun _ => false) () (fun _ _ _ _ => ()) a) true (eqV 4 a b)
def leB (a b : Blk) : Bool := match a, b with
  | .dead, _ => true
  | .cells n t T f, .cells k u S g => bi (Nat.beq n k) (bi (Nat.beq T S) (bi (eqBo f g) (nrec (fun (_ : Unit) => true) (fun i ih v => bi (leV (gC i t) (gC i u)) (ih v) false) n ()) false) false) false
  | a, b => eqBk a b
def eqAt (a b : M) (l : List Nat) : Bool := lrec true (fun k _ ih => bi (leB (a.get k) (b.get k)) ih false) l
/-- What is new in a memory, laid over an elder one. -/
def over (m r : M) : M := frc r.n fun n => ⟨n, lrec m.t (fun k _ t => u5 .dead k (r.get k) t) r.lg, r.lg⟩
/-- A function that ranges over maps: its outcomes are one. -/
def nd2 (g : Bx Fnf) (X : Ex) (m : M) (vs : List V) (K : Kt) (v0 : V) (o : M) : A :=
  oc (Bx.rec (fun g => g X ⟨m.n, m.t, []⟩ vs (fun v m' => bi (leV v0 v) (bi (Nat.beq o.n m'.n) (bi (eqAt o m' o.lg) (bi (eqAt o m' m'.lg) (yesA m') none) none) none) none)) g) none fun _ => K v0 ⟨o.n, o.t, lapp o.lg m.lg⟩
def ndRun (g : Bx Fnf) : Fnf := fun X m vs K => oc (Bx.rec (fun g => g X ⟨m.n, m.t, []⟩ vs (fun v m' => some (v, m'))) g) none fun r => nd2 g X m vs K r.1 (over m r.2)
def hookF (f : FuncId) : Option Fnf := bi (Nat.beq f 254) (some primOf) (bi (bi (Nat.beq f 35) true (bi (Nat.beq f 108) true (Nat.beq f 10))) (some (ndRun (cFun f))) none)

/-- What comes to true, and makes blocks only. -/
def awk : Fnf := fun _ m vs K => bi (isNil vs) (K (.bool true) m) none
def hookL (f : FuncId) : Option Fnf := bi (bi (Nat.beq f 14) true (bi (Nat.beq f 25) true (Nat.beq f 6))) (some awk) (hookF f)

end
end Go.Proofs.YtiekoeapmhhjbaaGreatDoor.X
