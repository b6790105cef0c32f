/- VaultBegins: the law's code in pieces; what a disk may be behind a restart. -/
import Derived.Test.YtiekoeapmhhjbaaGreatDoorMH
namespace Go.Proofs.YtiekoeapmhhjbaaGreatDoor.X
open Go
set_option linter.unusedVariables false
noncomputable section
noncomputable def sqA : Code → Code
  | .seq a _ => a
  | q => q
noncomputable def sqB : Code → Code
  | .seq _ b => b
  | q => q
noncomputable def q3 : Code := (Tryz.f3.body).getD .skip
noncomputable def tl (n : Nat) : Code := nrec (fun q => q) (fun _ ih q => ih (sqB q)) n q3
noncomputable def pc (n : Nat) : Code := sqA (tl n)
/-! ### a disk -/
/-- A name and a file: the file's block, and its row's, if it is one of known bytes; when the name came. -/
noncomputable def isT (v : V) : Bool := match v with
  | .str s => eqS s [116]
  | _ => false
noncomputable def fileOf (m : M) (x : V × V × Nat) : List Nat := match x.2.1 with
  | .ptr f 0 => f :: bi (isT x.1) [] ((m.get f).onCells (fun _ t _ _ => match gC 0 t with
    | .slice b _ _ _ => [b]
    | _ => []) [])
  | _ => []
/-- Which blocks a disk has. -/
noncomputable def sgOf (e : En) (m : M) : Option (List Nat) := match gE 9 e with
  | .ptr b 0 => (m.get b).onCells (fun _ t _ _ => match gC 0 t, gC 1 t with
    | .map r, .map s => match m.get s with
      | .map es _ => some (b :: r :: s :: lrec [] (fun x _ ih => lapp (fileOf m x) ih) es)
      | _ => none
    | _, _ => none) none
  | _ => none
noncomputable def ztOf (e : En) (m : M) : V := match gE 9 e with
  | .ptr b 0 => (m.get b).onCells (fun _ t _ _ => match gC 1 t with
    | .map s => match m.get s with
      | .map es _ => lrec (.int .i64 0) (fun (x : V × V × Nat) _ ih => bi (isT x.1) (match x.2.1 with
        | .ptr f 0 => (m.get f).onCells (fun _ t _ _ => gC 1 t) (.int .i64 0)
        | _ => .int .i64 0) ih) es
      | _ => .int .i64 0
    | _ => .int .i64 0) (.int .i64 0)
  | _ => .int .i64 0
/-- A disk that begins again. -/
structure Cn where
  n : Nat
  bs : List (Nat × Blk)
noncomputable def cel (l : List V) : Blk := .cells (len l) (trOf l) 0 false
noncomputable def dskB (h : Nat) : Blk := cel [.map 7, .map 8, .nilS, .int .i64 9000, .int .i64 18446744073709551615, .bool false, .rng .i64 0 h]
noncomputable def p1L : List Nat := [0, 0, 0, 17, 29, 211, 97, 122, 2, 0, 0, 0, 0, 0, 0, 0, 0, 0, 0, 0, 0, 0, 0, 0, 0, 229]
noncomputable def jL : List Nat := [0, 0, 0, 51, 172, 203, 70, 212, 0, 0, 0, 0, 0, 0, 0, 0, 0, 0, 0, 0, 0, 0, 0, 1, 0, 0, 0, 0, 0, 0, 0, 2, 112, 49, 2, 0, 0, 0, 0, 0, 0, 0, 0, 0, 0, 0, 0, 0, 0, 0, 0, 0, 0, 0, 0, 0, 0, 0, 0, 229]
noncomputable def rowB (l : List Nat) : Blk := cel (mapL (fun c => V.int .u8 c) l)
noncomputable def fileB (b n : Nat) : Blk := cel [.slice b 0 n (.is n), .int .i64 n]
noncomputable def tornB : Blk := cel [.opq 110, .opq 100]
/-- Empty; a file that is being written; the part; the part, and a file that is being written; the part, and the list. Where names came, and how often. -/
noncomputable def cnE (h : Nat) (c : Nat) : Cn := ⟨9, [(6, dskB h), (7, .map [] c), (8, .map [] c)]⟩
noncomputable def esT (b : Nat) : List (V × V × Nat) := [(.str [116], .ptr 9 0, b)]
noncomputable def cnT (h : Nat) (b c : Nat) : Cn := ⟨10, [(6, dskB h), (7, .map (esT b) c), (8, .map (esT b) c), (9, tornB)]⟩
noncomputable def esP (b : Nat) : List (V × V × Nat) := [(.str [112, 49], .ptr 9 0, b)]
noncomputable def cnP (h : Nat) (b c : Nat) : Cn := ⟨11, [(6, dskB h), (7, .map (esP b) c), (8, .map (esP b) c), (9, fileB 10 26), (10, rowB p1L)]⟩
noncomputable def esPT (b d : Nat) : List (V × V × Nat) := [(.str [112, 49], .ptr 9 0, b), (.str [116], .ptr 11 0, d)]
noncomputable def cnPT (h : Nat) (b d c : Nat) : Cn := ⟨12, [(6, dskB h), (7, .map (esPT b d) c), (8, .map (esPT b d) c), (9, fileB 10 26), (10, rowB p1L), (11, tornB)]⟩
noncomputable def esPJ (b d : Nat) : List (V × V × Nat) := [(.str [112, 49], .ptr 9 0, b), (.str [74], .ptr 11 0, d)]
noncomputable def cnPJ (h : Nat) (b d c : Nat) : Cn := ⟨13, [(6, dskB h), (7, .map (esPJ b d) c), (8, .map (esPJ b d) c), (9, fileB 10 26), (10, rowB p1L), (11, fileB 12 60), (12, rowB jL)]⟩
/-- What there may be where names came so often ahead; all of that. -/
noncomputable def cns (h k : Nat) : List Cn := [cnE h k, cnT h k (Nat.add k 1), cnP h (Nat.add k 1) (Nat.add k 2), cnPT h (Nat.add k 1) (Nat.add k 2) (Nat.add k 3), cnPJ h (Nat.add k 1) (Nat.add k 3) (Nat.add k 4)]
noncomputable def tab1 : List Cn := cns 100 0
noncomputable def tab2 : List Cn := lapp (cns 1000 0) (lapp (cns 1000 1) (lapp (cns 1000 2) (cns 1000 3)))
noncomputable def anyB {α : Type} (p : α → Bool) (l : List α) : Bool := lrec false (fun x _ ih => bi (p x) true ih) l
noncomputable def chk (tab : List Cn) (e : En) (m : M) : Bool := oc (sgOf e m) false fun l => anyB (fun S => bi (cutV l S.n (ztOf e m) (.ptr 6 0) (gE 9 e)) (cutAll l S.n (ztOf e m) S.bs m) false) tab
noncomputable def envC : List (Nat × V) := [(1, .opq 2901), (2, .opq 2902), (3, .opq 2903), (9, .ptr 6 0)]
noncomputable def tag (t i : Nat) (e : En) : Bool := eqV 2 (gE t e) (.opq i)
/-- Where a stage ends: the disk is one of these. -/
noncomputable def cutK (tab : List Cn) (g a b : Nat) : Kn := fun e ds m => bi (isNil ds) (bi (tag 1 a e) (bi (tag 2 b e) (bi (tag 3 g e) (bi (chk tab e m) (yesA m) none) none) none) none) none
noncomputable def andA (x y : A) : A := oc x none fun _ => y
noncomputable def orA (x y : A) : A := Option.rec y (fun r => some r) x
noncomputable def hk : Hk := fun f => bi (Nat.beq f 6) (some awk) (hookF f)
noncomputable def xx : Ex := exec hk 1000000
noncomputable def sz3 : Nat := Tryz.f3.ntmps
/-- A restart by the names of one kind, and bytes of another one. -/
noncomputable def oneR (q : Code) (tab : List Cn) (g : Nat) (e : En) (m : M) (a b : Nat) : A := run (cCode q) hk xx sz3 none (uE 1 (.opq (Nat.add 3000 a)) (uE 2 (.opq (Nat.add 4000 b)) e)) [] m (cutK tab g (Nat.add 3000 a) (Nat.add 4000 b)) nox
noncomputable def bytR (q : Code) (tab : List Cn) (g : Nat) (f : Nat → Nat) (e : En) (m : M) (a : Nat) : A := orA (oneR q tab g e m a (f 3)) (andA (oneR q tab g e m a (f 0)) (andA (oneR q tab g e m a (f 1)) (oneR q tab g e m a (f 2))))
noncomputable def allA {α : Type} (p : α → A) (l : List α) (m : M) : A := lrec (yesA m) (fun x _ ih => andA (p x) ih) l
noncomputable def varR (q : Code) (tab : List Cn) (g : Nat) (f : Nat → Nat) (ns : List Nat) : Kn := fun e ds m => bi (isNil ds) (bi (tag 1 2901 e) (bi (tag 2 2902 e) (bi (tag 3 g e) (allA (bytR q tab g f e m) ns m) none) none) none) none
noncomputable def f1 (k : Nat) : Nat := Nat.add (Nat.mul k 4) 3
noncomputable def f2 (k : Nat) : Nat := Nat.add 12 k
noncomputable def ns1 : List Nat := [8, 24, 168]
noncomputable def ns2 : List Nat := [128, 129, 130, 131, 140]
noncomputable def seqR (q : Code) (K : Kn) : Kn := fun e ds m => run (cCode q) hk xx sz3 none e ds m K nox
/-- So many numbers, from one on. -/
noncomputable def allF (p : Nat → Bool) (n a : Nat) : Bool := nrec (fun (_ : Nat) => true) (fun _ ih a => frc a fun a => bi (p a) (ih (Nat.add a 1)) false) n a
/-- The first stage: up to the first restart. -/
noncomputable def st1 (tab : List Cn) (s : Nat) : A := seqR (pc 0) (seqR (pc 1) (seqR (pc 2) (seqR (pc 3) (seqR (pc 4) (seqR (pc 5) (varR (pc 6) tab 2903 f1 ns1)))))) (argT [.opq (Nat.add 2000 s), .opq 2901, .opq 2902, .opq 2903]) [] nilM
/-- The second stage: up to the second one. -/
noncomputable def st2 (tab : List Cn) (S : Cn) (s : Nat) : A := seqR (pc 7) (seqR (pc 8) (varR (pc 9) tab (Nat.add 2000 s) f2 ns2)) (uE 3 (.opq (Nat.add 2000 s)) (mkE envC)) [] (mkM S.n S.bs)
/-- The rest. -/
noncomputable def finK : Kt := fun v m => bi (leV (.bool true) v) (yesA m) none
noncomputable def st3 (S : Cn) : A := run (cCode (tl 10)) hk xx sz3 none (mkE envC) [] (mkM S.n S.bs) (endF Tryz.f3.results.toList finK) (retK (endF Tryz.f3.results.toList finK))
end
end Go.Proofs.YtiekoeapmhhjbaaGreatDoor.X
