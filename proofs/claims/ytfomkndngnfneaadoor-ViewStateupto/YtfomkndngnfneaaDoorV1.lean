/- View: functions. -/
import Derived.Test.YtfomkndngnfneaaDoorProg
import Derived.Test.YtfomkndngnfneaaDoorGnT
import Derived.Test.YtfomkndngnfneaaDoorVM
namespace Go.Proofs.YtfomkndngnfneaaDoor.V1
open Go Go.RowKit Go.Proofs.YtfomkndngnfneaaDoor.Sx
set_option linter.unusedVariables false
set_option linter.unusedSimpArgs false
structure apiCmd where
  Op : Int
  Client : Int
  Seq : Int
  Key : Str
  Value : Str
  Old : Str
  deriving DecidableEq
def tapiCmd : Ty apiCmd where
  sz := 6
  R := fun ζ cs x => cs = [vi x.Op, vi x.Client, vi x.Seq, vs x.Key, vs x.Value, vs x.Old]
  len := by rintro ζ cs x rfl; rfl
  one := by
    rintro ζ cs x rfl u hu
    simp only [List.mem_cons, List.not_mem_nil, or_false] at hu
    rcases hu with rfl | rfl | rfl | rfl | rfl | rfl <;> rfl
  mono := by rintro ζ ζ' cs x rfl hl; exact rfl
structure apiEntry where
  Index : Int
  Term : Int
  Cmd : apiCmd
  deriving DecidableEq
def tapiEntry : Ty apiEntry where
  sz := 8
  R := fun ζ cs x => cs = [vi x.Index, vi x.Term, vi x.Cmd.Op, vi x.Cmd.Client, vi x.Cmd.Seq, vs x.Cmd.Key, vs x.Cmd.Value, vs x.Cmd.Old]
  len := by rintro ζ cs x rfl; rfl
  one := by
    rintro ζ cs x rfl u hu
    simp only [List.mem_cons, List.not_mem_nil, or_false] at hu
    rcases hu with rfl | rfl | rfl | rfl | rfl | rfl | rfl | rfl <;> rfl
  mono := by rintro ζ ζ' cs x rfl hl; exact rfl
structure rlogLog where
  Base : Int
  Term : Int
  Entries : List apiEntry
  deriving DecidableEq
def trlogLog : Ty rlogLog where
  sz := 3
  R := fun ζ cs x => ∃ A2 c2, cs = [vi x.Base, vi x.Term, .slice A2 x.Entries.length c2] ∧ Sl tapiEntry ζ A2 c2 x.Entries
  len := by rintro ζ cs x ⟨A2, c2, rfl, f2⟩; rfl
  one := by
    rintro ζ cs x ⟨A2, c2, rfl, f2⟩ u hu
    simp only [List.mem_cons, List.not_mem_nil, or_false] at hu
    rcases hu with rfl | rfl | rfl <;> rfl
  mono := by rintro ζ ζ' cs x ⟨A2, c2, rfl, f2⟩ hl; exact ⟨A2, c2, rfl, f2.mono hl⟩
structure Arr28 where
  E0 : Bool
  E1 : Bool
  E2 : Bool
  deriving DecidableEq
def tArr28 : Ty Arr28 where
  sz := 3
  R := fun ζ cs x => cs = [vb x.E0, vb x.E1, vb x.E2]
  len := by rintro ζ cs x rfl; rfl
  one := by
    rintro ζ cs x rfl u hu
    simp only [List.mem_cons, List.not_mem_nil, or_false] at hu
    rcases hu with rfl | rfl | rfl <;> rfl
  mono := by rintro ζ ζ' cs x rfl hl; exact rfl
structure Arr29 where
  E0 : Int
  E1 : Int
  E2 : Int
  deriving DecidableEq
def tArr29 : Ty Arr29 where
  sz := 3
  R := fun ζ cs x => cs = [vi x.E0, vi x.E1, vi x.E2]
  len := by rintro ζ cs x rfl; rfl
  one := by
    rintro ζ cs x rfl u hu
    simp only [List.mem_cons, List.not_mem_nil, or_false] at hu
    rcases hu with rfl | rfl | rfl <;> rfl
  mono := by rintro ζ ζ' cs x rfl hl; exact rfl
structure nodeNode where
  ID : Int
  Term : Int
  Vote : Int
  Log : rlogLog
  Role : Int
  Commit : Int
  Votes : Arr28
  Match : Arr29
  Next : Arr29
  Quiet : Int
  deriving DecidableEq
def tnodeNode : Ty nodeNode where
  sz := 18
  R := fun ζ cs x => ∃ A5 c5, cs = [vi x.ID, vi x.Term, vi x.Vote, vi x.Log.Base, vi x.Log.Term, .slice A5 x.Log.Entries.length c5, vi x.Role, vi x.Commit, vb x.Votes.E0, vb x.Votes.E1, vb x.Votes.E2, vi x.Match.E0, vi x.Match.E1, vi x.Match.E2, vi x.Next.E0, vi x.Next.E1, vi x.Next.E2, vi x.Quiet] ∧ Sl tapiEntry ζ A5 c5 x.Log.Entries
  len := by rintro ζ cs x ⟨A5, c5, rfl, f5⟩; rfl
  one := by
    rintro ζ cs x ⟨A5, c5, rfl, f5⟩ u hu
    simp only [List.mem_cons, List.not_mem_nil, or_false] at hu
    rcases hu with rfl | rfl | rfl | rfl | rfl | rfl | rfl | rfl | rfl | rfl | rfl | rfl | rfl | rfl | rfl | rfl | rfl | rfl <;> rfl
  mono := by rintro ζ ζ' cs x ⟨A5, c5, rfl, f5⟩ hl; exact ⟨A5, c5, rfl, f5.mono hl⟩
structure apiRef where
  Name : Str
  Kind : Int
  From : Int
  To : Int
  deriving DecidableEq
def tapiRef : Ty apiRef where
  sz := 4
  R := fun ζ cs x => cs = [vs x.Name, vi x.Kind, vi x.From, vi x.To]
  len := by rintro ζ cs x rfl; rfl
  one := by
    rintro ζ cs x rfl u hu
    simp only [List.mem_cons, List.not_mem_nil, or_false] at hu
    rcases hu with rfl | rfl | rfl | rfl <;> rfl
  mono := by rintro ζ ζ' cs x rfl hl; exact rfl
structure editsSet where
  Refs : List apiRef
  Floor : Int
  deriving DecidableEq
def teditsSet : Ty editsSet where
  sz := 2
  R := fun ζ cs x => ∃ A0 c0, cs = [.slice A0 x.Refs.length c0, vi x.Floor] ∧ Sl tapiRef ζ A0 c0 x.Refs
  len := by rintro ζ cs x ⟨A0, c0, rfl, f0⟩; rfl
  one := by
    rintro ζ cs x ⟨A0, c0, rfl, f0⟩ u hu
    simp only [List.mem_cons, List.not_mem_nil, or_false] at hu
    rcases hu with rfl | rfl <;> rfl
  mono := by rintro ζ ζ' cs x ⟨A0, c0, rfl, f0⟩ hl; exact ⟨A0, c0, rfl, f0.mono hl⟩
structure apiPair where
  Key : Str
  Value : Str
  Gone : Bool
  deriving DecidableEq
def tapiPair : Ty apiPair where
  sz := 3
  R := fun ζ cs x => cs = [vs x.Key, vs x.Value, vb x.Gone]
  len := by rintro ζ cs x rfl; rfl
  one := by
    rintro ζ cs x rfl u hu
    simp only [List.mem_cons, List.not_mem_nil, or_false] at hu
    rcases hu with rfl | rfl | rfl <;> rfl
  mono := by rintro ζ ζ' cs x rfl hl; exact rfl
structure apiReply where
  Err : Int
  Value : Str
  deriving DecidableEq
def tapiReply : Ty apiReply where
  sz := 2
  R := fun ζ cs x => cs = [vi x.Err, vs x.Value]
  len := by rintro ζ cs x rfl; rfl
  one := by
    rintro ζ cs x rfl u hu
    simp only [List.mem_cons, List.not_mem_nil, or_false] at hu
    rcases hu with rfl | rfl <;> rfl
  mono := by rintro ζ ζ' cs x rfl hl; exact rfl
structure apiSession where
  Client : Int
  Seq : Int
  Reply : apiReply
  deriving DecidableEq
def tapiSession : Ty apiSession where
  sz := 4
  R := fun ζ cs x => cs = [vi x.Client, vi x.Seq, vi x.Reply.Err, vs x.Reply.Value]
  len := by rintro ζ cs x rfl; rfl
  one := by
    rintro ζ cs x rfl u hu
    simp only [List.mem_cons, List.not_mem_nil, or_false] at hu
    rcases hu with rfl | rfl | rfl | rfl <;> rfl
  mono := by rintro ζ ζ' cs x rfl hl; exact rfl
structure apiState where
  Index : Int
  Term : Int
  Pairs : List apiPair
  Sessions : List apiSession
  deriving DecidableEq
def tapiState : Ty apiState where
  sz := 4
  R := fun ζ cs x => ∃ A2 c2 A3 c3, cs = [vi x.Index, vi x.Term, .slice A2 x.Pairs.length c2, .slice A3 x.Sessions.length c3] ∧ Sl tapiPair ζ A2 c2 x.Pairs ∧ Sl tapiSession ζ A3 c3 x.Sessions
  len := by rintro ζ cs x ⟨A2, c2, A3, c3, rfl, f2, f3⟩; rfl
  one := by
    rintro ζ cs x ⟨A2, c2, A3, c3, rfl, f2, f3⟩ u hu
    simp only [List.mem_cons, List.not_mem_nil, or_false] at hu
    rcases hu with rfl | rfl | rfl | rfl <;> rfl
  mono := by rintro ζ ζ' cs x ⟨A2, c2, A3, c3, rfl, f2, f3⟩ hl; exact ⟨A2, c2, A3, c3, rfl, f2.mono hl, f3.mono hl⟩
theorem sz3 : (Tryd.prog.info? 3).map (·.size) = some 1 := by kernel_rfl
theorem sz25 : (Tryd.prog.info? 25).map (·.size) = some 1 := by kernel_rfl
theorem sz24 : (Tryd.prog.info? 24).map (·.size) = some 1 := by kernel_rfl
theorem sz9 : (Tryd.prog.info? 9).map (·.size) = some 1 := by kernel_rfl
theorem zr9 : (Tryd.prog.info? 9).map (·.zero) = some (some (.string ⟨#[]⟩)) := by kernel_rfl
theorem sz27 : (Tryd.prog.info? 27).map (·.size) = some 3 := by kernel_rfl
theorem sz38 : (Tryd.prog.info? 38).map (·.size) = some 1 := by kernel_rfl
theorem sz34 : (Tryd.prog.info? 34).map (·.size) = some 1 := by kernel_rfl
theorem sz40 : (Tryd.prog.info? 40).map (·.size) = some 4 := by kernel_rfl
theorem zr40 : (Tryd.prog.info? 40).map (·.zero) = some (some (.agg #[.string ⟨#[]⟩, .int .i64 0, .int .i64 0, .int .i64 0])) := by kernel_rfl
theorem zr31 : (Tryd.prog.info? 31).map (·.zero) = some (some (.agg #[.int .i64 0, .int .i64 0, .int .i64 0, .int .i64 0, .int .i64 0, .slice none 0 0, .int .i64 0, .int .i64 0, .bool false, .bool false, .bool false, .int .i64 0, .int .i64 0, .int .i64 0, .int .i64 0, .int .i64 0, .int .i64 0, .int .i64 0])) := by kernel_rfl
theorem pl31 {fs : Array Field} (h : Tryd.prog.underlying 31 = some (.struct fs)) (w : World) : (fs.mapM fun f => do pure (f.offset, ← sizeOf f.type) : Sem (Array (Nat × Nat))).run Tryd.prog w = .ok #[(0, 1), (1, 1), (2, 1), (3, 3), (6, 1), (7, 1), (8, 3), (11, 3), (14, 3), (17, 1)] w := by
  rw [Tryd.underlying31] at h
  cases h
  kernel_rfl
theorem sz31 : (Tryd.prog.info? 31).map (·.size) = some 18 := by kernel_rfl
theorem zr69 : (Tryd.prog.info? 69).map (·.zero) = some (some (.agg #[.pointer none, .slice none 0 0])) := by kernel_rfl
theorem sz47 : (Tryd.prog.info? 47).map (·.size) = some 4 := by kernel_rfl
theorem sz44 : (Tryd.prog.info? 44).map (·.size) = some 1 := by kernel_rfl
theorem sz49 : (Tryd.prog.info? 49).map (·.size) = some 3 := by kernel_rfl
theorem zr49 : (Tryd.prog.info? 49).map (·.zero) = some (some (.agg #[.string ⟨#[]⟩, .string ⟨#[]⟩, .bool false])) := by kernel_rfl
theorem pl49 {fs : Array Field} (h : Tryd.prog.underlying 49 = some (.struct fs)) (w : World) : (fs.mapM fun f => do pure (f.offset, ← sizeOf f.type) : Sem (Array (Nat × Nat))).run Tryd.prog w = .ok #[(0, 1), (1, 1), (2, 1)] w := by
  rw [Tryd.underlying49] at h
  cases h
  kernel_rfl
theorem zr47 : (Tryd.prog.info? 47).map (·.zero) = some (some (.agg #[.int .i64 0, .int .i64 0, .slice none 0 0, .slice none 0 0])) := by kernel_rfl
theorem pl47 {fs : Array Field} (h : Tryd.prog.underlying 47 = some (.struct fs)) (w : World) : (fs.mapM fun f => do pure (f.offset, ← sizeOf f.type) : Sem (Array (Nat × Nat))).run Tryd.prog w = .ok #[(0, 1), (1, 1), (2, 1), (3, 1)] w := by
  rw [Tryd.underlying47] at h
  cases h
  kernel_rfl
theorem pl40 {fs : Array Field} (h : Tryd.prog.underlying 40 = some (.struct fs)) (w : World) : (fs.mapM fun f => do pure (f.offset, ← sizeOf f.type) : Sem (Array (Nat × Nat))).run Tryd.prog w = .ok #[(0, 1), (1, 1), (2, 1), (3, 1)] w := by
  rw [Tryd.underlying40] at h
  cases h
  kernel_rfl
def go_rlog_Log_Last (p0 : rlogLog) : Option Int :=
  some (wr (p0.Base + (p0.Entries.length : Int)))
set_option maxRecDepth 100000 in
set_option maxHeartbeats 4000000 in
theorem go_rlog_Log_Last.walk {w0 w : World} {X : List Res} {z0 : Zp} {p0 : rlogLog} {A3 : Option Addr} {c3 : Nat} {r : Int} (hst : Ht w0 (frz z0 :: X) w) (f3 : Sl tapiEntry z0 A3 c3 p0.Entries) (hf : go_rlog_Log_Last p0 = some r) :
    Calls Tryd.prog 20 #[.agg #[vi p0.Base, vi p0.Term, .slice A3 p0.Entries.length c3]] w fun e w' => ∃ (z' : Zp), e = .returned (vi r) ∧ Le z0 z' ∧ Ht w0 (frz z' :: X) w' := by
  refine calls_np Tryd.func20 rfl rfl ?_
  have hle0 := Le.refl z0
  unfold go_rlog_Log_Last at hf
  refine Run.seq ?_
  refine Run.region ?_
  refine Ops.boxF [vi p0.Base, vi p0.Term, .slice A3 p0.Entries.length c3] hst rfl rfl rfl (fun g4 w4 hst4 => ?_)
  refine Ops.ex (Ex.assign rfl) rfl rfl rfl ?_
  refine Ops.nil ?_
  refine Run.seq ?_
  refine Run.region ?_
  refine Ops.ex (Ex.fieldAddr rfl Tryd.underlying27 rfl sz3) rfl rfl rfl ?_
  refine Ops.load rfl Tryd.underlying3 rfl (hst4.cell (i := 1) rfl rfl) rfl ?_
  refine Ops.ex (Ex.fieldAddr rfl Tryd.underlying27 rfl sz25) rfl rfl rfl ?_
  refine Ops.load rfl Tryd.underlying25 rfl (hst4.cell (i := 1) rfl rfl) rfl ?_
  refine Ops.ex (Ex.len' rfl rfl rfl Tryd.underlying25) rfl rfl rfl ?_
  refine Ops.ex (Ex.add rfl rfl) rfl rfl rfl ?_
  refine Ops.ex (Ex.assign rfl) rfl rfl rfl ?_
  refine Ops.nil ?_
  obtain rfl := Option.some.inj hf
  exact Run.retV [vi (wr (p0.Base + (p0.Entries.length : Int)))] rfl ⟨rfl, trivial⟩ ⟨z0, rfl, hle0, (St.forget hst4 1)⟩
def go_law20_digits : Nat → Int → Option Str
  | 0, _ => none
  | m + 1, p0 =>
  if p0 < 0 then (if p0 < (-4611686018427387904) then ((go_law20_digits m (wr (0 - (wr (Int.tdiv p0 10))))).bind fun y2 => (catI [45] y2).bind fun s4 => (go_law20_digits m (wr (0 - (Int.tmod p0 10)))).bind fun y5 => (catI s4 y5).bind fun s7 => some s7) else ((go_law20_digits m (wr (0 - p0))).bind fun y8 => (catI [45] y8).bind fun s10 => some s10)) else (if p0 < 10 then ((cutI [48, 49, 50, 51, 52, 53, 54, 55, 56, 57] p0 (wr (p0 + 1))).bind fun s11 => some s11) else ((go_law20_digits m (wr (Int.tdiv p0 10))).bind fun y12 => (go_law20_digits m (Int.tmod p0 10)).bind fun y14 => (catI y12 y14).bind fun s16 => some s16))
set_option maxRecDepth 100000 in
set_option maxHeartbeats 4000000 in
theorem go_law20_digits.walk {m : Nat} {w0 w : World} {X : List Res} {z0 : Zp} {p0 : Int} {r : Str} (hst : Ht w0 (frz z0 :: X) w) (hf : go_law20_digits m p0 = some r) :
    Calls Tryd.prog 21 #[vi p0] w fun e w' => ∃ (z' : Zp), e = .returned (vs r) ∧ Le z0 z' ∧ Ht w0 (frz z' :: X) w' := by
  induction m generalizing w0 w X z0 p0 r with
  | zero => cases hf
  | succ m ih =>
    refine calls_np Tryd.func21 rfl rfl ?_
    have hle0 := Le.refl z0
    unfold go_law20_digits at hf
    refine Run.seq ?_
    refine Run.region ?_
    refine Ops.ex (Ex.assign rfl) rfl rfl rfl ?_
    refine Ops.nil ?_
    refine Run.seq ?_
    refine Run.seq ?_
    refine Run.region ?_
    refine Ops.ex (Ex.move rfl) rfl rfl rfl ?_
    refine Ops.ex (Ex.lss rfl rfl) rfl rfl rfl ?_
    refine Ops.nil ?_
    refine Run.cond rfl (fun hc => ?_) (fun hc => ?_)
    · replace hf := ifT (dec_T hc) hf
      refine Run.seq ?_
      refine Run.seq ?_
      refine Run.region ?_
      refine Ops.ex (Ex.move rfl) rfl rfl rfl ?_
      refine Ops.ex (Ex.lss rfl rfl) rfl rfl rfl ?_
      refine Ops.nil ?_
      refine Run.cond rfl (fun hc => ?_) (fun hc => ?_)
      · replace hf := ifT (dec_T hc) hf
        refine Run.seq ?_
        refine Run.region ?_
        refine Ops.ex (Ex.move rfl) rfl rfl rfl ?_
        refine Ops.ex (Ex.quo rfl rfl (by decide)) rfl rfl rfl ?_
        refine Ops.ex (Ex.neg rfl) rfl rfl rfl ?_
        obtain ⟨y2, hy2, hf⟩ := bnd hf
        refine Ops.call rfl rfl Tryd.func21 (by kernel_rfl) (by kernel_rfl) rfl (ih (p0 := (wr (0 - (wr (Int.tdiv p0 10))))) (hst := hst) (hf := hy2)) ?_
        rintro _ w2 ⟨z2, rfl, hz2, hst2⟩
        refine ⟨_, rfl, ?_⟩
        replace hle0 := hle0.trans hz2
        obtain ⟨s4, hy4, hf⟩ := bnd hf
        refine Ops.ex (Ex.addT (s := [45]) hy4 rfl rfl) rfl rfl rfl ?_
        refine Ops.ex (Ex.move rfl) rfl rfl rfl ?_
        refine Ops.ex (Ex.rem rfl rfl (by decide)) rfl rfl rfl ?_
        refine Ops.ex (Ex.neg rfl) rfl rfl rfl ?_
        obtain ⟨y5, hy5, hf⟩ := bnd hf
        refine Ops.call rfl rfl Tryd.func21 (by kernel_rfl) (by kernel_rfl) rfl (ih (p0 := (wr (0 - (Int.tmod p0 10)))) (hst := hst2) (hf := hy5)) ?_
        rintro _ w5 ⟨z5, rfl, hz5, hst5⟩
        refine ⟨_, rfl, ?_⟩
        replace hle0 := hle0.trans hz5
        obtain ⟨s7, hy7, hf⟩ := bnd hf
        refine Ops.ex (Ex.addT hy7 rfl rfl) rfl rfl rfl ?_
        refine Ops.ex (Ex.assign rfl) rfl rfl rfl ?_
        refine Ops.nil ?_
        obtain rfl := Option.some.inj hf
        exact Run.retV [vs s7] rfl ⟨rfl, trivial⟩ ⟨z5, rfl, hle0, hst5⟩
      · replace hf := ifF (dec_F hc) hf
        refine Run.skip ?_
        refine Run.seq ?_
        refine Run.region ?_
        refine Ops.ex (Ex.move rfl) rfl rfl rfl ?_
        refine Ops.ex (Ex.neg rfl) rfl rfl rfl ?_
        obtain ⟨y8, hy8, hf⟩ := bnd hf
        refine Ops.call rfl rfl Tryd.func21 (by kernel_rfl) (by kernel_rfl) rfl (ih (p0 := (wr (0 - p0))) (hst := hst) (hf := hy8)) ?_
        rintro _ w8 ⟨z8, rfl, hz8, hst8⟩
        refine ⟨_, rfl, ?_⟩
        replace hle0 := hle0.trans hz8
        obtain ⟨s10, hy10, hf⟩ := bnd hf
        refine Ops.ex (Ex.addT (s := [45]) hy10 rfl rfl) rfl rfl rfl ?_
        refine Ops.ex (Ex.assign rfl) rfl rfl rfl ?_
        refine Ops.nil ?_
        obtain rfl := Option.some.inj hf
        exact Run.retV [vs s10] rfl ⟨rfl, trivial⟩ ⟨z8, rfl, hle0, hst8⟩
    · replace hf := ifF (dec_F hc) hf
      refine Run.skip ?_
      refine Run.seq ?_
      refine Run.seq ?_
      refine Run.region ?_
      refine Ops.ex (Ex.move rfl) rfl rfl rfl ?_
      refine Ops.ex (Ex.lss rfl rfl) rfl rfl rfl ?_
      refine Ops.nil ?_
      refine Run.cond rfl (fun hc => ?_) (fun hc => ?_)
      · replace hf := ifT (dec_T hc) hf
        refine Run.seq ?_
        refine Run.region ?_
        refine Ops.ex (Ex.move rfl) rfl rfl rfl ?_
        refine Ops.ex (Ex.move rfl) rfl rfl rfl ?_
        refine Ops.ex (Ex.add rfl rfl) rfl rfl rfl ?_
        obtain ⟨s11, hy11, hf⟩ := bnd hf
        refine Ops.ex (Ex.cutT (s := [48, 49, 50, 51, 52, 53, 54, 55, 56, 57]) hy11 rfl Tryd.underlying9 rfl rfl) rfl rfl rfl ?_
        refine Ops.ex (Ex.assign rfl) rfl rfl rfl ?_
        refine Ops.nil ?_
        obtain rfl := Option.some.inj hf
        exact Run.retV [vs s11] rfl ⟨rfl, trivial⟩ ⟨z0, rfl, hle0, hst⟩
      · replace hf := ifF (dec_F hc) hf
        refine Run.skip ?_
        refine Run.seq ?_
        refine Run.region ?_
        refine Ops.ex (Ex.move rfl) rfl rfl rfl ?_
        refine Ops.ex (Ex.quo rfl rfl (by decide)) rfl rfl rfl ?_
        obtain ⟨y12, hy12, hf⟩ := bnd hf
        refine Ops.call rfl rfl Tryd.func21 (by kernel_rfl) (by kernel_rfl) rfl (ih (p0 := (wr (Int.tdiv p0 10))) (hst := hst) (hf := hy12)) ?_
        rintro _ w12 ⟨z12, rfl, hz12, hst12⟩
        refine ⟨_, rfl, ?_⟩
        replace hle0 := hle0.trans hz12
        refine Ops.ex (Ex.move rfl) rfl rfl rfl ?_
        refine Ops.ex (Ex.rem rfl rfl (by decide)) rfl rfl rfl ?_
        obtain ⟨y14, hy14, hf⟩ := bnd hf
        refine Ops.call rfl rfl Tryd.func21 (by kernel_rfl) (by kernel_rfl) rfl (ih (p0 := (Int.tmod p0 10)) (hst := hst12) (hf := hy14)) ?_
        rintro _ w14 ⟨z14, rfl, hz14, hst14⟩
        refine ⟨_, rfl, ?_⟩
        replace hle0 := hle0.trans hz14
        obtain ⟨s16, hy16, hf⟩ := bnd hf
        refine Ops.ex (Ex.addT hy16 rfl rfl) rfl rfl rfl ?_
        refine Ops.ex (Ex.assign rfl) rfl rfl rfl ?_
        refine Ops.nil ?_
        obtain rfl := Option.some.inj hf
        exact Run.retV [vs s16] rfl ⟨rfl, trivial⟩ ⟨z14, rfl, hle0, hst14⟩
def go_view_row (p0 : List Str) : Option Str :=
  (VM.join p0 [32]).bind fun y2 => (catI y2 [10]).bind fun s4 => some s4
set_option maxRecDepth 100000 in
set_option maxHeartbeats 4000000 in
theorem go_view_row.walk {w0 w : World} {X : List Res} {z0 : Zp} {p0 : List Str} {A1 : Option Addr} {c1 : Nat} {r : Str} (hst : Ht w0 (frz z0 :: X) w) (f1 : Sl tS z0 A1 c1 p0) (hf : go_view_row p0 = some r) :
    Calls Tryd.prog 18 #[.slice A1 p0.length c1] w fun e w' => ∃ (z' : Zp), e = .returned (vs r) ∧ Le z0 z' ∧ Ht w0 (frz z' :: X) w' := by
  refine calls_np Tryd.func18 rfl rfl ?_
  have hle0 := Le.refl z0
  unfold go_view_row at hf
  refine Run.seq ?_
  refine Run.region ?_
  refine Ops.ex (Ex.assign rfl) rfl rfl rfl ?_
  refine Ops.nil ?_
  refine Run.seq ?_
  refine Run.region ?_
  refine Ops.ex (Ex.move rfl) rfl rfl rfl ?_
  obtain ⟨y2, hy2, hf⟩ := bnd hf
  refine Ops.call rfl rfl Tryd.func28 (by kernel_rfl) (by kernel_rfl) rfl (VM.join.walk (p0 := p0) (p1 := [32]) (hst := hst) (f0 := f1) (hf := hy2)) ?_
  rintro _ w2 ⟨z2, rfl, hz2, hst2⟩
  refine ⟨_, rfl, ?_⟩
  replace f1 := f1.mono hz2
  replace hle0 := hle0.trans hz2
  obtain ⟨s4, hy4, hf⟩ := bnd hf
  refine Ops.ex (Ex.addT (t := [10]) hy4 rfl rfl) rfl rfl rfl ?_
  refine Ops.ex (Ex.assign rfl) rfl rfl rfl ?_
  refine Ops.nil ?_
  obtain rfl := Option.some.inj hf
  exact Run.retV [vs s4] rfl ⟨rfl, trivial⟩ ⟨z2, rfl, hle0, hst2⟩
def go_view_Node.j2 (p0 : nodeNode) (s31 : Str) : Option Str :=
  (VM.itoa p0.ID).bind fun y39 => (VM.itoa p0.Term).bind fun y41 => (go_rlog_Log_Last p0.Log).bind fun y43 => (VM.itoa y43).bind fun y45 => (VM.itoa p0.Commit).bind fun y47 => (go_view_row ([[110, 111, 100, 101], y39, s31, y41, y45, y47])).bind fun y50 => some y50
def go_view_Node.j1 (p0 : nodeNode) (b22 : Bool) : Option Str :=
  if b22 then ((atI ([[102, 111, 108, 108, 111, 119, 101, 114], [99, 97, 110, 100, 105, 100, 97, 116, 101], [108, 101, 97, 100, 101, 114]]) p0.Role).bind fun y33 => go_view_Node.j2 p0 y33) else (go_view_Node.j2 p0 [45])
def go_view_Node (p0 : nodeNode) : Option Str :=
  if 0 ≤ p0.Role then (go_view_Node.j1 p0 (decide (p0.Role ≤ 2))) else (go_view_Node.j1 p0 false)
set_option maxRecDepth 100000 in
set_option maxHeartbeats 4000000 in
theorem go_view_Node.walk {w0 w : World} {X : List Res} {z0 : Zp} {p0 : nodeNode} {A6 : Option Addr} {c6 : Nat} {r : Str} (hst : Ht w0 (frz z0 :: X) w) (f6 : Sl tapiEntry z0 A6 c6 p0.Log.Entries) (hT : VM.TB z0) (hf : go_view_Node p0 = some r) :
    Calls Tryd.prog 8 #[.agg #[vi p0.ID, vi p0.Term, vi p0.Vote, vi p0.Log.Base, vi p0.Log.Term, .slice A6 p0.Log.Entries.length c6, vi p0.Role, vi p0.Commit, vb p0.Votes.E0, vb p0.Votes.E1, vb p0.Votes.E2, vi p0.Match.E0, vi p0.Match.E1, vi p0.Match.E2, vi p0.Next.E0, vi p0.Next.E1, vi p0.Next.E2, vi p0.Quiet]] w fun e w' => ∃ (z' : Zp), e = .returned (vs r) ∧ Le z0 z' ∧ Ht w0 (frz z' :: X) w' := by
  refine calls_np Tryd.func8 rfl rfl ?_
  have hle0 := Le.refl z0
  unfold go_view_Node at hf
  refine Run.seq ?_
  refine Run.region ?_
  refine Ops.boxF [vi p0.ID, vi p0.Term, vi p0.Vote, vi p0.Log.Base, vi p0.Log.Term, .slice A6 p0.Log.Entries.length c6, vi p0.Role, vi p0.Commit, vb p0.Votes.E0, vb p0.Votes.E1, vb p0.Votes.E2, vi p0.Match.E0, vi p0.Match.E1, vi p0.Match.E2, vi p0.Next.E0, vi p0.Next.E1, vi p0.Next.E2, vi p0.Quiet] hst rfl rfl rfl (fun g19 w19 hst19 => ?_)
  refine Ops.ex (Ex.assign rfl) rfl rfl rfl ?_
  refine Ops.nil ?_
  refine Run.seq ?_
  refine Run.region ?_
  refine Ops.ex (Ex.assign rfl) rfl rfl rfl ?_
  refine Ops.nil ?_
  refine Run.seq ?_
  refine Run.seq ?_
  apply Run.jn (fun e' w' => ∃ (b22 : Bool) (z21 : Zp), go_view_Node.j1 p0 b22 = some r ∧ e' = [(1, .pointer (some ⟨g19, 0, none⟩)), (3, vs [45]), (11, vb b22)] ∧ Le z0 z21 ∧ Ht w0 (frz z21 :: (blk g19 [vi p0.ID, vi p0.Term, vi p0.Vote, vi p0.Log.Base, vi p0.Log.Term, .slice A6 p0.Log.Entries.length c6, vi p0.Role, vi p0.Commit, vb p0.Votes.E0, vb p0.Votes.E1, vb p0.Votes.E2, vi p0.Match.E0, vi p0.Match.E1, vi p0.Match.E2, vi p0.Next.E0, vi p0.Next.E1, vi p0.Next.E2, vi p0.Quiet] 31) :: X) w')
  · intro hj20
    refine Run.region ?_
    refine Ops.ex (Ex.fieldAddr rfl Tryd.underlying31 rfl sz24) rfl rfl rfl ?_
    refine Ops.load rfl Tryd.underlying24 rfl (hst19.cell (i := 1) rfl rfl) rfl ?_
    refine Ops.ex (Ex.geq rfl rfl) rfl rfl rfl ?_
    refine Ops.ex (Ex.move rfl) rfl rfl rfl ?_
    refine Ops.case 7 rfl (fun hc => ?_) (fun hc => ?_)
    · replace hf := ifT (dec_T hc) hf
      refine Ops.on rfl ?_
      refine Ops.ex (Ex.fieldAddr rfl Tryd.underlying31 rfl sz24) rfl rfl rfl ?_
      refine Ops.on rfl ?_
      refine Ops.load rfl Tryd.underlying24 rfl (hst19.cell (i := 1) rfl rfl) rfl ?_
      refine Ops.on rfl ?_
      refine Ops.ex (Ex.leq rfl rfl) rfl rfl rfl ?_
      refine Ops.ex (Ex.pickT rfl rfl) rfl rfl rfl ?_
      refine Ops.nil ?_
      exact Run.sub (by exact subB_spec ⟨rfl, rfl, rfl, trivial⟩) (hj20 _ _ ⟨decide (p0.Role ≤ 2), z0, hf, rfl, hle0, hst19⟩)
    · replace hf := ifF (dec_F hc) hf
      refine Ops.off rfl rfl ?_
      refine Ops.off rfl rfl ?_
      refine Ops.off rfl rfl ?_
      refine Ops.ex (Ex.pickF rfl rfl) rfl rfl rfl ?_
      refine Ops.nil ?_
      exact Run.sub (by exact subB_spec ⟨rfl, rfl, rfl, trivial⟩) (hj20 _ _ ⟨false, z0, hf, rfl, hle0, hst19⟩)
  · rintro e' w23 ⟨b22, z21, hf, rfl, hz23, hst23⟩
    replace f6 := f6.mono hz23; replace hT := hT.mono hz23
    unfold go_view_Node.j1 at hf
    have hm29 := Le.refl z21
    apply Run.jn (fun e' w' => ∃ (s31 : Str) (z30 : Zp), go_view_Node.j2 p0 s31 = some r ∧ e' = [(1, .pointer (some ⟨g19, 0, none⟩)), (3, vs s31)] ∧ Le z21 z30 ∧ Le z0 z30 ∧ Ht w0 (frz z30 :: (blk g19 [vi p0.ID, vi p0.Term, vi p0.Vote, vi p0.Log.Base, vi p0.Log.Term, .slice A6 p0.Log.Entries.length c6, vi p0.Role, vi p0.Commit, vb p0.Votes.E0, vb p0.Votes.E1, vb p0.Votes.E2, vi p0.Match.E0, vi p0.Match.E1, vi p0.Match.E2, vi p0.Next.E0, vi p0.Next.E1, vi p0.Next.E2, vi p0.Quiet] 31) :: X) w')
    · intro hj24
      refine Run.cond rfl (fun hc => ?_) (fun hc => ?_)
      · replace hf := ifTb hc hf
        refine Run.region ?_
        refine Ops.sliceF [vs [102, 111, 108, 108, 111, 119, 101, 114], vs [99, 97, 110, 100, 105, 100, 97, 116, 101], vs [108, 101, 97, 100, 101, 114]] hst23 rfl Tryd.underlying60 sz9 zr9 rfl rfl (by kernel_rfl) rfl (by simp [Value.oneCell']) rfl (fun A32 w32 hst32 => ?_)
        have f32 : Cs tS z21 [vs [102, 111, 108, 108, 111, 119, 101, 114], vs [99, 97, 110, 100, 105, 100, 97, 116, 101], vs [108, 101, 97, 100, 101, 114]] [[102, 111, 108, 108, 111, 119, 101, 114], [99, 97, 110, 100, 105, 100, 97, 116, 101], [108, 101, 97, 100, 101, 114]] := (Cs.cons (c := [vs [102, 111, 108, 108, 111, 119, 101, 114]]) rfl (Cs.cons (c := [vs [99, 97, 110, 100, 105, 100, 97, 116, 101]]) rfl (Cs.cons (c := [vs [108, 101, 97, 100, 101, 114]]) rfl (Cs.nil _ _))))
        refine Ops.ex (Ex.fieldAddr rfl Tryd.underlying31 rfl sz24) rfl rfl rfl ?_
        refine Ops.load rfl Tryd.underlying24 rfl (hst32.cell (i := 2) rfl rfl) rfl ?_
        obtain ⟨y33, hy33, hf⟩ := bnd hf
        obtain ⟨g35, p35, o35, cs35, hA35, ho35, hr35, f35⟩ := own_elem f32 rfl (hst32.get (i := 1) rfl) hy33
        obtain rfl := hr35
        refine Ops.ex (Ex.ixA hA35 ho35 hy33 rfl rfl rfl Tryd.underlying60 sz9) rfl rfl rfl ?_
        refine Ops.load rfl Tryd.underlying9 rfl ((f35 _ (hst32.get (i := 1) rfl)) 0 _ rfl) rfl ?_
        refine Ops.ex (Ex.assign rfl) rfl rfl rfl ?_
        refine Ops.nil ?_
        exact Run.sub (by exact subB_spec ⟨rfl, rfl, trivial⟩) (hj24 _ _ ⟨y33, z21, hf, rfl, hm29, hz23, (St.forget hst32 1)⟩)
      · replace hf := ifFb hc hf
        refine Run.skip ?_
        exact Run.sub (by exact subB_spec ⟨rfl, rfl, trivial⟩) (hj24 _ _ ⟨[45], z21, hf, rfl, hm29, hz23, hst23⟩)
    · rintro e' w36 ⟨s31, z30, hf, rfl, hz36, hy36_0, hst36⟩
      replace f6 := f6.mono hz36; replace hT := hT.mono hz36
      unfold go_view_Node.j2 at hf
      refine Run.seq ?_
      have hm38 := Le.refl z30
      refine Run.drawH [([], fun w => ∃ ζ Y, Le z30 ζ ∧ Ht w0 (frz ζ :: (blk g19 [vi p0.ID, vi p0.Term, vi p0.Vote, vi p0.Log.Base, vi p0.Log.Term, .slice A6 p0.Log.Entries.length c6, vi p0.Role, vi p0.Commit, vb p0.Votes.E0, vb p0.Votes.E1, vb p0.Votes.E2, vi p0.Match.E0, vi p0.Match.E1, vi p0.Match.E2, vi p0.Next.E0, vi p0.Next.E1, vi p0.Next.E2, vi p0.Quiet] 31) :: Y) w)] (by kernel_rfl) hst36 (fun w37 hst37 => ?_)
      have hS0 := (⟨_, _, (Le.refl _), (St.up (St.up hst37 1 rfl) 1 rfl)⟩ : (fun w => ∃ ζ Y, Le z30 ζ ∧ Ht w0 (frz ζ :: (blk g19 [vi p0.ID, vi p0.Term, vi p0.Vote, vi p0.Log.Base, vi p0.Log.Term, .slice A6 p0.Log.Entries.length c6, vi p0.Role, vi p0.Commit, vb p0.Votes.E0, vb p0.Votes.E1, vb p0.Votes.E2, vi p0.Match.E0, vi p0.Match.E1, vi p0.Match.E2, vi p0.Next.E0, vi p0.Next.E1, vi p0.Next.E2, vi p0.Quiet] 31) :: Y) w) _)
      refine Any.takeE 0 rfl rfl rfl rfl (by kernel_rfl) (fun _ _ _ _ _ h => h) ((Ex.fieldAddr rfl Tryd.underlying31 rfl sz3).s) ?_
      refine Any.take 0 1 rfl rfl rfl rfl rfl (by kernel_rfl) (fun _ _ _ _ _ h => h) (ExS.load rfl Tryd.underlying3 rfl (fun w hS => by obtain ⟨_, _, _, hs⟩ := hS; exact hs.cell (i := 1) rfl rfl)) hS0 ?_
      refine Any.takeE 3 rfl rfl rfl rfl (by kernel_rfl) (fun _ _ _ _ _ h => h) ((Ex.move rfl).s) ?_
      refine Any.takeE 4 rfl rfl rfl rfl (by kernel_rfl) (fun _ _ _ _ _ h => h) ((Ex.fieldAddr rfl Tryd.underlying31 rfl sz3).s) ?_
      refine Any.take 0 5 rfl rfl rfl rfl rfl (by kernel_rfl) (fun _ _ _ _ _ h => h) (ExS.load rfl Tryd.underlying3 rfl (fun w hS => by obtain ⟨_, _, _, hs⟩ := hS; exact hs.cell (i := 1) rfl rfl)) hS0 ?_
      refine Any.takeE 7 rfl rfl rfl rfl (by kernel_rfl) (fun _ _ _ _ _ h => h) ((Ex.fieldAddr rfl Tryd.underlying31 rfl sz27).s) ?_
      refine Any.take 0 8 rfl rfl rfl rfl rfl (by kernel_rfl) (fun _ _ _ _ _ h => h) (ExS.loadAgg [vi p0.Log.Base, vi p0.Log.Term, .slice A6 p0.Log.Entries.length c6] rfl Tryd.underlying27 rfl sz27 rfl (fun w hS => by obtain ⟨_, _, _, hs⟩ := hS; exact hs.cells (i := 1) rfl 3 3)) hS0 ?_
      refine Any.takeE 11 rfl rfl rfl rfl (by kernel_rfl) (fun _ _ _ _ _ h => h) ((Ex.fieldAddr rfl Tryd.underlying31 rfl sz3).s) ?_
      refine Any.take 0 12 rfl rfl rfl rfl rfl (by kernel_rfl) (fun _ _ _ _ _ h => h) (ExS.load rfl Tryd.underlying3 rfl (fun w hS => by obtain ⟨_, _, _, hs⟩ := hS; exact hs.cell (i := 1) rfl rfl)) hS0 ?_
      obtain ⟨y39, hy39, hf⟩ := bnd hf
      refine Any.one 2 (by kernel_rfl) rfl rfl (One.of_ops rfl ?_)
      refine Ops.call rfl rfl Tryd.func19 (by kernel_rfl) (by kernel_rfl) rfl (VM.itoa.walk (p0 := p0.ID) (hst := hst37) (hT := hT) (hf := hy39)) ?_
      rintro _ w39 ⟨z39, rfl, hz39, hst39⟩
      refine ⟨_, rfl, Ops.stop ?_⟩
      replace f6 := f6.mono hz39; replace hT := hT.mono hz39
      replace hy36_0 := hy36_0.trans hz39
      replace hz36 := hz36.trans hz39
      replace hm38 := hm38.trans hz39
      have hS0 := (⟨_, _, hm38, (St.up (St.up hst39 1 rfl) 1 rfl)⟩ : (fun w => ∃ ζ Y, Le z30 ζ ∧ Ht w0 (frz ζ :: (blk g19 [vi p0.ID, vi p0.Term, vi p0.Vote, vi p0.Log.Base, vi p0.Log.Term, .slice A6 p0.Log.Entries.length c6, vi p0.Role, vi p0.Commit, vb p0.Votes.E0, vb p0.Votes.E1, vb p0.Votes.E2, vi p0.Match.E0, vi p0.Match.E1, vi p0.Match.E2, vi p0.Next.E0, vi p0.Next.E1, vi p0.Next.E2, vi p0.Quiet] 31) :: Y) w) _)
      refine ⟨⟨.inr (fun _ => hS0), trivial⟩, ?_⟩
      obtain ⟨y41, hy41, hf⟩ := bnd hf
      refine Any.one 6 (by kernel_rfl) rfl rfl (One.of_ops rfl ?_)
      refine Ops.call rfl rfl Tryd.func19 (by kernel_rfl) (by kernel_rfl) rfl (VM.itoa.walk (p0 := p0.Term) (hst := hst39) (hT := hT) (hf := hy41)) ?_
      rintro _ w41 ⟨z41, rfl, hz41, hst41⟩
      refine ⟨_, rfl, Ops.stop ?_⟩
      replace f6 := f6.mono hz41; replace hT := hT.mono hz41
      replace hy36_0 := hy36_0.trans hz41
      replace hz36 := hz36.trans hz41
      replace hm38 := hm38.trans hz41
      have hS0 := (⟨_, _, hm38, (St.up (St.up hst41 1 rfl) 1 rfl)⟩ : (fun w => ∃ ζ Y, Le z30 ζ ∧ Ht w0 (frz ζ :: (blk g19 [vi p0.ID, vi p0.Term, vi p0.Vote, vi p0.Log.Base, vi p0.Log.Term, .slice A6 p0.Log.Entries.length c6, vi p0.Role, vi p0.Commit, vb p0.Votes.E0, vb p0.Votes.E1, vb p0.Votes.E2, vi p0.Match.E0, vi p0.Match.E1, vi p0.Match.E2, vi p0.Next.E0, vi p0.Next.E1, vi p0.Next.E2, vi p0.Quiet] 31) :: Y) w) _)
      refine ⟨⟨.inr (fun _ => hS0), trivial⟩, ?_⟩
      obtain ⟨y43, hy43, hf⟩ := bnd hf
      refine Any.one 9 (by kernel_rfl) rfl rfl (One.of_ops rfl ?_)
      refine Ops.call rfl rfl Tryd.func20 (by kernel_rfl) (by kernel_rfl) rfl (go_rlog_Log_Last.walk (p0 := p0.Log) (hst := hst41) (f3 := f6) (hf := hy43)) ?_
      rintro _ w43 ⟨z43, rfl, hz43, hst43⟩
      refine ⟨_, rfl, Ops.stop ?_⟩
      replace f6 := f6.mono hz43; replace hT := hT.mono hz43
      replace hy36_0 := hy36_0.trans hz43
      replace hz36 := hz36.trans hz43
      replace hm38 := hm38.trans hz43
      have hS0 := (⟨_, _, hm38, (St.up (St.up hst43 1 rfl) 1 rfl)⟩ : (fun w => ∃ ζ Y, Le z30 ζ ∧ Ht w0 (frz ζ :: (blk g19 [vi p0.ID, vi p0.Term, vi p0.Vote, vi p0.Log.Base, vi p0.Log.Term, .slice A6 p0.Log.Entries.length c6, vi p0.Role, vi p0.Commit, vb p0.Votes.E0, vb p0.Votes.E1, vb p0.Votes.E2, vi p0.Match.E0, vi p0.Match.E1, vi p0.Match.E2, vi p0.Next.E0, vi p0.Next.E1, vi p0.Next.E2, vi p0.Quiet] 31) :: Y) w) _)
      refine ⟨⟨.inr (fun _ => hS0), trivial⟩, ?_⟩
      obtain ⟨y45, hy45, hf⟩ := bnd hf
      refine Any.one 10 (by kernel_rfl) rfl rfl (One.of_ops rfl ?_)
      refine Ops.call rfl rfl Tryd.func19 (by kernel_rfl) (by kernel_rfl) rfl (VM.itoa.walk (p0 := y43) (hst := hst43) (hT := hT) (hf := hy45)) ?_
      rintro _ w45 ⟨z45, rfl, hz45, hst45⟩
      refine ⟨_, rfl, Ops.stop ?_⟩
      replace f6 := f6.mono hz45; replace hT := hT.mono hz45
      replace hy36_0 := hy36_0.trans hz45
      replace hz36 := hz36.trans hz45
      replace hm38 := hm38.trans hz45
      have hS0 := (⟨_, _, hm38, (St.up (St.up hst45 1 rfl) 1 rfl)⟩ : (fun w => ∃ ζ Y, Le z30 ζ ∧ Ht w0 (frz ζ :: (blk g19 [vi p0.ID, vi p0.Term, vi p0.Vote, vi p0.Log.Base, vi p0.Log.Term, .slice A6 p0.Log.Entries.length c6, vi p0.Role, vi p0.Commit, vb p0.Votes.E0, vb p0.Votes.E1, vb p0.Votes.E2, vi p0.Match.E0, vi p0.Match.E1, vi p0.Match.E2, vi p0.Next.E0, vi p0.Next.E1, vi p0.Next.E2, vi p0.Quiet] 31) :: Y) w) _)
      refine ⟨⟨.inr (fun _ => hS0), trivial⟩, ?_⟩
      obtain ⟨y47, hy47, hf⟩ := bnd hf
      refine Any.one 13 (by kernel_rfl) rfl rfl (One.of_ops rfl ?_)
      refine Ops.call rfl rfl Tryd.func19 (by kernel_rfl) (by kernel_rfl) rfl (VM.itoa.walk (p0 := p0.Commit) (hst := hst45) (hT := hT) (hf := hy47)) ?_
      rintro _ w47 ⟨z47, rfl, hz47, hst47⟩
      refine ⟨_, rfl, Ops.stop ?_⟩
      replace f6 := f6.mono hz47; replace hT := hT.mono hz47
      replace hy36_0 := hy36_0.trans hz47
      replace hz36 := hz36.trans hz47
      replace hm38 := hm38.trans hz47
      have hS0 := (⟨_, _, hm38, (St.up (St.up hst47 1 rfl) 1 rfl)⟩ : (fun w => ∃ ζ Y, Le z30 ζ ∧ Ht w0 (frz ζ :: (blk g19 [vi p0.ID, vi p0.Term, vi p0.Vote, vi p0.Log.Base, vi p0.Log.Term, .slice A6 p0.Log.Entries.length c6, vi p0.Role, vi p0.Commit, vb p0.Votes.E0, vb p0.Votes.E1, vb p0.Votes.E2, vi p0.Match.E0, vi p0.Match.E1, vi p0.Match.E2, vi p0.Next.E0, vi p0.Next.E1, vi p0.Next.E2, vi p0.Quiet] 31) :: Y) w) _)
      refine ⟨⟨.inr (fun _ => hS0), trivial⟩, ?_⟩
      refine Any.one 14 (by kernel_rfl) rfl rfl (One.of_ops rfl ?_)
      refine Ops.sliceF [vs [110, 111, 100, 101], vs y39, vs s31, vs y41, vs y45, vs y47] hst47 rfl Tryd.underlying60 sz9 zr9 rfl rfl (by kernel_rfl) rfl (by simp [Value.oneCell']) rfl (fun A49 w49 hst49 => Ops.stop ?_)
      have f49 : Cs tS z47 [vs [110, 111, 100, 101], vs y39, vs s31, vs y41, vs y45, vs y47] [[110, 111, 100, 101], y39, s31, y41, y45, y47] := (Cs.cons (c := [vs [110, 111, 100, 101]]) rfl (Cs.cons (c := [vs y39]) rfl (Cs.cons (c := [vs s31]) rfl (Cs.cons (c := [vs y41]) rfl (Cs.cons (c := [vs y45]) rfl (Cs.cons (c := [vs y47]) rfl (Cs.nil _ _)))))))
      have hS0 := (⟨_, _, hm38, (St.up (St.up hst49 2 rfl) 1 rfl)⟩ : (fun w => ∃ ζ Y, Le z30 ζ ∧ Ht w0 (frz ζ :: (blk g19 [vi p0.ID, vi p0.Term, vi p0.Vote, vi p0.Log.Base, vi p0.Log.Term, .slice A6 p0.Log.Entries.length c6, vi p0.Role, vi p0.Commit, vb p0.Votes.E0, vb p0.Votes.E1, vb p0.Votes.E2, vi p0.Match.E0, vi p0.Match.E1, vi p0.Match.E2, vi p0.Next.E0, vi p0.Next.E1, vi p0.Next.E2, vi p0.Quiet] 31) :: Y) w) _)
      refine ⟨⟨.inr (fun _ => hS0), trivial⟩, ?_⟩
      obtain ⟨z51, hz51, f51, hst51, hu51⟩ := St.lend (τ := tS) (xs := ([[110, 111, 100, 101], y39, s31, y41, y45, y47])) hst49 f49 rfl
      obtain ⟨y50, hy50, hf⟩ := bnd hf
      refine Any.one 15 (by kernel_rfl) rfl rfl (One.of_ops rfl ?_)
      refine Ops.call rfl rfl Tryd.func18 (by kernel_rfl) (by kernel_rfl) rfl (go_view_row.walk (p0 := ([[110, 111, 100, 101], y39, s31, y41, y45, y47])) (hst := hst51) (f1 := f51) (hf := hy50)) ?_
      rintro _ w50 ⟨z50, rfl, hz50, hst50⟩
      obtain ⟨z53, hz53, hst53⟩ := hu51 _ _ _ hz50 hst50
      refine ⟨_, rfl, Ops.stop ?_⟩
      replace f6 := f6.mono hz53; replace f49 := f49.mono hz53; replace hT := hT.mono hz53
      replace hy36_0 := hy36_0.trans hz53
      replace hz36 := hz36.trans hz53
      replace hm38 := hm38.trans hz53
      have hS0 := (⟨_, _, hm38, (St.up (St.up hst53 2 rfl) 1 rfl)⟩ : (fun w => ∃ ζ Y, Le z30 ζ ∧ Ht w0 (frz ζ :: (blk g19 [vi p0.ID, vi p0.Term, vi p0.Vote, vi p0.Log.Base, vi p0.Log.Term, .slice A6 p0.Log.Entries.length c6, vi p0.Role, vi p0.Commit, vb p0.Votes.E0, vb p0.Votes.E1, vb p0.Votes.E2, vi p0.Match.E0, vi p0.Match.E1, vi p0.Match.E2, vi p0.Next.E0, vi p0.Next.E1, vi p0.Next.E2, vi p0.Quiet] 31) :: Y) w) _)
      refine ⟨⟨.inr (fun _ => hS0), trivial⟩, ?_⟩
      refine Any.takeE 16 rfl rfl rfl rfl (by kernel_rfl) (fun _ _ _ _ _ h => h) ((Ex.assign rfl).s) ?_
      refine Any.done (by kernel_rfl) ?_
      obtain rfl := Option.some.inj hf
      exact Run.retV [vs y50] rfl ⟨rfl, trivial⟩ ⟨z53, rfl, hy36_0, (St.forget (St.forget hst53 2) 1)⟩
def go_law20_line.j2 (p0 : nodeNode) (s31 : Str) : Option Str :=
  (go_law20_digits 40 p0.ID).bind fun y39 => (catI [110, 111, 100, 101, 32] y39).bind fun s41 => (catI s41 [32]).bind fun s42 => (catI s42 s31).bind fun s43 => (catI s43 [32]).bind fun s44 => (go_law20_digits 40 p0.Term).bind fun y45 => (catI s44 y45).bind fun s47 => (catI s47 [32]).bind fun s48 => (go_rlog_Log_Last p0.Log).bind fun y49 => (go_law20_digits 40 y49).bind fun y51 => (catI s48 y51).bind fun s53 => (catI s53 [32]).bind fun s54 => (go_law20_digits 40 p0.Commit).bind fun y55 => (catI s54 y55).bind fun s57 => (catI s57 [10]).bind fun s58 => some s58
def go_law20_line.j1 (p0 : nodeNode) (b22 : Bool) : Option Str :=
  if b22 then ((atI ([[102, 111, 108, 108, 111, 119, 101, 114], [99, 97, 110, 100, 105, 100, 97, 116, 101], [108, 101, 97, 100, 101, 114]]) p0.Role).bind fun y33 => go_law20_line.j2 p0 y33) else (go_law20_line.j2 p0 [45])
def go_law20_line (p0 : nodeNode) : Option Str :=
  if 0 ≤ p0.Role then (go_law20_line.j1 p0 (decide (p0.Role < 3))) else (go_law20_line.j1 p0 false)
set_option maxRecDepth 100000 in
set_option maxHeartbeats 4000000 in
theorem go_law20_line.walk {w0 w : World} {X : List Res} {z0 : Zp} {p0 : nodeNode} {A6 : Option Addr} {c6 : Nat} {r : Str} (hst : Ht w0 (frz z0 :: X) w) (f6 : Sl tapiEntry z0 A6 c6 p0.Log.Entries) (hf : go_law20_line p0 = some r) :
    Calls Tryd.prog 9 #[.agg #[vi p0.ID, vi p0.Term, vi p0.Vote, vi p0.Log.Base, vi p0.Log.Term, .slice A6 p0.Log.Entries.length c6, vi p0.Role, vi p0.Commit, vb p0.Votes.E0, vb p0.Votes.E1, vb p0.Votes.E2, vi p0.Match.E0, vi p0.Match.E1, vi p0.Match.E2, vi p0.Next.E0, vi p0.Next.E1, vi p0.Next.E2, vi p0.Quiet]] w fun e w' => ∃ (z' : Zp), e = .returned (vs r) ∧ Le z0 z' ∧ Ht w0 (frz z' :: X) w' := by
  refine calls_np Tryd.func9 rfl rfl ?_
  have hle0 := Le.refl z0
  unfold go_law20_line at hf
  refine Run.seq ?_
  refine Run.region ?_
  refine Ops.boxF [vi p0.ID, vi p0.Term, vi p0.Vote, vi p0.Log.Base, vi p0.Log.Term, .slice A6 p0.Log.Entries.length c6, vi p0.Role, vi p0.Commit, vb p0.Votes.E0, vb p0.Votes.E1, vb p0.Votes.E2, vi p0.Match.E0, vi p0.Match.E1, vi p0.Match.E2, vi p0.Next.E0, vi p0.Next.E1, vi p0.Next.E2, vi p0.Quiet] hst rfl rfl rfl (fun g19 w19 hst19 => ?_)
  refine Ops.ex (Ex.assign rfl) rfl rfl rfl ?_
  refine Ops.nil ?_
  refine Run.seq ?_
  refine Run.region ?_
  refine Ops.ex (Ex.assign rfl) rfl rfl rfl ?_
  refine Ops.nil ?_
  refine Run.seq ?_
  refine Run.seq ?_
  apply Run.jn (fun e' w' => ∃ (b22 : Bool) (z21 : Zp), go_law20_line.j1 p0 b22 = some r ∧ e' = [(1, .pointer (some ⟨g19, 0, none⟩)), (3, vs [45]), (11, vb b22)] ∧ Le z0 z21 ∧ Ht w0 (frz z21 :: (blk g19 [vi p0.ID, vi p0.Term, vi p0.Vote, vi p0.Log.Base, vi p0.Log.Term, .slice A6 p0.Log.Entries.length c6, vi p0.Role, vi p0.Commit, vb p0.Votes.E0, vb p0.Votes.E1, vb p0.Votes.E2, vi p0.Match.E0, vi p0.Match.E1, vi p0.Match.E2, vi p0.Next.E0, vi p0.Next.E1, vi p0.Next.E2, vi p0.Quiet] 31) :: X) w')
  · intro hj20
    refine Run.region ?_
    refine Ops.ex (Ex.fieldAddr rfl Tryd.underlying31 rfl sz24) rfl rfl rfl ?_
    refine Ops.load rfl Tryd.underlying24 rfl (hst19.cell (i := 1) rfl rfl) rfl ?_
    refine Ops.ex (Ex.geq rfl rfl) rfl rfl rfl ?_
    refine Ops.ex (Ex.move rfl) rfl rfl rfl ?_
    refine Ops.case 7 rfl (fun hc => ?_) (fun hc => ?_)
    · replace hf := ifT (dec_T hc) hf
      refine Ops.on rfl ?_
      refine Ops.ex (Ex.fieldAddr rfl Tryd.underlying31 rfl sz24) rfl rfl rfl ?_
      refine Ops.on rfl ?_
      refine Ops.load rfl Tryd.underlying24 rfl (hst19.cell (i := 1) rfl rfl) rfl ?_
      refine Ops.on rfl ?_
      refine Ops.ex (Ex.lss rfl rfl) rfl rfl rfl ?_
      refine Ops.ex (Ex.pickT rfl rfl) rfl rfl rfl ?_
      refine Ops.nil ?_
      exact Run.sub (by exact subB_spec ⟨rfl, rfl, rfl, trivial⟩) (hj20 _ _ ⟨decide (p0.Role < 3), z0, hf, rfl, hle0, hst19⟩)
    · replace hf := ifF (dec_F hc) hf
      refine Ops.off rfl rfl ?_
      refine Ops.off rfl rfl ?_
      refine Ops.off rfl rfl ?_
      refine Ops.ex (Ex.pickF rfl rfl) rfl rfl rfl ?_
      refine Ops.nil ?_
      exact Run.sub (by exact subB_spec ⟨rfl, rfl, rfl, trivial⟩) (hj20 _ _ ⟨false, z0, hf, rfl, hle0, hst19⟩)
  · rintro e' w23 ⟨b22, z21, hf, rfl, hz23, hst23⟩
    replace f6 := f6.mono hz23
    unfold go_law20_line.j1 at hf
    have hm29 := Le.refl z21
    apply Run.jn (fun e' w' => ∃ (s31 : Str) (z30 : Zp), go_law20_line.j2 p0 s31 = some r ∧ e' = [(1, .pointer (some ⟨g19, 0, none⟩)), (3, vs s31)] ∧ Le z21 z30 ∧ Le z0 z30 ∧ Ht w0 (frz z30 :: (blk g19 [vi p0.ID, vi p0.Term, vi p0.Vote, vi p0.Log.Base, vi p0.Log.Term, .slice A6 p0.Log.Entries.length c6, vi p0.Role, vi p0.Commit, vb p0.Votes.E0, vb p0.Votes.E1, vb p0.Votes.E2, vi p0.Match.E0, vi p0.Match.E1, vi p0.Match.E2, vi p0.Next.E0, vi p0.Next.E1, vi p0.Next.E2, vi p0.Quiet] 31) :: X) w')
    · intro hj24
      refine Run.cond rfl (fun hc => ?_) (fun hc => ?_)
      · replace hf := ifTb hc hf
        refine Run.region ?_
        refine Ops.sliceF [vs [102, 111, 108, 108, 111, 119, 101, 114], vs [99, 97, 110, 100, 105, 100, 97, 116, 101], vs [108, 101, 97, 100, 101, 114]] hst23 rfl Tryd.underlying60 sz9 zr9 rfl rfl (by kernel_rfl) rfl (by simp [Value.oneCell']) rfl (fun A32 w32 hst32 => ?_)
        have f32 : Cs tS z21 [vs [102, 111, 108, 108, 111, 119, 101, 114], vs [99, 97, 110, 100, 105, 100, 97, 116, 101], vs [108, 101, 97, 100, 101, 114]] [[102, 111, 108, 108, 111, 119, 101, 114], [99, 97, 110, 100, 105, 100, 97, 116, 101], [108, 101, 97, 100, 101, 114]] := (Cs.cons (c := [vs [102, 111, 108, 108, 111, 119, 101, 114]]) rfl (Cs.cons (c := [vs [99, 97, 110, 100, 105, 100, 97, 116, 101]]) rfl (Cs.cons (c := [vs [108, 101, 97, 100, 101, 114]]) rfl (Cs.nil _ _))))
        refine Ops.ex (Ex.fieldAddr rfl Tryd.underlying31 rfl sz24) rfl rfl rfl ?_
        refine Ops.load rfl Tryd.underlying24 rfl (hst32.cell (i := 2) rfl rfl) rfl ?_
        obtain ⟨y33, hy33, hf⟩ := bnd hf
        obtain ⟨g35, p35, o35, cs35, hA35, ho35, hr35, f35⟩ := own_elem f32 rfl (hst32.get (i := 1) rfl) hy33
        obtain rfl := hr35
        refine Ops.ex (Ex.ixA hA35 ho35 hy33 rfl rfl rfl Tryd.underlying60 sz9) rfl rfl rfl ?_
        refine Ops.load rfl Tryd.underlying9 rfl ((f35 _ (hst32.get (i := 1) rfl)) 0 _ rfl) rfl ?_
        refine Ops.ex (Ex.assign rfl) rfl rfl rfl ?_
        refine Ops.nil ?_
        exact Run.sub (by exact subB_spec ⟨rfl, rfl, trivial⟩) (hj24 _ _ ⟨y33, z21, hf, rfl, hm29, hz23, (St.forget hst32 1)⟩)
      · replace hf := ifFb hc hf
        refine Run.skip ?_
        exact Run.sub (by exact subB_spec ⟨rfl, rfl, trivial⟩) (hj24 _ _ ⟨[45], z21, hf, rfl, hm29, hz23, hst23⟩)
    · rintro e' w36 ⟨s31, z30, hf, rfl, hz36, hy36_0, hst36⟩
      replace f6 := f6.mono hz36
      unfold go_law20_line.j2 at hf
      refine Run.seq ?_
      have hm38 := Le.refl z30
      refine Run.drawH [([], fun w => ∃ ζ Y, Le z30 ζ ∧ Ht w0 (frz ζ :: (blk g19 [vi p0.ID, vi p0.Term, vi p0.Vote, vi p0.Log.Base, vi p0.Log.Term, .slice A6 p0.Log.Entries.length c6, vi p0.Role, vi p0.Commit, vb p0.Votes.E0, vb p0.Votes.E1, vb p0.Votes.E2, vi p0.Match.E0, vi p0.Match.E1, vi p0.Match.E2, vi p0.Next.E0, vi p0.Next.E1, vi p0.Next.E2, vi p0.Quiet] 31) :: Y) w)] (by kernel_rfl) hst36 (fun w37 hst37 => ?_)
      have hS0 := (⟨_, _, (Le.refl _), (St.up (St.up hst37 1 rfl) 1 rfl)⟩ : (fun w => ∃ ζ Y, Le z30 ζ ∧ Ht w0 (frz ζ :: (blk g19 [vi p0.ID, vi p0.Term, vi p0.Vote, vi p0.Log.Base, vi p0.Log.Term, .slice A6 p0.Log.Entries.length c6, vi p0.Role, vi p0.Commit, vb p0.Votes.E0, vb p0.Votes.E1, vb p0.Votes.E2, vi p0.Match.E0, vi p0.Match.E1, vi p0.Match.E2, vi p0.Next.E0, vi p0.Next.E1, vi p0.Next.E2, vi p0.Quiet] 31) :: Y) w) _)
      refine Any.takeE 0 rfl rfl rfl rfl (by kernel_rfl) (fun _ _ _ _ _ h => h) ((Ex.fieldAddr rfl Tryd.underlying31 rfl sz3).s) ?_
      refine Any.take 0 1 rfl rfl rfl rfl rfl (by kernel_rfl) (fun _ _ _ _ _ h => h) (ExS.load rfl Tryd.underlying3 rfl (fun w hS => by obtain ⟨_, _, _, hs⟩ := hS; exact hs.cell (i := 1) rfl rfl)) hS0 ?_
      refine Any.takeE 5 rfl rfl rfl rfl (by kernel_rfl) (fun _ _ _ _ _ h => h) ((Ex.move rfl).s) ?_
      refine Any.takeE 8 rfl rfl rfl rfl (by kernel_rfl) (fun _ _ _ _ _ h => h) ((Ex.fieldAddr rfl Tryd.underlying31 rfl sz3).s) ?_
      refine Any.take 0 9 rfl rfl rfl rfl rfl (by kernel_rfl) (fun _ _ _ _ _ h => h) (ExS.load rfl Tryd.underlying3 rfl (fun w hS => by obtain ⟨_, _, _, hs⟩ := hS; exact hs.cell (i := 1) rfl rfl)) hS0 ?_
      refine Any.takeE 13 rfl rfl rfl rfl (by kernel_rfl) (fun _ _ _ _ _ h => h) ((Ex.fieldAddr rfl Tryd.underlying31 rfl sz27).s) ?_
      refine Any.take 0 14 rfl rfl rfl rfl rfl (by kernel_rfl) (fun _ _ _ _ _ h => h) (ExS.loadAgg [vi p0.Log.Base, vi p0.Log.Term, .slice A6 p0.Log.Entries.length c6] rfl Tryd.underlying27 rfl sz27 rfl (fun w hS => by obtain ⟨_, _, _, hs⟩ := hS; exact hs.cells (i := 1) rfl 3 3)) hS0 ?_
      refine Any.takeE 19 rfl rfl rfl rfl (by kernel_rfl) (fun _ _ _ _ _ h => h) ((Ex.fieldAddr rfl Tryd.underlying31 rfl sz3).s) ?_
      refine Any.take 0 20 rfl rfl rfl rfl rfl (by kernel_rfl) (fun _ _ _ _ _ h => h) (ExS.load rfl Tryd.underlying3 rfl (fun w hS => by obtain ⟨_, _, _, hs⟩ := hS; exact hs.cell (i := 1) rfl rfl)) hS0 ?_
      obtain ⟨y39, hy39, hf⟩ := bnd hf
      refine Any.one 2 (by kernel_rfl) rfl rfl (One.of_ops rfl ?_)
      refine Ops.call rfl rfl Tryd.func21 (by kernel_rfl) (by kernel_rfl) rfl (go_law20_digits.walk (p0 := p0.ID) (hst := hst37) (hf := hy39)) ?_
      rintro _ w39 ⟨z39, rfl, hz39, hst39⟩
      refine ⟨_, rfl, Ops.stop ?_⟩
      replace f6 := f6.mono hz39
      replace hy36_0 := hy36_0.trans hz39
      replace hz36 := hz36.trans hz39
      replace hm38 := hm38.trans hz39
      have hS0 := (⟨_, _, hm38, (St.up (St.up hst39 1 rfl) 1 rfl)⟩ : (fun w => ∃ ζ Y, Le z30 ζ ∧ Ht w0 (frz ζ :: (blk g19 [vi p0.ID, vi p0.Term, vi p0.Vote, vi p0.Log.Base, vi p0.Log.Term, .slice A6 p0.Log.Entries.length c6, vi p0.Role, vi p0.Commit, vb p0.Votes.E0, vb p0.Votes.E1, vb p0.Votes.E2, vi p0.Match.E0, vi p0.Match.E1, vi p0.Match.E2, vi p0.Next.E0, vi p0.Next.E1, vi p0.Next.E2, vi p0.Quiet] 31) :: Y) w) _)
      refine ⟨⟨.inr (fun _ => hS0), trivial⟩, ?_⟩
      obtain ⟨s41, hy41, hf⟩ := bnd hf
      refine Any.takeE 3 rfl rfl rfl rfl (by kernel_rfl) (fun _ _ _ _ _ h => h) ((Ex.addT (s := [110, 111, 100, 101, 32]) hy41 rfl rfl).s) ?_
      obtain ⟨s42, hy42, hf⟩ := bnd hf
      refine Any.takeE 4 rfl rfl rfl rfl (by kernel_rfl) (fun _ _ _ _ _ h => h) ((Ex.addT (t := [32]) hy42 rfl rfl).s) ?_
      obtain ⟨s43, hy43, hf⟩ := bnd hf
      refine Any.takeE 6 rfl rfl rfl rfl (by kernel_rfl) (fun _ _ _ _ _ h => h) ((Ex.addT hy43 rfl rfl).s) ?_
      obtain ⟨s44, hy44, hf⟩ := bnd hf
      refine Any.takeE 7 rfl rfl rfl rfl (by kernel_rfl) (fun _ _ _ _ _ h => h) ((Ex.addT (t := [32]) hy44 rfl rfl).s) ?_
      obtain ⟨y45, hy45, hf⟩ := bnd hf
      refine Any.one 10 (by kernel_rfl) rfl rfl (One.of_ops rfl ?_)
      refine Ops.call rfl rfl Tryd.func21 (by kernel_rfl) (by kernel_rfl) rfl (go_law20_digits.walk (p0 := p0.Term) (hst := hst39) (hf := hy45)) ?_
      rintro _ w45 ⟨z45, rfl, hz45, hst45⟩
      refine ⟨_, rfl, Ops.stop ?_⟩
      replace f6 := f6.mono hz45
      replace hy36_0 := hy36_0.trans hz45
      replace hz36 := hz36.trans hz45
      replace hm38 := hm38.trans hz45
      have hS0 := (⟨_, _, hm38, (St.up (St.up hst45 1 rfl) 1 rfl)⟩ : (fun w => ∃ ζ Y, Le z30 ζ ∧ Ht w0 (frz ζ :: (blk g19 [vi p0.ID, vi p0.Term, vi p0.Vote, vi p0.Log.Base, vi p0.Log.Term, .slice A6 p0.Log.Entries.length c6, vi p0.Role, vi p0.Commit, vb p0.Votes.E0, vb p0.Votes.E1, vb p0.Votes.E2, vi p0.Match.E0, vi p0.Match.E1, vi p0.Match.E2, vi p0.Next.E0, vi p0.Next.E1, vi p0.Next.E2, vi p0.Quiet] 31) :: Y) w) _)
      refine ⟨⟨.inr (fun _ => hS0), trivial⟩, ?_⟩
      obtain ⟨s47, hy47, hf⟩ := bnd hf
      refine Any.takeE 11 rfl rfl rfl rfl (by kernel_rfl) (fun _ _ _ _ _ h => h) ((Ex.addT hy47 rfl rfl).s) ?_
      obtain ⟨s48, hy48, hf⟩ := bnd hf
      refine Any.takeE 12 rfl rfl rfl rfl (by kernel_rfl) (fun _ _ _ _ _ h => h) ((Ex.addT (t := [32]) hy48 rfl rfl).s) ?_
      obtain ⟨y49, hy49, hf⟩ := bnd hf
      refine Any.one 15 (by kernel_rfl) rfl rfl (One.of_ops rfl ?_)
      refine Ops.call rfl rfl Tryd.func20 (by kernel_rfl) (by kernel_rfl) rfl (go_rlog_Log_Last.walk (p0 := p0.Log) (hst := hst45) (f3 := f6) (hf := hy49)) ?_
      rintro _ w49 ⟨z49, rfl, hz49, hst49⟩
      refine ⟨_, rfl, Ops.stop ?_⟩
      replace f6 := f6.mono hz49
      replace hy36_0 := hy36_0.trans hz49
      replace hz36 := hz36.trans hz49
      replace hm38 := hm38.trans hz49
      have hS0 := (⟨_, _, hm38, (St.up (St.up hst49 1 rfl) 1 rfl)⟩ : (fun w => ∃ ζ Y, Le z30 ζ ∧ Ht w0 (frz ζ :: (blk g19 [vi p0.ID, vi p0.Term, vi p0.Vote, vi p0.Log.Base, vi p0.Log.Term, .slice A6 p0.Log.Entries.length c6, vi p0.Role, vi p0.Commit, vb p0.Votes.E0, vb p0.Votes.E1, vb p0.Votes.E2, vi p0.Match.E0, vi p0.Match.E1, vi p0.Match.E2, vi p0.Next.E0, vi p0.Next.E1, vi p0.Next.E2, vi p0.Quiet] 31) :: Y) w) _)
      refine ⟨⟨.inr (fun _ => hS0), trivial⟩, ?_⟩
      obtain ⟨y51, hy51, hf⟩ := bnd hf
      refine Any.one 16 (by kernel_rfl) rfl rfl (One.of_ops rfl ?_)
      refine Ops.call rfl rfl Tryd.func21 (by kernel_rfl) (by kernel_rfl) rfl (go_law20_digits.walk (p0 := y49) (hst := hst49) (hf := hy51)) ?_
      rintro _ w51 ⟨z51, rfl, hz51, hst51⟩
      refine ⟨_, rfl, Ops.stop ?_⟩
      replace f6 := f6.mono hz51
      replace hy36_0 := hy36_0.trans hz51
      replace hz36 := hz36.trans hz51
      replace hm38 := hm38.trans hz51
      have hS0 := (⟨_, _, hm38, (St.up (St.up hst51 1 rfl) 1 rfl)⟩ : (fun w => ∃ ζ Y, Le z30 ζ ∧ Ht w0 (frz ζ :: (blk g19 [vi p0.ID, vi p0.Term, vi p0.Vote, vi p0.Log.Base, vi p0.Log.Term, .slice A6 p0.Log.Entries.length c6, vi p0.Role, vi p0.Commit, vb p0.Votes.E0, vb p0.Votes.E1, vb p0.Votes.E2, vi p0.Match.E0, vi p0.Match.E1, vi p0.Match.E2, vi p0.Next.E0, vi p0.Next.E1, vi p0.Next.E2, vi p0.Quiet] 31) :: Y) w) _)
      refine ⟨⟨.inr (fun _ => hS0), trivial⟩, ?_⟩
      obtain ⟨s53, hy53, hf⟩ := bnd hf
      refine Any.takeE 17 rfl rfl rfl rfl (by kernel_rfl) (fun _ _ _ _ _ h => h) ((Ex.addT hy53 rfl rfl).s) ?_
      obtain ⟨s54, hy54, hf⟩ := bnd hf
      refine Any.takeE 18 rfl rfl rfl rfl (by kernel_rfl) (fun _ _ _ _ _ h => h) ((Ex.addT (t := [32]) hy54 rfl rfl).s) ?_
      obtain ⟨y55, hy55, hf⟩ := bnd hf
      refine Any.one 21 (by kernel_rfl) rfl rfl (One.of_ops rfl ?_)
      refine Ops.call rfl rfl Tryd.func21 (by kernel_rfl) (by kernel_rfl) rfl (go_law20_digits.walk (p0 := p0.Commit) (hst := hst51) (hf := hy55)) ?_
      rintro _ w55 ⟨z55, rfl, hz55, hst55⟩
      refine ⟨_, rfl, Ops.stop ?_⟩
      replace f6 := f6.mono hz55
      replace hy36_0 := hy36_0.trans hz55
      replace hz36 := hz36.trans hz55
      replace hm38 := hm38.trans hz55
      have hS0 := (⟨_, _, hm38, (St.up (St.up hst55 1 rfl) 1 rfl)⟩ : (fun w => ∃ ζ Y, Le z30 ζ ∧ Ht w0 (frz ζ :: (blk g19 [vi p0.ID, vi p0.Term, vi p0.Vote, vi p0.Log.Base, vi p0.Log.Term, .slice A6 p0.Log.Entries.length c6, vi p0.Role, vi p0.Commit, vb p0.Votes.E0, vb p0.Votes.E1, vb p0.Votes.E2, vi p0.Match.E0, vi p0.Match.E1, vi p0.Match.E2, vi p0.Next.E0, vi p0.Next.E1, vi p0.Next.E2, vi p0.Quiet] 31) :: Y) w) _)
      refine ⟨⟨.inr (fun _ => hS0), trivial⟩, ?_⟩
      obtain ⟨s57, hy57, hf⟩ := bnd hf
      refine Any.takeE 22 rfl rfl rfl rfl (by kernel_rfl) (fun _ _ _ _ _ h => h) ((Ex.addT hy57 rfl rfl).s) ?_
      obtain ⟨s58, hy58, hf⟩ := bnd hf
      refine Any.takeE 23 rfl rfl rfl rfl (by kernel_rfl) (fun _ _ _ _ _ h => h) ((Ex.addT (t := [10]) hy58 rfl rfl).s) ?_
      refine Any.takeE 24 rfl rfl rfl rfl (by kernel_rfl) (fun _ _ _ _ _ h => h) ((Ex.assign rfl).s) ?_
      refine Any.done (by kernel_rfl) ?_
      obtain rfl := Option.some.inj hf
      exact Run.retV [vs s58] rfl ⟨rfl, trivial⟩ ⟨z55, rfl, hy36_0, (St.forget hst55 1)⟩
def go_view_Ref.j2 (p0 : apiRef) (s17 : Str) : Option Str :=
  (VM.itoa p0.From).bind fun y25 => (VM.itoa p0.To).bind fun y27 => (go_view_row [p0.Name, s17, y25, y27]).bind fun y30 => some y30
def go_view_Ref.j1 (p0 : apiRef) (b8 : Bool) : Option Str :=
  if b8 then ((atI ([[102, 117, 108, 108], [100, 101, 108, 116, 97], [112, 97, 114, 116]]) p0.Kind).bind fun y19 => go_view_Ref.j2 p0 y19) else (go_view_Ref.j2 p0 [45])
def go_view_Ref (p0 : apiRef) : Option Str :=
  if 0 ≤ p0.Kind then (go_view_Ref.j1 p0 (decide (p0.Kind < 3))) else (go_view_Ref.j1 p0 false)
set_option maxRecDepth 100000 in
set_option maxHeartbeats 4000000 in
theorem go_view_Ref.walk {w0 w : World} {X : List Res} {z0 : Zp} {p0 : apiRef} {r : Str} (hst : Ht w0 (frz z0 :: X) w) (hT : VM.TB z0) (hf : go_view_Ref p0 = some r) :
    Calls Tryd.prog 11 #[.agg #[vs p0.Name, vi p0.Kind, vi p0.From, vi p0.To]] w fun e w' => ∃ (z' : Zp), e = .returned (vs r) ∧ Le z0 z' ∧ Ht w0 (frz z' :: X) w' := by
  refine calls_np Tryd.func11 rfl rfl ?_
  have hle0 := Le.refl z0
  unfold go_view_Ref at hf
  refine Run.seq ?_
  refine Run.region ?_
  refine Ops.boxF [vs p0.Name, vi p0.Kind, vi p0.From, vi p0.To] hst rfl rfl rfl (fun g5 w5 hst5 => ?_)
  refine Ops.ex (Ex.assign rfl) rfl rfl rfl ?_
  refine Ops.nil ?_
  refine Run.seq ?_
  refine Run.region ?_
  refine Ops.ex (Ex.assign rfl) rfl rfl rfl ?_
  refine Ops.nil ?_
  refine Run.seq ?_
  refine Run.seq ?_
  apply Run.jn (fun e' w' => ∃ (b8 : Bool) (z7 : Zp), go_view_Ref.j1 p0 b8 = some r ∧ e' = [(1, .pointer (some ⟨g5, 0, none⟩)), (3, vs [45]), (11, vb b8)] ∧ Le z0 z7 ∧ Ht w0 (frz z7 :: (blk g5 [vs p0.Name, vi p0.Kind, vi p0.From, vi p0.To] 40) :: X) w')
  · intro hj6
    refine Run.region ?_
    refine Ops.ex (Ex.fieldAddr rfl Tryd.underlying40 rfl sz38) rfl rfl rfl ?_
    refine Ops.load rfl Tryd.underlying38 rfl (hst5.cell (i := 1) rfl rfl) rfl ?_
    refine Ops.ex (Ex.geq rfl rfl) rfl rfl rfl ?_
    refine Ops.ex (Ex.move rfl) rfl rfl rfl ?_
    refine Ops.case 7 rfl (fun hc => ?_) (fun hc => ?_)
    · replace hf := ifT (dec_T hc) hf
      refine Ops.on rfl ?_
      refine Ops.ex (Ex.fieldAddr rfl Tryd.underlying40 rfl sz38) rfl rfl rfl ?_
      refine Ops.on rfl ?_
      refine Ops.load rfl Tryd.underlying38 rfl (hst5.cell (i := 1) rfl rfl) rfl ?_
      refine Ops.on rfl ?_
      refine Ops.ex (Ex.lss rfl rfl) rfl rfl rfl ?_
      refine Ops.ex (Ex.pickT rfl rfl) rfl rfl rfl ?_
      refine Ops.nil ?_
      exact Run.sub (by exact subB_spec ⟨rfl, rfl, rfl, trivial⟩) (hj6 _ _ ⟨decide (p0.Kind < 3), z0, hf, rfl, hle0, hst5⟩)
    · replace hf := ifF (dec_F hc) hf
      refine Ops.off rfl rfl ?_
      refine Ops.off rfl rfl ?_
      refine Ops.off rfl rfl ?_
      refine Ops.ex (Ex.pickF rfl rfl) rfl rfl rfl ?_
      refine Ops.nil ?_
      exact Run.sub (by exact subB_spec ⟨rfl, rfl, rfl, trivial⟩) (hj6 _ _ ⟨false, z0, hf, rfl, hle0, hst5⟩)
  · rintro e' w9 ⟨b8, z7, hf, rfl, hz9, hst9⟩
    replace hT := hT.mono hz9
    unfold go_view_Ref.j1 at hf
    have hm15 := Le.refl z7
    apply Run.jn (fun e' w' => ∃ (s17 : Str) (z16 : Zp), go_view_Ref.j2 p0 s17 = some r ∧ e' = [(1, .pointer (some ⟨g5, 0, none⟩)), (3, vs s17)] ∧ Le z7 z16 ∧ Le z0 z16 ∧ Ht w0 (frz z16 :: (blk g5 [vs p0.Name, vi p0.Kind, vi p0.From, vi p0.To] 40) :: X) w')
    · intro hj10
      refine Run.cond rfl (fun hc => ?_) (fun hc => ?_)
      · replace hf := ifTb hc hf
        refine Run.region ?_
        refine Ops.sliceF [vs [102, 117, 108, 108], vs [100, 101, 108, 116, 97], vs [112, 97, 114, 116]] hst9 rfl Tryd.underlying60 sz9 zr9 rfl rfl (by kernel_rfl) rfl (by simp [Value.oneCell']) rfl (fun A18 w18 hst18 => ?_)
        have f18 : Cs tS z7 [vs [102, 117, 108, 108], vs [100, 101, 108, 116, 97], vs [112, 97, 114, 116]] [[102, 117, 108, 108], [100, 101, 108, 116, 97], [112, 97, 114, 116]] := (Cs.cons (c := [vs [102, 117, 108, 108]]) rfl (Cs.cons (c := [vs [100, 101, 108, 116, 97]]) rfl (Cs.cons (c := [vs [112, 97, 114, 116]]) rfl (Cs.nil _ _))))
        refine Ops.ex (Ex.fieldAddr rfl Tryd.underlying40 rfl sz38) rfl rfl rfl ?_
        refine Ops.load rfl Tryd.underlying38 rfl (hst18.cell (i := 2) rfl rfl) rfl ?_
        obtain ⟨y19, hy19, hf⟩ := bnd hf
        obtain ⟨g21, p21, o21, cs21, hA21, ho21, hr21, f21⟩ := own_elem f18 rfl (hst18.get (i := 1) rfl) hy19
        obtain rfl := hr21
        refine Ops.ex (Ex.ixA hA21 ho21 hy19 rfl rfl rfl Tryd.underlying60 sz9) rfl rfl rfl ?_
        refine Ops.load rfl Tryd.underlying9 rfl ((f21 _ (hst18.get (i := 1) rfl)) 0 _ rfl) rfl ?_
        refine Ops.ex (Ex.assign rfl) rfl rfl rfl ?_
        refine Ops.nil ?_
        exact Run.sub (by exact subB_spec ⟨rfl, rfl, trivial⟩) (hj10 _ _ ⟨y19, z7, hf, rfl, hm15, hz9, (St.forget hst18 1)⟩)
      · replace hf := ifFb hc hf
        refine Run.skip ?_
        exact Run.sub (by exact subB_spec ⟨rfl, rfl, trivial⟩) (hj10 _ _ ⟨[45], z7, hf, rfl, hm15, hz9, hst9⟩)
    · rintro e' w22 ⟨s17, z16, hf, rfl, hz22, hy22_0, hst22⟩
      replace hT := hT.mono hz22
      unfold go_view_Ref.j2 at hf
      refine Run.seq ?_
      have hm24 := Le.refl z16
      refine Run.drawH [([], fun w => ∃ ζ Y, Le z16 ζ ∧ Ht w0 (frz ζ :: (blk g5 [vs p0.Name, vi p0.Kind, vi p0.From, vi p0.To] 40) :: Y) w)] (by kernel_rfl) hst22 (fun w23 hst23 => ?_)
      have hS0 := (⟨_, _, (Le.refl _), (St.up (St.up hst23 1 rfl) 1 rfl)⟩ : (fun w => ∃ ζ Y, Le z16 ζ ∧ Ht w0 (frz ζ :: (blk g5 [vs p0.Name, vi p0.Kind, vi p0.From, vi p0.To] 40) :: Y) w) _)
      refine Any.takeE 0 rfl rfl rfl rfl (by kernel_rfl) (fun _ _ _ _ _ h => h) ((Ex.fieldAddr rfl Tryd.underlying40 rfl sz9).s) ?_
      refine Any.take 0 1 rfl rfl rfl rfl rfl (by kernel_rfl) (fun _ _ _ _ _ h => h) (ExS.load rfl Tryd.underlying9 rfl (fun w hS => by obtain ⟨_, _, _, hs⟩ := hS; exact hs.cell (i := 1) rfl rfl)) hS0 ?_
      refine Any.takeE 2 rfl rfl rfl rfl (by kernel_rfl) (fun _ _ _ _ _ h => h) ((Ex.move rfl).s) ?_
      refine Any.takeE 3 rfl rfl rfl rfl (by kernel_rfl) (fun _ _ _ _ _ h => h) ((Ex.fieldAddr rfl Tryd.underlying40 rfl sz3).s) ?_
      refine Any.take 0 4 rfl rfl rfl rfl rfl (by kernel_rfl) (fun _ _ _ _ _ h => h) (ExS.load rfl Tryd.underlying3 rfl (fun w hS => by obtain ⟨_, _, _, hs⟩ := hS; exact hs.cell (i := 1) rfl rfl)) hS0 ?_
      refine Any.takeE 6 rfl rfl rfl rfl (by kernel_rfl) (fun _ _ _ _ _ h => h) ((Ex.fieldAddr rfl Tryd.underlying40 rfl sz3).s) ?_
      refine Any.take 0 7 rfl rfl rfl rfl rfl (by kernel_rfl) (fun _ _ _ _ _ h => h) (ExS.load rfl Tryd.underlying3 rfl (fun w hS => by obtain ⟨_, _, _, hs⟩ := hS; exact hs.cell (i := 1) rfl rfl)) hS0 ?_
      obtain ⟨y25, hy25, hf⟩ := bnd hf
      refine Any.one 5 (by kernel_rfl) rfl rfl (One.of_ops rfl ?_)
      refine Ops.call rfl rfl Tryd.func19 (by kernel_rfl) (by kernel_rfl) rfl (VM.itoa.walk (p0 := p0.From) (hst := hst23) (hT := hT) (hf := hy25)) ?_
      rintro _ w25 ⟨z25, rfl, hz25, hst25⟩
      refine ⟨_, rfl, Ops.stop ?_⟩
      replace hT := hT.mono hz25
      replace hy22_0 := hy22_0.trans hz25
      replace hz22 := hz22.trans hz25
      replace hm24 := hm24.trans hz25
      have hS0 := (⟨_, _, hm24, (St.up (St.up hst25 1 rfl) 1 rfl)⟩ : (fun w => ∃ ζ Y, Le z16 ζ ∧ Ht w0 (frz ζ :: (blk g5 [vs p0.Name, vi p0.Kind, vi p0.From, vi p0.To] 40) :: Y) w) _)
      refine ⟨⟨.inr (fun _ => hS0), trivial⟩, ?_⟩
      obtain ⟨y27, hy27, hf⟩ := bnd hf
      refine Any.one 8 (by kernel_rfl) rfl rfl (One.of_ops rfl ?_)
      refine Ops.call rfl rfl Tryd.func19 (by kernel_rfl) (by kernel_rfl) rfl (VM.itoa.walk (p0 := p0.To) (hst := hst25) (hT := hT) (hf := hy27)) ?_
      rintro _ w27 ⟨z27, rfl, hz27, hst27⟩
      refine ⟨_, rfl, Ops.stop ?_⟩
      replace hT := hT.mono hz27
      replace hy22_0 := hy22_0.trans hz27
      replace hz22 := hz22.trans hz27
      replace hm24 := hm24.trans hz27
      have hS0 := (⟨_, _, hm24, (St.up (St.up hst27 1 rfl) 1 rfl)⟩ : (fun w => ∃ ζ Y, Le z16 ζ ∧ Ht w0 (frz ζ :: (blk g5 [vs p0.Name, vi p0.Kind, vi p0.From, vi p0.To] 40) :: Y) w) _)
      refine ⟨⟨.inr (fun _ => hS0), trivial⟩, ?_⟩
      refine Any.one 9 (by kernel_rfl) rfl rfl (One.of_ops rfl ?_)
      refine Ops.sliceF [vs p0.Name, vs s17, vs y25, vs y27] hst27 rfl Tryd.underlying60 sz9 zr9 rfl rfl (by kernel_rfl) rfl (by simp [Value.oneCell']) rfl (fun A29 w29 hst29 => Ops.stop ?_)
      have f29 : Cs tS z27 [vs p0.Name, vs s17, vs y25, vs y27] [p0.Name, s17, y25, y27] := (Cs.cons (c := [vs p0.Name]) rfl (Cs.cons (c := [vs s17]) rfl (Cs.cons (c := [vs y25]) rfl (Cs.cons (c := [vs y27]) rfl (Cs.nil _ _)))))
      have hS0 := (⟨_, _, hm24, (St.up (St.up hst29 2 rfl) 1 rfl)⟩ : (fun w => ∃ ζ Y, Le z16 ζ ∧ Ht w0 (frz ζ :: (blk g5 [vs p0.Name, vi p0.Kind, vi p0.From, vi p0.To] 40) :: Y) w) _)
      refine ⟨⟨.inr (fun _ => hS0), trivial⟩, ?_⟩
      obtain ⟨z31, hz31, f31, hst31, hu31⟩ := St.lend (τ := tS) (xs := [p0.Name, s17, y25, y27]) hst29 f29 rfl
      obtain ⟨y30, hy30, hf⟩ := bnd hf
      refine Any.one 10 (by kernel_rfl) rfl rfl (One.of_ops rfl ?_)
      refine Ops.call rfl rfl Tryd.func18 (by kernel_rfl) (by kernel_rfl) rfl (go_view_row.walk (p0 := [p0.Name, s17, y25, y27]) (hst := hst31) (f1 := f31) (hf := hy30)) ?_
      rintro _ w30 ⟨z30, rfl, hz30, hst30⟩
      obtain ⟨z33, hz33, hst33⟩ := hu31 _ _ _ hz30 hst30
      refine ⟨_, rfl, Ops.stop ?_⟩
      replace f29 := f29.mono hz33; replace hT := hT.mono hz33
      replace hy22_0 := hy22_0.trans hz33
      replace hz22 := hz22.trans hz33
      replace hm24 := hm24.trans hz33
      have hS0 := (⟨_, _, hm24, (St.up (St.up hst33 2 rfl) 1 rfl)⟩ : (fun w => ∃ ζ Y, Le z16 ζ ∧ Ht w0 (frz ζ :: (blk g5 [vs p0.Name, vi p0.Kind, vi p0.From, vi p0.To] 40) :: Y) w) _)
      refine ⟨⟨.inr (fun _ => hS0), trivial⟩, ?_⟩
      refine Any.takeE 11 rfl rfl rfl rfl (by kernel_rfl) (fun _ _ _ _ _ h => h) ((Ex.assign rfl).s) ?_
      refine Any.done (by kernel_rfl) ?_
      obtain rfl := Option.some.inj hf
      exact Run.retV [vs y30] rfl ⟨rfl, trivial⟩ ⟨z33, rfl, hy22_0, (St.forget (St.forget hst33 2) 1)⟩
def go_view_Set.b1 (i11 : Nat) (a11 : apiRef) : Str → (Str → Option Str) → Option Str :=
  fun s41 nxb11 => (go_view_Ref a11).bind fun y50 => (catI s41 y50).bind fun s52 => nxb11 s52
def go_view_Set (p0 : editsSet) : Option Str :=
  (VM.itoa p0.Floor).bind fun y4 => (go_view_row ([[102, 108, 111, 111, 114], y4])).bind fun y7 => forL (go_view_Set.b1) (fun s41 => some s41) 0 p0.Refs y7
set_option maxRecDepth 100000 in
set_option maxHeartbeats 4000000 in
theorem go_view_Set.walk {w0 w : World} {X : List Res} {z0 : Zp} {p0 : editsSet} {A1 : Option Addr} {c1 : Nat} {r : Str} (hst : Ht w0 (frz z0 :: X) w) (f1 : Sl tapiRef z0 A1 c1 p0.Refs) (hT : VM.TB z0) (hf : go_view_Set p0 = some r) :
    Calls Tryd.prog 10 #[.agg #[.slice A1 p0.Refs.length c1, vi p0.Floor]] w fun e w' => ∃ (z' : Zp), e = .returned (vs r) ∧ Le z0 z' ∧ Ht w0 (frz z' :: X) w' := by
  refine calls_np Tryd.func10 rfl rfl ?_
  have hle0 := Le.refl z0
  unfold go_view_Set at hf
  refine Run.seq ?_
  refine Run.region ?_
  refine Ops.boxF [.slice A1 p0.Refs.length c1, vi p0.Floor] hst rfl rfl rfl (fun g3 w3 hst3 => ?_)
  refine Ops.ex (Ex.assign rfl) rfl rfl rfl ?_
  refine Ops.nil ?_
  refine Run.seq ?_
  refine Run.region ?_
  refine Ops.ex (Ex.fieldAddr rfl Tryd.underlying37 rfl sz3) rfl rfl rfl ?_
  refine Ops.load rfl Tryd.underlying3 rfl (hst3.cell (i := 1) rfl rfl) rfl ?_
  obtain ⟨y4, hy4, hf⟩ := bnd hf
  refine Ops.call rfl rfl Tryd.func19 (by kernel_rfl) (by kernel_rfl) rfl (VM.itoa.walk (p0 := p0.Floor) (hst := hst3) (hT := hT) (hf := hy4)) ?_
  rintro _ w4 ⟨z4, rfl, hz4, hst4⟩
  refine ⟨_, rfl, ?_⟩
  replace f1 := f1.mono hz4; replace hT := hT.mono hz4
  replace hle0 := hle0.trans hz4
  refine Ops.sliceF [vs [102, 108, 111, 111, 114], vs y4] hst4 rfl Tryd.underlying60 sz9 zr9 rfl rfl (by kernel_rfl) rfl (by simp [Value.oneCell']) rfl (fun A6 w6 hst6 => ?_)
  have f6 : Cs tS z4 [vs [102, 108, 111, 111, 114], vs y4] [[102, 108, 111, 111, 114], y4] := (Cs.cons (c := [vs [102, 108, 111, 111, 114]]) rfl (Cs.cons (c := [vs y4]) rfl (Cs.nil _ _)))
  obtain ⟨z8, hz8, f8, hst8, hu8⟩ := St.lend (τ := tS) (xs := ([[102, 108, 111, 111, 114], y4])) hst6 f6 rfl
  obtain ⟨y7, hy7, hf⟩ := bnd hf
  refine Ops.call rfl rfl Tryd.func18 (by kernel_rfl) (by kernel_rfl) rfl (go_view_row.walk (p0 := ([[102, 108, 111, 111, 114], y4])) (hst := hst8) (f1 := f8) (hf := hy7)) ?_
  rintro _ w7 ⟨z7, rfl, hz7, hst7⟩
  obtain ⟨z10, hz10, hst10⟩ := hu8 _ _ _ hz7 hst7
  refine ⟨_, rfl, ?_⟩
  replace f1 := f1.mono hz10; replace f6 := f6.mono hz10; replace hT := hT.mono hz10
  replace hle0 := hle0.trans hz10
  refine Ops.ex (Ex.assign rfl) rfl rfl rfl ?_
  refine Ops.nil ?_
  refine Run.seq ?_
  refine Run.seq ?_
  refine Run.region ?_
  refine Ops.ex (Ex.fieldAddr rfl Tryd.underlying37 rfl sz34) rfl rfl rfl ?_
  refine Ops.load rfl Tryd.underlying34 rfl (hst10.cell (i := 2) rfl rfl) rfl ?_
  refine Ops.ex (Ex.len' rfl rfl rfl Tryd.underlying34) rfl rfl rfl ?_
  refine Ops.ex (Ex.move rfl) rfl rfl rfl ?_
  refine Ops.nil ?_
  refine Run.block ?_
  have hc11 := f1.cap
  have hm12 := Le.refl z10
  refine Run.sub (e' := [(3, vs y7), (12, .slice A1 p0.Refs.length c1), (13, vi (p0.Refs.length : Int)), (14, vi ((0 : Nat) : Int))]) (subB_spec ⟨rfl, rfl, rfl, rfl, trivial⟩) ?_
  refine Run.loop (fun mb11 => (fun e' w' => ∃ (i11 : Nat) (s41 : Str) (z40 : Zp), mb11 = p0.Refs.length - i11 ∧ i11 ≤ p0.Refs.length ∧ forL (go_view_Set.b1) (fun s41 => some s41) i11 (p0.Refs.drop i11) s41 = some r ∧ e' = [(3, vs s41), (12, .slice A1 p0.Refs.length c1), (13, vi (p0.Refs.length : Int)), (14, vi (i11 : Int))] ∧ Le z10 z40 ∧ Le z0 z40 ∧ Ht w0 (frz z40 :: X) w')) p0.Refs.length ⟨0, y7, z10, rfl, Nat.zero_le _, hf, rfl, hm12, hle0, (St.forget (St.forget hst10 2) 1)⟩ ?_
  rintro _ e' w42 ⟨i11, s41, z40, rfl, hi11, hf, rfl, hz42, hy42_0, hst42⟩
  replace f1 := f1.mono hz42; replace hT := hT.mono hz42
  refine Run.seq ?_
  refine Run.region ?_
  refine Ops.ex (Ex.lss rfl rfl) rfl rfl rfl ?_
  refine Ops.nil ?_
  refine Run.seq ?_
  refine Run.cond rfl (fun hc => ?_) (fun hc => ?_)
  · have hl11 := lt_of_dec hc
    obtain ⟨a11, nxb11, ha11, hnxb11, hf⟩ := forL_in hf hl11
    unfold go_view_Set.b1 at hf
    try dsimp only at hf
    refine Run.skip ?_
    refine Run.seq ?_
    refine Run.block ?_
    refine Run.seq ?_
    refine Run.region ?_
    obtain ⟨g47, p47, o47, cs47, hA47, ho47, hr47, f47⟩ := SlH.elem f1.toH (atI_nat ha11)
    obtain rfl := hr47
    refine Ops.ex (Ex.ixA hA47 ho47 (atI_nat ha11) rfl rfl rfl Tryd.underlying34 sz40) rfl rfl rfl ?_
    refine Ops.loadAgg [vs a11.Name, vi a11.Kind, vi a11.From, vi a11.To] rfl Tryd.underlying40 rfl sz40 rfl (cells_of_zc rfl (f47.mono hst42.le)) rfl ?_
    refine Ops.allocF [vs [], vi 0, vi 0, vi 0] hst42 zr40 rfl rfl (fun g48 w48 hst48 => ?_)
    refine Ops.store 1 [vs a11.Name, vi a11.Kind, vi a11.From, vi a11.To] hst48 rfl rfl rfl rfl sz40 rfl (by simp [Value.oneCell']) (by simp) (fun w49 hst49 => ?_)
    refine Ops.nil ?_
    refine Run.region ?_
    refine Ops.ex (Ex.move rfl) rfl rfl rfl ?_
    refine Ops.loadAgg _ rfl Tryd.underlying40 rfl sz40 rfl (hst49.cells (i := 1) rfl 0 4) rfl ?_
    obtain ⟨y50, hy50, hf⟩ := bnd hf
    refine Ops.call rfl rfl Tryd.func11 (by kernel_rfl) (by kernel_rfl) rfl (go_view_Ref.walk (p0 := a11) (hst := hst49) (hT := hT) (hf := hy50)) ?_
    rintro _ w50 ⟨z50, rfl, hz50, hst50⟩
    refine ⟨_, rfl, ?_⟩
    replace f1 := f1.mono hz50; replace f47 := f47.mono hz50; replace hT := hT.mono hz50
    replace hy42_0 := hy42_0.trans hz50
    replace hz42 := hz42.trans hz50
    obtain ⟨s52, hy52, hf⟩ := bnd hf
    refine Ops.ex (Ex.addT hy52 rfl rfl) rfl rfl rfl ?_
    refine Ops.ex (Ex.assign rfl) rfl rfl rfl ?_
    refine Ops.nil ?_
    refine Run.endBlk ?_
    refine Run.region ?_
    refine Ops.ex (Ex.add rfl rfl) rfl rfl rfl ?_
    refine Ops.ex (Ex.move rfl) rfl rfl rfl ?_
    refine Ops.nil ?_
    refine Run.re 14 rfl (congrArg vi (wr_succ' hl11 hc11)) ?_
    exact Run.sub (by exact subB_spec ⟨rfl, rfl, rfl, rfl, trivial⟩) (Run.stop ⟨p0.Refs.length - (i11 + 1), by omega, i11 + 1, s52, z50, rfl, by omega, (hnxb11 _).symm.trans hf, rfl, hz42, hy42_0, (St.forget hst50 1)⟩)
  · replace hf := forL_out hf (nlt_of_dec hc)
    try dsimp only at hf
    refine Run.exit _ rfl ?_
    refine Run.seq ?_
    refine Run.region ?_
    refine Ops.ex (Ex.move rfl) rfl rfl rfl ?_
    refine Ops.ex (Ex.assign rfl) rfl rfl rfl ?_
    refine Ops.nil ?_
    obtain rfl := Option.some.inj hf
    exact Run.retV [vs s41] rfl ⟨rfl, trivial⟩ ⟨z40, rfl, hy42_0, hst42⟩
def go_node_Of (p0 : Int) : Option nodeNode :=
  some (⟨p0, 0, (-1), ⟨0, 0, []⟩, 0, 0, ⟨false, false, false⟩, ⟨0, 0, 0⟩, ⟨0, 0, 0⟩, 0⟩ : nodeNode)
set_option maxRecDepth 100000 in
set_option maxHeartbeats 4000000 in
theorem go_node_Of.walk {w0 w : World} {X : List Res} {z0 : Zp} {p0 : Int} {r : nodeNode} (hst : Ht w0 (frz z0 :: X) w) (hf : go_node_Of p0 = some r) :
    Calls Tryd.prog 17 #[vi p0] w fun e w' => ∃ (z' : Zp) (A9006 : Option Addr) (c9006 : Nat), e = .returned (.agg #[vi r.ID, vi r.Term, vi r.Vote, vi r.Log.Base, vi r.Log.Term, .slice A9006 r.Log.Entries.length c9006, vi r.Role, vi r.Commit, vb r.Votes.E0, vb r.Votes.E1, vb r.Votes.E2, vi r.Match.E0, vi r.Match.E1, vi r.Match.E2, vi r.Next.E0, vi r.Next.E1, vi r.Next.E2, vi r.Quiet]) ∧ Le z0 z' ∧ Sl tapiEntry z' A9006 c9006 r.Log.Entries ∧ Ht w0 (frz z' :: X) w' := by
  refine calls_np Tryd.func17 rfl rfl ?_
  have hle0 := Le.refl z0
  unfold go_node_Of at hf
  refine Run.seq ?_
  refine Run.region ?_
  refine Ops.allocF [vi 0, vi 0, vi 0, vi 0, vi 0, .slice none 0 0, vi 0, vi 0, vb false, vb false, vb false, vi 0, vi 0, vi 0, vi 0, vi 0, vi 0, vi 0] hst zr31 rfl rfl (fun g2 w2 hst2 => ?_)
  refine Ops.nil ?_
  refine Run.seq ?_
  refine Run.region ?_
  refine Ops.ex (Ex.move rfl) rfl rfl rfl ?_
  refine Ops.ex (Ex.build [vi p0, vi 0, vi (-1), vi 0, vi 0, .slice none 0 0, vi 0, vi 0, vb false, vb false, vb false, vi 0, vi 0, vi 0, vi 0, vi 0, vi 0, vi 0] rfl Tryd.underlying31 zr31 (pl31 Tryd.underlying31) (by kernel_rfl)) rfl rfl rfl ?_
  refine Ops.store 1 [vi p0, vi 0, vi (-1), vi 0, vi 0, .slice none 0 0, vi 0, vi 0, vb false, vb false, vb false, vi 0, vi 0, vi 0, vi 0, vi 0, vi 0, vi 0] hst2 rfl rfl rfl rfl sz31 rfl (by simp [Value.oneCell']) (by simp) (fun w3 hst3 => ?_)
  refine Ops.nil ?_
  obtain rfl := Option.some.inj hf
  exact Run.retV [.agg #[vi p0, vi 0, vi (-1), vi 0, vi 0, .slice none 0 0, vi 0, vi 0, vb false, vb false, vb false, vi 0, vi 0, vi 0, vi 0, vi 0, vi 0, vi 0]] rfl ⟨⟨_, rfl, run_loadN _ Tryd.underlying31 rfl sz31 rfl (hst3.cells (i := 1) rfl 0 18)⟩, trivial⟩ ⟨z0, none, 0, rfl, hle0, (Sl.nil _ _), (St.forget hst3 1)⟩
def go_view_Pairs (p0 : apiState) : Option apiState :=
  some p0
set_option maxRecDepth 100000 in
set_option maxHeartbeats 4000000 in
theorem go_view_Pairs.walk {w0 w : World} {X : List Res} {z0 : Zp} {p0 : apiState} {A3 : Option Addr} {c3 : Nat} {A4 : Option Addr} {c4 : Nat} {r : apiState} (hst : Ht w0 (frz z0 :: X) w) (f3 : Sl tapiPair z0 A3 c3 p0.Pairs) (f4 : Sl tapiSession z0 A4 c4 p0.Sessions) (hf : go_view_Pairs p0 = some r) :
    Calls Tryd.prog 16 #[.agg #[vi p0.Index, vi p0.Term, .slice A3 p0.Pairs.length c3, .slice A4 p0.Sessions.length c4]] w fun e w' => ∃ (z' : Zp) (g9001 : Nat) (A9004 : Option Addr) (c9004 : Nat) (A9005 : Option Addr) (c9005 : Nat), e = .returned (.func (.func 26) #[] #[.pointer (some ⟨g9001, 0, none⟩)]) ∧ Le z0 z' ∧ Sl tapiPair z' A9004 c9004 r.Pairs ∧ Sl tapiSession z' A9005 c9005 r.Sessions ∧ Ht w0 (frz z' :: (blk g9001 [vi r.Index, vi r.Term, .slice A9004 r.Pairs.length c9004, .slice A9005 r.Sessions.length c9005] 47) :: X) w' := by
  refine calls_np Tryd.func16 rfl rfl ?_
  have hle0 := Le.refl z0
  unfold go_view_Pairs at hf
  refine Run.seq ?_
  refine Run.region ?_
  refine Ops.boxF [vi p0.Index, vi p0.Term, .slice A3 p0.Pairs.length c3, .slice A4 p0.Sessions.length c4] hst rfl rfl rfl (fun g5 w5 hst5 => ?_)
  refine Ops.ex (Ex.assign rfl) rfl rfl rfl ?_
  refine Ops.nil ?_
  refine Run.seq ?_
  refine Run.region ?_
  refine Ops.ex (Ex.funcE rfl rfl) rfl rfl rfl ?_
  refine Ops.ex (Ex.assign rfl) rfl rfl rfl ?_
  refine Ops.nil ?_
  obtain rfl := Option.some.inj hf
  exact Run.retV [.func (.func 26) #[] #[.pointer (some ⟨g5, 0, none⟩)]] rfl ⟨rfl, trivial⟩ ⟨z0, g5, A3, c3, A4, c4, rfl, hle0, f3, f4, hst5⟩
def go_view_Pairs_c1.b1 {σ : Type} (yield : Str → σ → Option (Bool × σ)) (i5 : Nat) (a5 : apiPair) : σ → (σ → Option σ) → Option σ :=
  fun ys50 nxb5 => (VM.quote a5.Key).bind fun y60 => (VM.quote a5.Value).bind fun y62 => (go_view_row ([y60, [61], y62])).bind fun y65 => (yield y65 ys50).bind fun y69 => if y69.1 then (nxb5 y69.2) else (some y69.2)
def go_view_Pairs_c1 {σ : Type} (yield : Str → σ → Option (Bool × σ)) (s0 : σ) (q0 : apiState) : Option σ :=
  forL (go_view_Pairs_c1.b1 yield) (fun ys50 => some ys50) 0 q0.Pairs s0
set_option maxRecDepth 100000 in
set_option maxHeartbeats 4000000 in
theorem go_view_Pairs_c1.walk {w0 w : World} {X : List Res} {z0 : Zp} {l : Nat} {σ : Type} {J : σ → Zp → List Res → Prop} {yield : Str → σ → Option (Bool × σ)} {s0 : σ} {Hs0 : List Res} {q0 : apiState} {gq0 : Nat} {A3 : Option Addr} {c3 : Nat} {A4 : Option Addr} {c4 : Nat} {r : σ} (hst : Ht w0 (frz z0 :: (blk gq0 [vi q0.Index, vi q0.Term, .slice A3 q0.Pairs.length c3, .slice A4 q0.Sessions.length c4] 47) :: (Hs0 ++ X)) w) (hY : YC Tryd.prog l w0 J (fun z a us_ => us_ = [vs a]) yield) (hJ0 : JH J s0 z0 Hs0) (f3 : Sl tapiPair z0 A3 c3 q0.Pairs) (f4 : Sl tapiSession z0 A4 c4 q0.Sessions) (hT : VM.TB z0) (hf : go_view_Pairs_c1 yield s0 q0 = some r) :
    Calls Tryd.prog 26 #[.func (.yield l) #[] #[], .pointer (some ⟨gq0, 0, none⟩)] w fun e w' => ∃ (z' : Zp) (Hs9001 : List Res), e = .returned (.tuple #[]) ∧ Le z0 z' ∧ JH J r z' Hs9001 ∧ Ht w0 (frz z' :: (blk gq0 [vi q0.Index, vi q0.Term, .slice A3 q0.Pairs.length c3, .slice A4 q0.Sessions.length c4] 47) :: (Hs9001 ++ X)) w' := by
  refine calls_np Tryd.func26 rfl rfl ?_
  have hle0 := Le.refl z0
  unfold go_view_Pairs_c1 at hf
  refine Run.seq ?_
  refine Run.region ?_
  refine Ops.ex (Ex.fieldAddr rfl Tryd.underlying47 rfl sz44) rfl rfl rfl ?_
  refine Ops.load rfl Tryd.underlying44 rfl (hst.cell (i := 1) rfl rfl) rfl ?_
  refine Ops.ex (Ex.len' rfl rfl rfl Tryd.underlying44) rfl rfl rfl ?_
  refine Ops.ex (Ex.move rfl) rfl rfl rfl ?_
  refine Ops.nil ?_
  refine Run.block ?_
  have hc5 := f3.cap
  refine Run.sub (e' := [(0, .func (.yield l) #[] #[]), (6, .slice A3 q0.Pairs.length c3), (7, vi (q0.Pairs.length : Int)), (8, vi ((0 : Nat) : Int))]) (subB_spec ⟨rfl, rfl, rfl, rfl, trivial⟩) ?_
  refine Run.loop (fun mb5 => (fun e' w' => ∃ (i5 : Nat) (ys50 : σ) (Hs50 : List Res) (z49 : Zp), mb5 = q0.Pairs.length - i5 ∧ i5 ≤ q0.Pairs.length ∧ forL (go_view_Pairs_c1.b1 yield) (fun ys50 => some ys50) i5 (q0.Pairs.drop i5) ys50 = some r ∧ e' = [(0, .func (.yield l) #[] #[]), (6, .slice A3 q0.Pairs.length c3), (7, vi (q0.Pairs.length : Int)), (8, vi (i5 : Int))] ∧ Le z0 z49 ∧ JH J ys50 z49 Hs50 ∧ Ht w0 (frz z49 :: (blk gq0 [vi q0.Index, vi q0.Term, .slice A3 q0.Pairs.length c3, .slice A4 q0.Sessions.length c4] 47) :: (Hs50 ++ X)) w')) q0.Pairs.length ⟨0, s0, Hs0, z0, rfl, Nat.zero_le _, hf, rfl, hle0, hJ0, hst⟩ ?_
  rintro _ e' w51 ⟨i5, ys50, Hs50, z49, rfl, hi5, hf, rfl, hz51, hJ50, hst51⟩
  replace f3 := f3.mono hz51; replace f4 := f4.mono hz51; replace hT := hT.mono hz51
  refine Run.seq ?_
  refine Run.region ?_
  refine Ops.ex (Ex.lss rfl rfl) rfl rfl rfl ?_
  refine Ops.nil ?_
  refine Run.seq ?_
  refine Run.cond rfl (fun hc => ?_) (fun hc => ?_)
  · have hl5 := lt_of_dec hc
    obtain ⟨a5, nxb5, ha5, hnxb5, hf⟩ := forL_in hf hl5
    unfold go_view_Pairs_c1.b1 at hf
    try dsimp only at hf
    refine Run.skip ?_
    refine Run.seq ?_
    refine Run.block ?_
    refine Run.seq ?_
    refine Run.region ?_
    obtain ⟨g55, p55, o55, cs55, hA55, ho55, hr55, f55⟩ := SlH.elem f3.toH (atI_nat ha5)
    obtain rfl := hr55
    refine Ops.ex (Ex.ixA hA55 ho55 (atI_nat ha5) rfl rfl rfl Tryd.underlying44 sz49) rfl rfl rfl ?_
    refine Ops.loadAgg [vs a5.Key, vs a5.Value, vb a5.Gone] rfl Tryd.underlying49 rfl sz49 rfl (cells_of_zc rfl (f55.mono hst51.le)) rfl ?_
    refine Ops.allocF [vs [], vs [], vb false] hst51 zr49 rfl rfl (fun g56 w56 hst56 => ?_)
    refine Ops.store 1 [vs a5.Key, vs a5.Value, vb a5.Gone] hst56 rfl rfl rfl rfl sz49 rfl (by simp [Value.oneCell']) (by simp) (fun w57 hst57 => ?_)
    refine Ops.nil ?_
    refine Run.seq ?_
    have hm59 := Le.refl z49
    refine Run.drawH [([], fun w => ∃ ζ Y, Le z49 ζ ∧ Ht w0 (frz ζ :: (blk g56 [vs a5.Key, vs a5.Value, vb a5.Gone] 49) :: (blk gq0 [vi q0.Index, vi q0.Term, .slice A3 q0.Pairs.length c3, .slice A4 q0.Sessions.length c4] 47) :: Y) w)] (by kernel_rfl) hst57 (fun w58 hst58 => ?_)
    have hS0 := (⟨_, _, (Le.refl _), (St.up (St.up (St.up hst58 2 rfl) 2 rfl) 2 rfl)⟩ : (fun w => ∃ ζ Y, Le z49 ζ ∧ Ht w0 (frz ζ :: (blk g56 [vs a5.Key, vs a5.Value, vb a5.Gone] 49) :: (blk gq0 [vi q0.Index, vi q0.Term, .slice A3 q0.Pairs.length c3, .slice A4 q0.Sessions.length c4] 47) :: Y) w) _)
    refine Any.takeE 0 rfl rfl rfl rfl (by kernel_rfl) (fun _ _ _ _ _ h => h) ((Ex.move rfl).s) ?_
    refine Any.takeE 1 rfl rfl rfl rfl (by kernel_rfl) (fun _ _ _ _ _ h => h) ((Ex.fieldAddr rfl Tryd.underlying49 rfl sz9).s) ?_
    refine Any.take 0 2 rfl rfl rfl rfl rfl (by kernel_rfl) (fun _ _ _ _ _ h => h) (ExS.load rfl Tryd.underlying9 rfl (fun w hS => by obtain ⟨_, _, _, hs⟩ := hS; exact hs.cell (i := 1) rfl rfl)) hS0 ?_
    refine Any.takeE 4 rfl rfl rfl rfl (by kernel_rfl) (fun _ _ _ _ _ h => h) ((Ex.fieldAddr rfl Tryd.underlying49 rfl sz9).s) ?_
    refine Any.take 0 5 rfl rfl rfl rfl rfl (by kernel_rfl) (fun _ _ _ _ _ h => h) (ExS.load rfl Tryd.underlying9 rfl (fun w hS => by obtain ⟨_, _, _, hs⟩ := hS; exact hs.cell (i := 1) rfl rfl)) hS0 ?_
    obtain ⟨y60, hy60, hf⟩ := bnd hf
    refine Any.one 3 (by kernel_rfl) rfl rfl (One.of_ops rfl ?_)
    refine Ops.call rfl rfl Tryd.func27 (by kernel_rfl) (by kernel_rfl) rfl (VM.quote.walk (p0 := a5.Key) (hst := hst58) (hT := hT) (hf := hy60)) ?_
    rintro _ w60 ⟨z60, rfl, hz60, hst60⟩
    refine ⟨_, rfl, Ops.stop ?_⟩
    replace f3 := f3.mono hz60; replace f55 := f55.mono hz60; replace f4 := f4.mono hz60; replace hT := hT.mono hz60; replace hJ50 := hJ50.mono hz60
    replace hz51 := hz51.trans hz60
    replace hm59 := hm59.trans hz60
    have hS0 := (⟨_, _, hm59, (St.up (St.up (St.up hst60 2 rfl) 2 rfl) 2 rfl)⟩ : (fun w => ∃ ζ Y, Le z49 ζ ∧ Ht w0 (frz ζ :: (blk g56 [vs a5.Key, vs a5.Value, vb a5.Gone] 49) :: (blk gq0 [vi q0.Index, vi q0.Term, .slice A3 q0.Pairs.length c3, .slice A4 q0.Sessions.length c4] 47) :: Y) w) _)
    refine ⟨⟨.inr (fun _ => hS0), trivial⟩, ?_⟩
    obtain ⟨y62, hy62, hf⟩ := bnd hf
    refine Any.one 6 (by kernel_rfl) rfl rfl (One.of_ops rfl ?_)
    refine Ops.call rfl rfl Tryd.func27 (by kernel_rfl) (by kernel_rfl) rfl (VM.quote.walk (p0 := a5.Value) (hst := hst60) (hT := hT) (hf := hy62)) ?_
    rintro _ w62 ⟨z62, rfl, hz62, hst62⟩
    refine ⟨_, rfl, Ops.stop ?_⟩
    replace f3 := f3.mono hz62; replace f55 := f55.mono hz62; replace f4 := f4.mono hz62; replace hT := hT.mono hz62; replace hJ50 := hJ50.mono hz62
    replace hz51 := hz51.trans hz62
    replace hm59 := hm59.trans hz62
    have hS0 := (⟨_, _, hm59, (St.up (St.up (St.up hst62 2 rfl) 2 rfl) 2 rfl)⟩ : (fun w => ∃ ζ Y, Le z49 ζ ∧ Ht w0 (frz ζ :: (blk g56 [vs a5.Key, vs a5.Value, vb a5.Gone] 49) :: (blk gq0 [vi q0.Index, vi q0.Term, .slice A3 q0.Pairs.length c3, .slice A4 q0.Sessions.length c4] 47) :: Y) w) _)
    refine ⟨⟨.inr (fun _ => hS0), trivial⟩, ?_⟩
    refine Any.one 7 (by kernel_rfl) rfl rfl (One.of_ops rfl ?_)
    refine Ops.sliceF [vs y60, vs [61], vs y62] hst62 rfl Tryd.underlying60 sz9 zr9 rfl rfl (by kernel_rfl) rfl (by simp [Value.oneCell']) rfl (fun A64 w64 hst64 => Ops.stop ?_)
    have f64 : Cs tS z62 [vs y60, vs [61], vs y62] [y60, [61], y62] := (Cs.cons (c := [vs y60]) rfl (Cs.cons (c := [vs [61]]) rfl (Cs.cons (c := [vs y62]) rfl (Cs.nil _ _))))
    have hS0 := (⟨_, _, hm59, (St.up (St.up (St.up hst64 3 rfl) 3 rfl) 2 rfl)⟩ : (fun w => ∃ ζ Y, Le z49 ζ ∧ Ht w0 (frz ζ :: (blk g56 [vs a5.Key, vs a5.Value, vb a5.Gone] 49) :: (blk gq0 [vi q0.Index, vi q0.Term, .slice A3 q0.Pairs.length c3, .slice A4 q0.Sessions.length c4] 47) :: Y) w) _)
    refine ⟨⟨.inr (fun _ => hS0), trivial⟩, ?_⟩
    obtain ⟨z66, hz66, f66, hst66, hu66⟩ := St.lend (τ := tS) (xs := ([y60, [61], y62])) hst64 f64 rfl
    obtain ⟨y65, hy65, hf⟩ := bnd hf
    refine Any.one 8 (by kernel_rfl) rfl rfl (One.of_ops rfl ?_)
    refine Ops.call rfl rfl Tryd.func18 (by kernel_rfl) (by kernel_rfl) rfl (go_view_row.walk (p0 := ([y60, [61], y62])) (hst := hst66) (f1 := f66) (hf := hy65)) ?_
    rintro _ w65 ⟨z65, rfl, hz65, hst65⟩
    obtain ⟨z68, hz68, hst68⟩ := hu66 _ _ _ hz65 hst65
    refine ⟨_, rfl, Ops.stop ?_⟩
    replace f3 := f3.mono hz68; replace f55 := f55.mono hz68; replace f64 := f64.mono hz68; replace f4 := f4.mono hz68; replace hT := hT.mono hz68; replace hJ50 := hJ50.mono hz68
    replace hz51 := hz51.trans hz68
    replace hm59 := hm59.trans hz68
    have hS0 := (⟨_, _, hm59, (St.up (St.up (St.up hst68 3 rfl) 3 rfl) 2 rfl)⟩ : (fun w => ∃ ζ Y, Le z49 ζ ∧ Ht w0 (frz ζ :: (blk g56 [vs a5.Key, vs a5.Value, vb a5.Gone] 49) :: (blk gq0 [vi q0.Index, vi q0.Term, .slice A3 q0.Pairs.length c3, .slice A4 q0.Sessions.length c4] 47) :: Y) w) _)
    refine ⟨⟨.inr (fun _ => hS0), trivial⟩, ?_⟩
    obtain ⟨y69, hy69, hf⟩ := bnd hf
    refine Any.one 9 (by kernel_rfl) rfl rfl (One.of_ops rfl ?_)
    refine Ops.yieldZ (a := y65) [orow 9 1 (.slice A64 ([y60, [61], y62]).length 3) ([y60, [61], y62]).length ([vs y60, vs [61], vs y62]), blk g56 [vs a5.Key, vs a5.Value, vb a5.Gone] 49, blk gq0 [vi q0.Index, vi q0.Term, .slice A3 q0.Pairs.length c3, .slice A4 q0.Sessions.length c4] 47] hY hJ50 rfl hst68 hy69 rfl rfl rfl (fun w69 z69 Hs69 hz69 hJ69 hst69 => Ops.stop ?_)
    replace f3 := f3.mono hz69; replace f55 := f55.mono hz69; replace f64 := f64.mono hz69; replace f4 := f4.mono hz69; replace hT := hT.mono hz69
    replace hz51 := hz51.trans hz69
    replace hm59 := hm59.trans hz69
    have hst69' : Ht w0 (frz z69 :: (orow 9 1 (.slice A64 ([y60, [61], y62]).length 3) ([y60, [61], y62]).length ([vs y60, vs [61], vs y62])) :: (blk g56 [vs a5.Key, vs a5.Value, vb a5.Gone] 49) :: (blk gq0 [vi q0.Index, vi q0.Term, .slice A3 q0.Pairs.length c3, .slice A4 q0.Sessions.length c4] 47) :: (Hs69 ++ X)) _ := hst69
    have hS0 := (⟨_, _, hm59, (St.up (St.up (St.up hst69' 3 rfl) 3 rfl) 2 rfl)⟩ : (fun w => ∃ ζ Y, Le z49 ζ ∧ Ht w0 (frz ζ :: (blk g56 [vs a5.Key, vs a5.Value, vb a5.Gone] 49) :: (blk gq0 [vi q0.Index, vi q0.Term, .slice A3 q0.Pairs.length c3, .slice A4 q0.Sessions.length c4] 47) :: Y) w) _)
    refine ⟨⟨.inr (fun _ => hS0), trivial⟩, ?_⟩
    refine Any.takeE 10 rfl rfl rfl rfl (by kernel_rfl) (fun _ _ _ _ _ h => h) ((Ex.not rfl).s) ?_
    refine Any.done (by kernel_rfl) ?_
    refine Run.cond rfl (fun hc => ?_) (fun hc => ?_)
    · replace hf := ifFb (bn_T hc) hf
      obtain rfl := Option.some.inj hf
      exact Run.retV [] rfl trivial ⟨z69, Hs69, rfl, hz51, hJ69, (St.forget (St.forget hst69' 2) 1)⟩
    · replace hf := ifTb (bn_F hc) hf
      refine Run.skip ?_
      refine Run.endBlk ?_
      refine Run.region ?_
      refine Ops.ex (Ex.add rfl rfl) rfl rfl rfl ?_
      refine Ops.ex (Ex.move rfl) rfl rfl rfl ?_
      refine Ops.nil ?_
      refine Run.re 8 rfl (congrArg vi (wr_succ' hl5 hc5)) ?_
      exact Run.sub (by exact subB_spec ⟨rfl, rfl, rfl, rfl, trivial⟩) (Run.stop ⟨q0.Pairs.length - (i5 + 1), by omega, i5 + 1, y69.2, Hs69, z69, rfl, by omega, (hnxb5 _).symm.trans hf, rfl, hz51, hJ69, (St.forget (St.forget hst69' 2) 1)⟩)
  · replace hf := forL_out hf (nlt_of_dec hc)
    try dsimp only at hf
    refine Run.exit _ rfl ?_
    obtain rfl := Option.some.inj hf
    exact Run.doneV [] rfl trivial ⟨z49, Hs50, rfl, hz51, hJ50, hst51⟩
def go_view_State.z1 : Str → (List UInt8) → Option (Bool × ((List UInt8) × Nat)) :=
  fun a28_0 l35 => (VM.wsO l35 a28_0).bind fun y38 => some (true, (y38, 0))
def go_view_State (p0 : apiState) : Option Str :=
  (VM.itoa p0.Index).bind fun y8 => (VM.itoa p0.Term).bind fun y10 => (go_view_row ([[115, 116, 97, 116, 101], y8, y10])).bind fun y13 => (VM.wsO [] y13).bind fun y20 => (go_view_Pairs p0).bind fun y21 => (go_view_Pairs_c1 (yw (go_view_State.z1)) (y20, 0) y21).bind fun (l35, yj28) => if yj28 = 0 then ((VM.bsO l35).bind fun y39 => some y39) else (none)
set_option maxRecDepth 100000 in
set_option maxHeartbeats 4000000 in
theorem go_view_State.walk {w0 w : World} {X : List Res} {z0 : Zp} {p0 : apiState} {A3 : Option Addr} {c3 : Nat} {A4 : Option Addr} {c4 : Nat} {r : Str} (hst : Ht w0 (frz z0 :: X) w) (f3 : Sl tapiPair z0 A3 c3 p0.Pairs) (f4 : Sl tapiSession z0 A4 c4 p0.Sessions) (hT : VM.TB z0) (hf : go_view_State p0 = some r) :
    Calls Tryd.prog 14 #[.agg #[vi p0.Index, vi p0.Term, .slice A3 p0.Pairs.length c3, .slice A4 p0.Sessions.length c4]] w fun e w' => ∃ (z' : Zp), e = .returned (vs r) ∧ Le z0 z' ∧ Ht w0 (frz z' :: X) w' := by
  refine calls_np Tryd.func14 rfl rfl ?_
  have hle0 := Le.refl z0
  unfold go_view_State at hf
  refine Run.seq ?_
  refine Run.region ?_
  refine Ops.boxF [vi p0.Index, vi p0.Term, .slice A3 p0.Pairs.length c3, .slice A4 p0.Sessions.length c4] hst rfl rfl rfl (fun g5 w5 hst5 => ?_)
  refine Ops.ex (Ex.assign rfl) rfl rfl rfl ?_
  refine Ops.nil ?_
  refine Run.seq ?_
  refine Run.region ?_
  refine Ops.allocF [.pointer none, .slice none 0 0] hst5 zr69 rfl rfl (fun g6 w6 hst6 => ?_)
  refine Ops.nil ?_
  refine Run.seq ?_
  refine Run.drawH [([], fun w => ∃ ζ Y, Le z0 ζ ∧ Ht w0 (frz ζ :: (blk g5 [vi p0.Index, vi p0.Term, .slice A3 p0.Pairs.length c3, .slice A4 p0.Sessions.length c4] 47) :: Y) w), ([8], fun w => ∃ ζ Y, Le z0 ζ ∧ Ht w0 (frz ζ :: (blk g6 [.pointer none, .slice none 0 0] 69) :: Y) w)] (by kernel_rfl) hst6 (fun w7 hst7 => ?_)
  have hS0 := (⟨_, _, (Le.refl _), (St.up (St.up hst7 2 rfl) 1 rfl)⟩ : (fun w => ∃ ζ Y, Le z0 ζ ∧ Ht w0 (frz ζ :: (blk g5 [vi p0.Index, vi p0.Term, .slice A3 p0.Pairs.length c3, .slice A4 p0.Sessions.length c4] 47) :: Y) w) _)
  have hS1 := (⟨_, _, (Le.refl _), (St.up (St.up hst7 1 rfl) 1 rfl)⟩ : (fun w => ∃ ζ Y, Le z0 ζ ∧ Ht w0 (frz ζ :: (blk g6 [.pointer none, .slice none 0 0] 69) :: Y) w) _)
  refine Any.takeE 0 rfl rfl rfl rfl (by kernel_rfl) (fun _ _ _ _ _ h => h) ((Ex.fieldAddr rfl Tryd.underlying47 rfl sz3).s) ?_
  refine Any.take 0 1 rfl rfl rfl rfl rfl (by kernel_rfl) (fun _ _ _ _ _ h => h) (ExS.load rfl Tryd.underlying3 rfl (fun w hS => by obtain ⟨_, _, _, hs⟩ := hS; exact hs.cell (i := 1) rfl rfl)) hS0 ?_
  refine Any.takeE 3 rfl rfl rfl rfl (by kernel_rfl) (fun _ _ _ _ _ h => h) ((Ex.fieldAddr rfl Tryd.underlying47 rfl sz3).s) ?_
  refine Any.take 0 4 rfl rfl rfl rfl rfl (by kernel_rfl) (fun _ _ _ _ _ h => h) (ExS.load rfl Tryd.underlying3 rfl (fun w hS => by obtain ⟨_, _, _, hs⟩ := hS; exact hs.cell (i := 1) rfl rfl)) hS0 ?_
  obtain ⟨y8, hy8, hf⟩ := bnd hf
  refine Any.one 2 (by kernel_rfl) rfl rfl (One.of_ops rfl ?_)
  refine Ops.call rfl rfl Tryd.func19 (by kernel_rfl) (by kernel_rfl) rfl (VM.itoa.walk (p0 := p0.Index) (hst := hst7) (hT := hT) (hf := hy8)) ?_
  rintro _ w8 ⟨z8, rfl, hz8, hst8⟩
  refine ⟨_, rfl, Ops.stop ?_⟩
  replace f3 := f3.mono hz8; replace f4 := f4.mono hz8; replace hT := hT.mono hz8
  replace hle0 := hle0.trans hz8
  have hS0 := (⟨_, _, hle0, (St.up (St.up hst8 2 rfl) 1 rfl)⟩ : (fun w => ∃ ζ Y, Le z0 ζ ∧ Ht w0 (frz ζ :: (blk g5 [vi p0.Index, vi p0.Term, .slice A3 p0.Pairs.length c3, .slice A4 p0.Sessions.length c4] 47) :: Y) w) _)
  have hS1 := (⟨_, _, hle0, (St.up (St.up hst8 1 rfl) 1 rfl)⟩ : (fun w => ∃ ζ Y, Le z0 ζ ∧ Ht w0 (frz ζ :: (blk g6 [.pointer none, .slice none 0 0] 69) :: Y) w) _)
  refine ⟨⟨.inr (fun _ => hS0), .inr (fun _ => hS1), trivial⟩, ?_⟩
  obtain ⟨y10, hy10, hf⟩ := bnd hf
  refine Any.one 5 (by kernel_rfl) rfl rfl (One.of_ops rfl ?_)
  refine Ops.call rfl rfl Tryd.func19 (by kernel_rfl) (by kernel_rfl) rfl (VM.itoa.walk (p0 := p0.Term) (hst := hst8) (hT := hT) (hf := hy10)) ?_
  rintro _ w10 ⟨z10, rfl, hz10, hst10⟩
  refine ⟨_, rfl, Ops.stop ?_⟩
  replace f3 := f3.mono hz10; replace f4 := f4.mono hz10; replace hT := hT.mono hz10
  replace hle0 := hle0.trans hz10
  have hS0 := (⟨_, _, hle0, (St.up (St.up hst10 2 rfl) 1 rfl)⟩ : (fun w => ∃ ζ Y, Le z0 ζ ∧ Ht w0 (frz ζ :: (blk g5 [vi p0.Index, vi p0.Term, .slice A3 p0.Pairs.length c3, .slice A4 p0.Sessions.length c4] 47) :: Y) w) _)
  have hS1 := (⟨_, _, hle0, (St.up (St.up hst10 1 rfl) 1 rfl)⟩ : (fun w => ∃ ζ Y, Le z0 ζ ∧ Ht w0 (frz ζ :: (blk g6 [.pointer none, .slice none 0 0] 69) :: Y) w) _)
  refine ⟨⟨.inr (fun _ => hS0), .inr (fun _ => hS1), trivial⟩, ?_⟩
  refine Any.one 6 (by kernel_rfl) rfl rfl (One.of_ops rfl ?_)
  refine Ops.sliceF [vs [115, 116, 97, 116, 101], vs y8, vs y10] hst10 rfl Tryd.underlying60 sz9 zr9 rfl rfl (by kernel_rfl) rfl (by simp [Value.oneCell']) rfl (fun A12 w12 hst12 => Ops.stop ?_)
  have f12 : Cs tS z10 [vs [115, 116, 97, 116, 101], vs y8, vs y10] [[115, 116, 97, 116, 101], y8, y10] := (Cs.cons (c := [vs [115, 116, 97, 116, 101]]) rfl (Cs.cons (c := [vs y8]) rfl (Cs.cons (c := [vs y10]) rfl (Cs.nil _ _))))
  have hS0 := (⟨_, _, hle0, (St.up (St.up hst12 3 rfl) 1 rfl)⟩ : (fun w => ∃ ζ Y, Le z0 ζ ∧ Ht w0 (frz ζ :: (blk g5 [vi p0.Index, vi p0.Term, .slice A3 p0.Pairs.length c3, .slice A4 p0.Sessions.length c4] 47) :: Y) w) _)
  have hS1 := (⟨_, _, hle0, (St.up (St.up hst12 2 rfl) 1 rfl)⟩ : (fun w => ∃ ζ Y, Le z0 ζ ∧ Ht w0 (frz ζ :: (blk g6 [.pointer none, .slice none 0 0] 69) :: Y) w) _)
  refine ⟨⟨.inr (fun _ => hS0), .inr (fun _ => hS1), trivial⟩, ?_⟩
  obtain ⟨z14, hz14, f14, hst14, hu14⟩ := St.lend (τ := tS) (xs := ([[115, 116, 97, 116, 101], y8, y10])) hst12 f12 rfl
  obtain ⟨y13, hy13, hf⟩ := bnd hf
  refine Any.one 7 (by kernel_rfl) rfl rfl (One.of_ops rfl ?_)
  refine Ops.call rfl rfl Tryd.func18 (by kernel_rfl) (by kernel_rfl) rfl (go_view_row.walk (p0 := ([[115, 116, 97, 116, 101], y8, y10])) (hst := hst14) (f1 := f14) (hf := hy13)) ?_
  rintro _ w13 ⟨z13, rfl, hz13, hst13⟩
  obtain ⟨z16, hz16, hst16⟩ := hu14 _ _ _ hz13 hst13
  refine ⟨_, rfl, Ops.stop ?_⟩
  replace f3 := f3.mono hz16; replace f4 := f4.mono hz16; replace f12 := f12.mono hz16; replace hT := hT.mono hz16
  replace hle0 := hle0.trans hz16
  have hS0 := (⟨_, _, hle0, (St.up (St.up hst16 3 rfl) 1 rfl)⟩ : (fun w => ∃ ζ Y, Le z0 ζ ∧ Ht w0 (frz ζ :: (blk g5 [vi p0.Index, vi p0.Term, .slice A3 p0.Pairs.length c3, .slice A4 p0.Sessions.length c4] 47) :: Y) w) _)
  have hS1 := (⟨_, _, hle0, (St.up (St.up hst16 2 rfl) 1 rfl)⟩ : (fun w => ∃ ζ Y, Le z0 ζ ∧ Ht w0 (frz ζ :: (blk g6 [.pointer none, .slice none 0 0] 69) :: Y) w) _)
  refine ⟨⟨.inr (fun _ => hS0), .inr (fun _ => hS1), trivial⟩, ?_⟩
  have hst17 : Ht w0 (frz z16 :: (orow 9 1 (.slice A12 ([[115, 116, 97, 116, 101], y8, y10]).length 3) ([[115, 116, 97, 116, 101], y8, y10]).length ([vs [115, 116, 97, 116, 101], vs y8, vs y10])) :: (blk g6 [VM.bp g6 false, .slice none 0 0] 69) :: (blk g5 [vi p0.Index, vi p0.Term, .slice A3 p0.Pairs.length c3, .slice A4 p0.Sessions.length c4] 47) :: X) _ := hst16
  have hst18 := hst17.row0 5 1
  obtain ⟨y20, hy20, hf⟩ := bnd hf
  refine Any.one 8 (by kernel_rfl) rfl rfl (One.of_ops rfl ?_)
  refine Ops.call rfl rfl Tryd.func24 (by kernel_rfl) (by kernel_rfl) rfl (VM.writeString.walk (hst := (St.up (St.up (St.up (St.up (St.up hst18 4 rfl) 3 rfl) 3 rfl) 4 rfl) 4 rfl)) (hd := (Cs.nil tU8 z16)) (hf := hy20)) ?_
  rintro _ w20 ⟨z20, A20, c20, d20, rfl, hz20, f20, hst20⟩
  refine ⟨_, rfl, Ops.stop ?_⟩
  replace f3 := f3.mono hz20; replace f4 := f4.mono hz20; replace f12 := f12.mono hz20; replace hT := hT.mono hz20
  replace hle0 := hle0.trans hz20
  have hS0 := (⟨_, _, hle0, (St.up (St.up hst20 4 rfl) 1 rfl)⟩ : (fun w => ∃ ζ Y, Le z0 ζ ∧ Ht w0 (frz ζ :: (blk g5 [vi p0.Index, vi p0.Term, .slice A3 p0.Pairs.length c3, .slice A4 p0.Sessions.length c4] 47) :: Y) w) _)
  refine ⟨⟨.inr (fun _ => hS0), .inl (by decide), trivial⟩, ?_⟩
  refine Any.done (by kernel_rfl) ?_
  refine Run.seq ?_
  refine Run.seq ?_
  refine Run.region ?_
  refine Ops.loadAgg _ rfl Tryd.underlying47 rfl sz47 rfl (hst20.cells (i := 4) rfl 0 4) rfl ?_
  obtain ⟨y21, hy21, hf⟩ := bnd hf
  refine Ops.call rfl rfl Tryd.func16 (by kernel_rfl) (by kernel_rfl) rfl (go_view_Pairs.walk (p0 := p0) (hst := hst20) (f3 := f3) (f4 := f4) (hf := hy21)) ?_
  rintro _ w21 ⟨z21, g22, A25, c25, A26, c26, rfl, hz21, f25, f26, hst21⟩
  refine ⟨_, rfl, ?_⟩
  replace f3 := f3.mono hz21; replace f4 := f4.mono hz21; replace f20 := f20.mono hz21; replace f12 := f12.mono hz21; replace hT := hT.mono hz21
  replace hle0 := hle0.trans hz21
  refine Ops.nil ?_
  refine Run.block ?_
  have hm27 := Le.refl z21
  obtain ⟨⟨ys28, yj28⟩, hy28, hf⟩ := bnd hf
  try dsimp only at hf
  refine Run.rangeZ (fun (s_ : List UInt8) (z34 : Zp) (Hs_ : List Res) => ∃ (l35 : List UInt8) (A35 : Option Addr) (c35 : Nat) (d35 : List Value), l35 = s_ ∧ Le z21 z34 ∧ Le z0 z34 ∧ Cs tU8 z34 d35 l35 ∧ Hs_ = [orow 5 1 (.slice A35 l35.length c35) l35.length d35, blk g6 [VM.bp g6 true, .slice A35 l35.length c35] 69, orow 9 1 (.slice A12 ([[115, 116, 97, 116, 101], y8, y10]).length 3) ([[115, 116, 97, 116, 101], y8, y10]).length ([vs [115, 116, 97, 116, 101], vs y8, vs y10]), blk g5 [vi p0.Index, vi p0.Term, .slice A3 p0.Pairs.length c3, .slice A4 p0.Sessions.length c4] 47]) (fun z a us_ => us_ = [vs a]) (go_view_State.z1) (fun _ => Code.skip) rfl rfl Tryd.func26 (by kernel_rfl) (by kernel_rfl) ?_ rfl (s0 := y20) (s1 := ys28) (j1 := yj28) (Hs := [orow 5 1 (.slice A20 y20.length c20) y20.length d20, blk g6 [VM.bp g6 true, .slice A20 y20.length c20] 69, orow 9 1 (.slice A12 ([[115, 116, 97, 116, 101], y8, y10]).length 3) ([[115, 116, 97, 116, 101], y8, y10]).length ([vs [115, 116, 97, 116, 101], vs y8, vs y10]), blk g5 [vi p0.Index, vi p0.Term, .slice A3 p0.Pairs.length c3, .slice A4 p0.Sessions.length c4] 47]) (X := (blk g22 [vi y21.Index, vi y21.Term, .slice A25 y21.Pairs.length c25, .slice A26 y21.Sessions.length c26] 47 :: X)) ⟨y20, A20, c20, d20, rfl, hm27, hle0, f20, rfl⟩ (St.up (St.up (St.up (St.up (St.up (St.up hst21 1 rfl) 5 rfl) 5 rfl) 4 rfl) 5 rfl) 5 rfl) ?_ ?_ ?_ ?_
  · rintro _ _ _ rfl
    rfl
  · intro l_ J_ W_ Hs_ hY_ hJ_ hst_
    refine (go_view_Pairs_c1.walk (yield := yw (go_view_State.z1)) (s0 := (y20, 0)) (q0 := y21) (hst := St.swp (M := Hs_) (Hs := [blk g22 [vi y21.Index, vi y21.Term, .slice A25 y21.Pairs.length c25, .slice A26 y21.Sessions.length c26] 47]) (X := X) hst_) (Hs0 := Hs_) (X := X) (hY := hY_) (hJ0 := hJ_) (f3 := f25) (f4 := f26) (hT := hT) (hf := hy28)).mono ?_
    rintro _ W'_ ⟨z'_, Hs36, rfl, hl_, hJ36, hst'_⟩
    exact ⟨⟨_, rfl⟩, z'_, _, hl_, hJ36, St.swp (M := [blk g22 [vi y21.Index, vi y21.Term, .slice A25 y21.Pairs.length c25, .slice A26 y21.Sessions.length c26] 47]) (Hs := Hs36) hst'_⟩
  · rintro s_ ar28 vs_ z1_ zr28 Hs_ Y_ l_ W_ rr_ ⟨l35, A35, c35, d35, rfl, hm28_0, hm28_1, f35, rfl⟩ hz12 hA_ hf hst28
    obtain ⟨a28_0, rfl⟩ : ∃ q, q = ar28 := ⟨_, rfl⟩
    obtain rfl := hA_
    replace f3 := f3.mono (hm28_0.trans hz12); replace f4 := f4.mono (hm28_0.trans hz12); replace f12 := f12.mono (hm28_0.trans hz12); replace hT := hT.mono (hm28_0.trans hz12)
    replace f35 := f35.mono hz12
    replace hm28_0 := hm28_0.trans hz12; replace hm28_1 := hm28_1.trans hz12
    unfold go_view_State.z1 at hf
    try dsimp only at hf
    have hzz28 := Le.refl zr28
    replace hst28 : Ht w0 (frz zr28 :: (orow 5 1 (.slice A35 l35.length c35) l35.length d35) :: (blk g6 [VM.bp g6 true, .slice A35 l35.length c35] 69) :: (orow 9 1 (.slice A12 ([[115, 116, 97, 116, 101], y8, y10]).length 3) ([[115, 116, 97, 116, 101], y8, y10]).length ([vs [115, 116, 97, 116, 101], vs y8, vs y10])) :: (blk g5 [vi p0.Index, vi p0.Term, .slice A3 p0.Pairs.length c3, .slice A4 p0.Sessions.length c4] 47) :: Y_) _ := hst28
    refine Run.region ?_
    refine Ops.ex (Ex.assign rfl) rfl rfl rfl ?_
    refine Ops.nil ?_
    refine Run.stop ⟨[orow 5 1 (.slice A35 l35.length c35) l35.length d35, blk g6 [VM.bp g6 true, .slice A35 l35.length c35] 69, orow 9 1 (.slice A12 ([[115, 116, 97, 116, 101], y8, y10]).length 3) ([[115, 116, 97, 116, 101], y8, y10]).length ([vs [115, 116, 97, 116, 101], vs y8, vs y10]), blk g5 [vi p0.Index, vi p0.Term, .slice A3 p0.Pairs.length c3, .slice A4 p0.Sessions.length c4] 47], hst28, fun Y28 W37 hst37 => ?_⟩
    replace hst37 : Ht w0 (frz zr28 :: (orow 5 1 (.slice A35 l35.length c35) l35.length d35) :: (blk g6 [VM.bp g6 true, .slice A35 l35.length c35] 69) :: (orow 9 1 (.slice A12 ([[115, 116, 97, 116, 101], y8, y10]).length 3) ([[115, 116, 97, 116, 101], y8, y10]).length ([vs [115, 116, 97, 116, 101], vs y8, vs y10])) :: (blk g5 [vi p0.Index, vi p0.Term, .slice A3 p0.Pairs.length c3, .slice A4 p0.Sessions.length c4] 47) :: Y28) _ := hst37
    refine Run.block ?_
    refine Run.region ?_
    refine Ops.ex (Ex.move rfl) rfl rfl rfl ?_
    obtain ⟨y38, hy38, hf⟩ := bnd hf
    refine Ops.call rfl rfl Tryd.func24 (by kernel_rfl) (by kernel_rfl) rfl (VM.writeString.walk (hst := (St.up (St.up (St.up (St.up (St.up hst37 4 rfl) 4 rfl) 3 rfl) 4 rfl) 4 rfl)) (hd := f35) (hf := hy38)) ?_
    rintro _ w38 ⟨z38, A38, c38, d38, rfl, hz38, f38, hst38⟩
    refine ⟨_, rfl, ?_⟩
    replace f3 := f3.mono hz38; replace f4 := f4.mono hz38; replace f12 := f12.mono hz38; replace hT := hT.mono hz38
    replace hm28_0 := hm28_0.trans hz38
    replace hm28_1 := hm28_1.trans hz38
    replace hzz28 := hzz28.trans hz38
    refine Ops.nil ?_
    refine Run.endBlk ?_
    obtain rfl := Option.some.inj hf
    exact Run.endZ rfl rfl hzz28 ⟨y38, A38, c38, d38, rfl, hm28_0, hm28_1, f38, rfl⟩ (St.up (St.up (St.up (St.up (St.up hst38 4 rfl) 4 rfl) 3 rfl) 4 rfl) 4 rfl)
  · rintro z1_ zd28 Hs_ D28 W_ h0 ⟨l35, A35, c35, d35, rfl, hm28_0, hm28_1, f35, rfl⟩ hz12 hzd hst28
    replace f3 := f3.mono (hm28_0.trans hz12); replace f4 := f4.mono (hm28_0.trans hz12); replace f12 := f12.mono (hm28_0.trans hz12); replace hT := hT.mono (hm28_0.trans hz12)
    replace f35 := f35.mono hz12
    replace hm28_0 := hm28_0.trans hz12; replace hm28_1 := hm28_1.trans hz12
    replace f25 := f25.mono hzd; replace f26 := f26.mono hzd
    have hst28' : Ht w0 (frz zd28 :: (orow 5 1 (.slice A35 l35.length c35) l35.length d35) :: (blk g6 [VM.bp g6 true, .slice A35 l35.length c35] 69) :: (orow 9 1 (.slice A12 ([[115, 116, 97, 116, 101], y8, y10]).length 3) ([[115, 116, 97, 116, 101], y8, y10]).length ([vs [115, 116, 97, 116, 101], vs y8, vs y10])) :: (blk g5 [vi p0.Index, vi p0.Term, .slice A3 p0.Pairs.length c3, .slice A4 p0.Sessions.length c4] 47) :: ob D28 (.deferred (some [])) :: (blk g22 [vi y21.Index, vi y21.Term, .slice A25 y21.Pairs.length c25, .slice A26 y21.Sessions.length c26] 47) :: X) _ := hst28
    try dsimp only at hf
    replace hf := ifT h0 hf
    refine Run.endBlk ?_
    refine Run.seq ?_
    refine Run.region ?_
    obtain ⟨y39, hy39, hf⟩ := bnd hf
    refine Ops.call rfl rfl Tryd.func25 (by kernel_rfl) (by kernel_rfl) rfl (VM.bString.walk (hst := (St.up (St.up (St.up (St.up (St.up (St.up (St.up hst28' 6 rfl) 6 rfl) 6 rfl) 6 rfl) 5 rfl) 6 rfl) 6 rfl)) (hd := f35) (hf := hy39)) ?_
    rintro _ w39 ⟨z39, rfl, hz39, hst39⟩
    refine ⟨_, rfl, ?_⟩
    replace f3 := f3.mono hz39; replace f4 := f4.mono hz39; replace f12 := f12.mono hz39; replace f25 := f25.mono hz39; replace f26 := f26.mono hz39; replace hT := hT.mono hz39
    replace hm28_0 := hm28_0.trans hz39
    replace hm28_1 := hm28_1.trans hz39
    refine Ops.ex (Ex.assign rfl) rfl rfl rfl ?_
    refine Ops.nil ?_
    obtain ⟨hD40, hst40⟩ := St.shutD hst39 3 rfl
    have hst40 : Ht w0 (frz z39 :: (orow 9 1 (.slice A12 ([[115, 116, 97, 116, 101], y8, y10]).length 3) ([[115, 116, 97, 116, 101], y8, y10]).length ([vs [115, 116, 97, 116, 101], vs y8, vs y10])) :: (blk g5 [vi p0.Index, vi p0.Term, .slice A3 p0.Pairs.length c3, .slice A4 p0.Sessions.length c4] 47) :: ob D28 (.deferred none) :: (blk g22 [vi y21.Index, vi y21.Term, .slice A25 y21.Pairs.length c25, .slice A26 y21.Sessions.length c26] 47) :: X) _ := hst40
    obtain rfl := Option.some.inj hf
    exact Run.retW [vs y39] (Shut.cons hD40 (Shut.nil _)) ⟨rfl, trivial⟩ ⟨z39, rfl, hm28_1, (St.forget (St.forget (St.forget (St.forget hst40 4) 3) 2) 1)⟩
  · rintro z1_ zd28 Hs_ D28 W_ h0 ⟨l35, A35, c35, d35, rfl, hm28_0, hm28_1, f35, rfl⟩ hz12 hzd hst28
    replace f3 := f3.mono (hm28_0.trans hz12); replace f4 := f4.mono (hm28_0.trans hz12); replace f12 := f12.mono (hm28_0.trans hz12); replace hT := hT.mono (hm28_0.trans hz12)
    replace f35 := f35.mono hz12
    replace hm28_0 := hm28_0.trans hz12; replace hm28_1 := hm28_1.trans hz12
    replace f25 := f25.mono hzd; replace f26 := f26.mono hzd
    have hst28' : Ht w0 (frz zd28 :: (orow 5 1 (.slice A35 l35.length c35) l35.length d35) :: (blk g6 [VM.bp g6 true, .slice A35 l35.length c35] 69) :: (orow 9 1 (.slice A12 ([[115, 116, 97, 116, 101], y8, y10]).length 3) ([[115, 116, 97, 116, 101], y8, y10]).length ([vs [115, 116, 97, 116, 101], vs y8, vs y10])) :: (blk g5 [vi p0.Index, vi p0.Term, .slice A3 p0.Pairs.length c3, .slice A4 p0.Sessions.length c4] 47) :: ob D28 (.deferred (some [])) :: (blk g22 [vi y21.Index, vi y21.Term, .slice A25 y21.Pairs.length c25, .slice A26 y21.Sessions.length c26] 47) :: X) _ := hst28
    try dsimp only at hf
    replace hf := ifF h0 hf
    cases hf
def go_law20_awake : Option Bool :=
  (go_view_State (⟨2, 1, [(⟨[107], [118], false⟩ : apiPair)], []⟩ : apiState)).bind fun y4 => if y4 = [115, 116, 97, 116, 101, 32, 50, 32, 49, 10, 34, 107, 34, 32, 61, 32, 34, 118, 34, 10] then ((go_view_Ref (⟨[112, 49], 2, 0, 3⟩ : apiRef)).bind fun y8 => if y8 = [112, 49, 32, 112, 97, 114, 116, 32, 48, 32, 51, 10] then ((go_node_Of 2).bind fun y10 => (go_view_Node y10).bind fun y29 => some (decide (y29 = [110, 111, 100, 101, 32, 50, 32, 102, 111, 108, 108, 111, 119, 101, 114, 32, 48, 32, 48, 32, 48, 10]))) else (some false)) else (some false)
set_option maxRecDepth 100000 in
set_option maxHeartbeats 4000000 in
theorem go_law20_awake.walk {w0 w : World} {X : List Res} {z0 : Zp}  {r : Bool} (hst : Ht w0 (frz z0 :: X) w) (hT : VM.TB z0) (hf : go_law20_awake = some r) :
    Calls Tryd.prog 7 #[] w fun e w' => ∃ (z' : Zp), e = .returned (vb r) ∧ Le z0 z' ∧ Ht w0 (frz z' :: X) w' := by
  refine calls_np Tryd.func7 rfl rfl ?_
  have hle0 := Le.refl z0
  unfold go_law20_awake at hf
  refine Run.seq ?_
  refine Run.region ?_
  refine Ops.ex (Ex.assign rfl) rfl rfl rfl ?_
  refine Ops.nil ?_
  refine Run.seq ?_
  refine Run.region ?_
  refine Ops.ex (Ex.build [vs [107], vs [118], vb false] rfl Tryd.underlying49 zr49 (pl49 Tryd.underlying49) (by kernel_rfl)) rfl rfl rfl ?_
  refine Ops.sliceF [vs [107], vs [118], vb false] hst rfl Tryd.underlying44 sz49 zr49 rfl rfl (by kernel_rfl) rfl (by simp [Value.oneCell']) rfl (fun A1 w1 hst1 => ?_)
  have f1 : Cs tapiPair z0 [vs [107], vs [118], vb false] [(⟨[107], [118], false⟩ : apiPair)] := (Cs.cons (c := [vs [107], vs [118], vb false]) rfl (Cs.nil _ _))
  refine Ops.ex (Ex.build [vi 2, vi 1, .slice A1 ([(⟨[107], [118], false⟩ : apiPair)]).length 1, .slice none 0 0] rfl Tryd.underlying47 zr47 (pl47 Tryd.underlying47) (by kernel_rfl)) rfl rfl rfl ?_
  refine Ops.allocF [vi 0, vi 0, .slice none 0 0, .slice none 0 0] hst1 zr47 rfl rfl (fun g2 w2 hst2 => ?_)
  refine Ops.store 1 [vi 2, vi 1, .slice A1 ([(⟨[107], [118], false⟩ : apiPair)]).length 1, .slice none 0 0] hst2 rfl rfl rfl rfl sz47 rfl (by simp [Value.oneCell']) (by simp) (fun w3 hst3 => ?_)
  refine Ops.nil ?_
  refine Run.seq ?_
  refine Run.region ?_
  refine Ops.loadAgg _ rfl Tryd.underlying47 rfl sz47 rfl (hst3.cells (i := 1) rfl 0 4) rfl ?_
  obtain ⟨z5, hz5, f5, hst5, hu5⟩ := St.lend (τ := tapiPair) (xs := ([(⟨[107], [118], false⟩ : apiPair)])) (St.up (St.up (St.up hst3 1 rfl) 2 rfl) 2 rfl) f1 rfl
  obtain ⟨y4, hy4, hf⟩ := bnd hf
  refine Ops.call rfl rfl Tryd.func14 (by kernel_rfl) (by kernel_rfl) rfl (go_view_State.walk (p0 := (⟨2, 1, [(⟨[107], [118], false⟩ : apiPair)], []⟩ : apiState)) (hst := hst5) (f3 := f5) (f4 := Sl.nil _ _) (hT := (hT.mono hz5)) (hf := hy4)) ?_
  rintro _ w4 ⟨z4, rfl, hz4, hst4⟩
  obtain ⟨z7, hz7, hst7⟩ := hu5 _ _ _ hz4 hst4
  refine ⟨_, rfl, ?_⟩
  replace f1 := f1.mono hz7; replace hT := hT.mono hz7
  replace hle0 := hle0.trans hz7
  refine Ops.ex (Ex.eqlT (t := [115, 116, 97, 116, 101, 32, 50, 32, 49, 10, 34, 107, 34, 32, 61, 32, 34, 118, 34, 10]) rfl rfl) rfl rfl rfl ?_
  refine Ops.ex (Ex.move rfl) rfl rfl rfl ?_
  refine Ops.case 8 rfl (fun hc => ?_) (fun hc => ?_)
  · replace hf := ifT (dec_T hc) hf
    refine Ops.on rfl ?_
    refine Ops.ex (Ex.build [vs [112, 49], vi 2, vi 0, vi 3] rfl Tryd.underlying40 zr40 (pl40 Tryd.underlying40) (by kernel_rfl)) rfl rfl rfl ?_
    refine Ops.on rfl ?_
    obtain ⟨y8, hy8, hf⟩ := bnd hf
    refine Ops.call rfl rfl Tryd.func11 (by kernel_rfl) (by kernel_rfl) rfl (go_view_Ref.walk (p0 := (⟨[112, 49], 2, 0, 3⟩ : apiRef)) (hst := hst7) (hT := hT) (hf := hy8)) ?_
    rintro _ w8 ⟨z8, rfl, hz8, hst8⟩
    refine ⟨_, rfl, ?_⟩
    replace f1 := f1.mono hz8; replace hT := hT.mono hz8
    replace hle0 := hle0.trans hz8
    refine Ops.on rfl ?_
    refine Ops.ex (Ex.eqlT (t := [112, 49, 32, 112, 97, 114, 116, 32, 48, 32, 51, 10]) rfl rfl) rfl rfl rfl ?_
    refine Ops.ex (Ex.pickT rfl rfl) rfl rfl rfl ?_
    refine Ops.ex (Ex.move rfl) rfl rfl rfl ?_
    refine Ops.case 13 rfl (fun hc => ?_) (fun hc => ?_)
    · replace hf := ifT (dec_T hc) hf
      refine Ops.on rfl ?_
      obtain ⟨y10, hy10, hf⟩ := bnd hf
      refine Ops.call rfl rfl Tryd.func17 (by kernel_rfl) (by kernel_rfl) rfl (go_node_Of.walk (p0 := 2) (hst := hst8) (hf := hy10)) ?_
      rintro _ w10 ⟨z10, A16, c16, rfl, hz10, f16, hst10⟩
      refine ⟨_, rfl, ?_⟩
      replace f1 := f1.mono hz10; replace hT := hT.mono hz10
      replace hle0 := hle0.trans hz10
      refine Ops.on rfl ?_
      obtain ⟨y29, hy29, hf⟩ := bnd hf
      refine Ops.call rfl rfl Tryd.func8 (by kernel_rfl) (by kernel_rfl) rfl (go_view_Node.walk (p0 := y10) (hst := hst10) (f6 := f16) (hT := hT) (hf := hy29)) ?_
      rintro _ w29 ⟨z29, rfl, hz29, hst29⟩
      refine ⟨_, rfl, ?_⟩
      replace f16 := f16.mono hz29; replace f1 := f1.mono hz29; replace hT := hT.mono hz29
      replace hle0 := hle0.trans hz29
      refine Ops.on rfl ?_
      refine Ops.ex (Ex.eqlT (t := [110, 111, 100, 101, 32, 50, 32, 102, 111, 108, 108, 111, 119, 101, 114, 32, 48, 32, 48, 32, 48, 10]) rfl rfl) rfl rfl rfl ?_
      refine Ops.ex (Ex.pickT rfl rfl) rfl rfl rfl ?_
      refine Ops.ex (Ex.assign rfl) rfl rfl rfl ?_
      refine Ops.nil ?_
      obtain rfl := Option.some.inj hf
      exact Run.retV [vb (decide (y29 = [110, 111, 100, 101, 32, 50, 32, 102, 111, 108, 108, 111, 119, 101, 114, 32, 48, 32, 48, 32, 48, 10]))] rfl ⟨rfl, trivial⟩ ⟨z29, rfl, hle0, (St.forget (St.forget hst29 2) 1)⟩
    · replace hf := ifF (dec_F hc) hf
      refine Ops.off rfl rfl ?_
      refine Ops.off rfl rfl ?_
      refine Ops.off rfl rfl ?_
      refine Ops.ex (Ex.pickF rfl rfl) rfl rfl rfl ?_
      refine Ops.ex (Ex.assign rfl) rfl rfl rfl ?_
      refine Ops.nil ?_
      obtain rfl := Option.some.inj hf
      exact Run.retV [vb false] rfl ⟨rfl, trivial⟩ ⟨z8, rfl, hle0, (St.forget (St.forget hst8 2) 1)⟩
  · replace hf := ifF (dec_F hc) hf
    refine Ops.off rfl rfl ?_
    refine Ops.off rfl rfl ?_
    refine Ops.off rfl rfl ?_
    refine Ops.ex (Ex.pickF rfl rfl) rfl rfl rfl ?_
    refine Ops.ex (Ex.move rfl) rfl rfl rfl ?_
    refine Ops.off rfl rfl ?_
    refine Ops.off rfl rfl ?_
    refine Ops.off rfl rfl ?_
    refine Ops.ex (Ex.pickF rfl rfl) rfl rfl rfl ?_
    refine Ops.ex (Ex.assign rfl) rfl rfl rfl ?_
    refine Ops.nil ?_
    obtain rfl := Option.some.inj hf
    exact Run.retV [vb false] rfl ⟨rfl, trivial⟩ ⟨z7, rfl, hle0, (St.forget (St.forget hst7 2) 1)⟩
end Go.Proofs.YtfomkndngnfneaaDoor.V1
