/- strconv.Itoa, strconv.Quote, strings.Join and strings.Builder at this program: the library's contracts, in words of resources. -/
import Derived.Shelf.LaysM
import Derived.Shelf.Strings.Builder1
import Derived.Shelf.Strings.OnBuilder
import Derived.Shelf.Strconv.Itoa3
import Derived.Shelf.Strconv.Quote
import Derived.Lib.PrintData
import Derived.Lib.AppendIntMem
import Derived.Test.YtfomkndngnfneaaDoorProg
import Derived.Test.YtfomkndngnfneaaDoorGnT
namespace Go.Proofs
open Go.RowKit Go.Shelf
def Tryd.lays169_ren : Go.Shelf.Ren := ⟨fun | 169 => 25 | n => n, fun | 70 => 66 | 9 => 9 | 0 => 0 | 72 => 69 | 37 => 67 | 127 => 90 | 3 => 3 | 5 => 5 | n => n, fun | n => n⟩
theorem Tryd.lays169 : Go.Proofs.Lays.n169 Tryd.prog Tryd.lays169_ren := {
  mixed := by kernel_rfl
  f169 := Tryd.func25.trans (congrArg some (by kernel_rfl))
  t0 := Tryd.underlying0
  a0 := Tryd.isAgg0
  z0 := Tryd.sizeOf0
  v0 := Tryd.zeroValue0
  t3 := Tryd.underlying3
  a3 := Tryd.isAgg3
  z3 := Tryd.sizeOf3
  v3 := Tryd.zeroValue3
  t9 := Tryd.underlying9
  a9 := Tryd.isAgg9
  z9 := Tryd.sizeOf9
  v9 := Tryd.zeroValue9
  t37 := Tryd.underlying67
  a37 := Tryd.isAgg67
  z37 := Tryd.sizeOf67
  v37 := Tryd.zeroValue67
  t70 := Tryd.underlying66
  a70 := Tryd.isAgg66
  z70 := Tryd.sizeOf66
  v70 := Tryd.zeroValue66
  t72 := Tryd.underlying69
  a72 := Tryd.isAgg69
  z72 := Tryd.sizeOf69
  v72 := Tryd.zeroValue69
  t127 := Tryd.underlying90
  a127 := Tryd.isAgg90
  z127 := Tryd.sizeOf90
  v127 := Tryd.zeroValue90 }
def Tryd.lays156_ren : Go.Shelf.Ren := ⟨fun | 156 => 28 | 165 => 34 | 166 => 24 | 169 => 25 | 240 => 32 | 241 => 46 | 276 => 44 | 277 => 62 | n => n, fun | 31 => 60 | 9 => 9 | 3 => 3 | 4 => 4 | 0 => 0 | 20 => 20 | 72 => 69 | 76 => 72 | 70 => 66 | 37 => 67 | 75 => 71 | 127 => 90 | 164 => 109 | 5 => 5 | 80 => 74 | n => n, fun | n => n⟩
theorem Tryd.lays156 : Go.Proofs.Lays.n156 Tryd.prog Tryd.lays156_ren := {
  mixed := by kernel_rfl
  f156 := Tryd.func28.trans (congrArg some (by kernel_rfl))
  f165 := Tryd.func34.trans (congrArg some (by kernel_rfl))
  f166 := Tryd.func24.trans (congrArg some (by kernel_rfl))
  f169 := Tryd.func25.trans (congrArg some (by kernel_rfl))
  f240 := Tryd.func32.trans (congrArg some (by kernel_rfl))
  f241 := Tryd.func46.trans (congrArg some (by kernel_rfl))
  f276 := Tryd.func44.trans (congrArg some (by kernel_rfl))
  f277 := Tryd.func62.trans (congrArg some (by kernel_rfl))
  t0 := Tryd.underlying0
  a0 := Tryd.isAgg0
  z0 := Tryd.sizeOf0
  v0 := Tryd.zeroValue0
  t3 := Tryd.underlying3
  a3 := Tryd.isAgg3
  z3 := Tryd.sizeOf3
  v3 := Tryd.zeroValue3
  t4 := Tryd.underlying4
  a4 := Tryd.isAgg4
  z4 := Tryd.sizeOf4
  v4 := Tryd.zeroValue4
  t9 := Tryd.underlying9
  a9 := Tryd.isAgg9
  z9 := Tryd.sizeOf9
  v9 := Tryd.zeroValue9
  t20 := Tryd.underlying20
  a20 := Tryd.isAgg20
  z20 := Tryd.sizeOf20
  v20 := Tryd.zeroValue20
  t31 := Tryd.underlying60
  a31 := Tryd.isAgg60
  z31 := Tryd.sizeOf60
  v31 := Tryd.zeroValue60
  t37 := Tryd.underlying67
  a37 := Tryd.isAgg67
  z37 := Tryd.sizeOf67
  v37 := Tryd.zeroValue67
  t70 := Tryd.underlying66
  a70 := Tryd.isAgg66
  z70 := Tryd.sizeOf66
  v70 := Tryd.zeroValue66
  t72 := Tryd.underlying69
  a72 := Tryd.isAgg69
  z72 := Tryd.sizeOf69
  v72 := Tryd.zeroValue69
  t75 := Tryd.underlying71
  a75 := Tryd.isAgg71
  z75 := Tryd.sizeOf71
  v75 := Tryd.zeroValue71
  t76 := Tryd.underlying72
  a76 := Tryd.isAgg72
  z76 := Tryd.sizeOf72
  v76 := Tryd.zeroValue72
  t127 := Tryd.underlying90
  a127 := Tryd.isAgg90
  z127 := Tryd.sizeOf90
  v127 := Tryd.zeroValue90
  t164 := Tryd.underlying109
  a164 := Tryd.isAgg109
  z164 := Tryd.sizeOf109
  v164 := Tryd.zeroValue109 }
def Tryd.laysM171_ren : Go.Shelf.Ren := ⟨fun | 171 => 19 | 243 => 29 | 246 => 35 | 283 => 47 | 284 => 48 | 285 => 49 | 286 => 50 | 129 => 64 | 317 => 63 | 318 => 65 | 319 => 66 | 320 => 67 | 337 => 82 | 338 => 83 | n => n, fun | 3 => 3 | 9 => 9 | 2 => 2 | 4 => 4 | 171 => 112 | 0 => 0 | 53 => 113 | 37 => 67 | 5 => 5 | 173 => 116 | 212 => 143 | 51 => 144 | 20 => 20 | 213 => 145 | 46 => 138 | 232 => 175 | 233 => 176 | n => n, fun | 17 => 0 | 18 => 9 | 19 => 10 | n => n⟩
theorem Tryd.laysM171 : Go.Proofs.LaysM.n171 Tryd.prog Tryd.laysM171_ren := {
  mixed := by kernel_rfl
  f129 := Tryd.func64.trans (congrArg some (by kernel_rfl))
  f171 := Tryd.func19.trans (congrArg some (by kernel_rfl))
  f243 := Tryd.func29.trans (congrArg some (by kernel_rfl))
  f246 := Tryd.func35.trans (congrArg some (by kernel_rfl))
  f283 := Tryd.func47.trans (congrArg some (by kernel_rfl))
  f284 := Tryd.func48.trans (congrArg some (by kernel_rfl))
  f285 := Tryd.func49.trans (congrArg some (by kernel_rfl))
  f286 := Tryd.func50.trans (congrArg some (by kernel_rfl))
  f317 := Tryd.func63.trans (congrArg some (by kernel_rfl))
  f318 := Tryd.func65.trans (congrArg some (by kernel_rfl))
  f319 := Tryd.func66.trans (congrArg some (by kernel_rfl))
  f320 := Tryd.func67.trans (congrArg some (by kernel_rfl))
  f337 := Tryd.func82.trans (congrArg some (by kernel_rfl))
  f338 := Tryd.func83.trans (congrArg some (by kernel_rfl))
  t0 := Tryd.underlying0
  a0 := Tryd.isAgg0
  z0 := Tryd.sizeOf0
  v0 := Tryd.zeroValue0
  t2 := Tryd.underlying2
  a2 := Tryd.isAgg2
  z2 := Tryd.sizeOf2
  v2 := Tryd.zeroValue2
  t3 := Tryd.underlying3
  a3 := Tryd.isAgg3
  z3 := Tryd.sizeOf3
  v3 := Tryd.zeroValue3
  t4 := Tryd.underlying4
  a4 := Tryd.isAgg4
  z4 := Tryd.sizeOf4
  v4 := Tryd.zeroValue4
  t5 := Tryd.underlying5
  a5 := Tryd.isAgg5
  z5 := Tryd.sizeOf5
  v5 := Tryd.zeroValue5
  t9 := Tryd.underlying9
  a9 := Tryd.isAgg9
  z9 := Tryd.sizeOf9
  v9 := Tryd.zeroValue9
  t20 := Tryd.underlying20
  a20 := Tryd.isAgg20
  z20 := Tryd.sizeOf20
  v20 := Tryd.zeroValue20
  t37 := Tryd.underlying67
  a37 := Tryd.isAgg67
  z37 := Tryd.sizeOf67
  v37 := Tryd.zeroValue67
  t46 := Tryd.underlying138
  a46 := Tryd.isAgg138
  z46 := Tryd.sizeOf138
  v46 := Tryd.zeroValue138
  t51 := Tryd.underlying144
  a51 := Tryd.isAgg144
  z51 := Tryd.sizeOf144
  v51 := Tryd.zeroValue144
  t53 := Tryd.underlying113
  a53 := Tryd.isAgg113
  z53 := Tryd.sizeOf113
  v53 := Tryd.zeroValue113
  t171 := Tryd.underlying112
  a171 := Tryd.isAgg112
  z171 := Tryd.sizeOf112
  v171 := Tryd.zeroValue112
  t173 := Tryd.underlying116
  a173 := Tryd.isAgg116
  z173 := Tryd.sizeOf116
  v173 := Tryd.zeroValue116
  t212 := Tryd.underlying143
  a212 := Tryd.isAgg143
  z212 := Tryd.sizeOf143
  v212 := Tryd.zeroValue143
  t213 := Tryd.underlying145
  a213 := Tryd.isAgg145
  z213 := Tryd.sizeOf145
  t232 := Tryd.underlying175
  a232 := Tryd.isAgg175
  z232 := Tryd.sizeOf175
  v232 := Tryd.zeroValue175
  t233 := Tryd.underlying176
  a233 := Tryd.isAgg176
  z233 := Tryd.sizeOf176
  v233 := Tryd.zeroValue176
  g17 := by kernel_rfl
  g18 := by kernel_rfl
  g19 := by kernel_rfl
  i0 := by kernel_rfl
  i2 := by kernel_rfl
  i3 := by kernel_rfl
  i4 := by kernel_rfl
  i5 := by kernel_rfl
  i9 := by kernel_rfl
  i20 := by kernel_rfl
  i37 := by kernel_rfl
  i46 := by kernel_rfl
  i51 := by kernel_rfl
  i53 := by kernel_rfl
  i171 := by kernel_rfl
  i173 := by kernel_rfl
  i212 := by kernel_rfl
  i232 := by kernel_rfl
  i233 := by kernel_rfl
  m17 := by kernel_rfl
  m18 := by kernel_rfl
  m19 := by kernel_rfl }
def Tryd.lays177_ren : Go.Shelf.Ren := ⟨fun | 177 => 27 | 250 => 33 | 289 => 45 | 197 => 60 | 323 => 61 | 260 => 77 | 339 => 78 | 340 => 79 | 242 => 80 | 119 => 81 | 345 => 91 | 346 => 92 | 278 => 93 | n => n, fun | 9 => 9 | 5 => 5 | 4 => 4 | 3 => 3 | 37 => 67 | 21 => 21 | 105 => 136 | 46 => 138 | 119 => 166 | 0 => 0 | 139 => 169 | 138 => 168 | 49 => 170 | 234 => 171 | 131 => 122 | 51 => 144 | 236 => 173 | n => n, fun | 3 => 2 | 4 => 3 | 20 => 4 | 21 => 5 | 22 => 6 | 23 => 7 | 24 => 8 | n => n⟩
theorem Tryd.lays177 : Go.Proofs.Lays.n177 Tryd.prog Tryd.lays177_ren := {
  mixed := by kernel_rfl
  f119 := Tryd.func81.trans (congrArg some (by kernel_rfl))
  f177 := Tryd.func27.trans (congrArg some (by kernel_rfl))
  f197 := Tryd.func60.trans (congrArg some (by kernel_rfl))
  f242 := Tryd.func80.trans (congrArg some (by kernel_rfl))
  f250 := Tryd.func33.trans (congrArg some (by kernel_rfl))
  f260 := Tryd.func77.trans (congrArg some (by kernel_rfl))
  f278 := Tryd.func93.trans (congrArg some (by kernel_rfl))
  f289 := Tryd.func45.trans (congrArg some (by kernel_rfl))
  f323 := Tryd.func61.trans (congrArg some (by kernel_rfl))
  f339 := Tryd.func78.trans (congrArg some (by kernel_rfl))
  f340 := Tryd.func79.trans (congrArg some (by kernel_rfl))
  f345 := Tryd.func91.trans (congrArg some (by kernel_rfl))
  f346 := Tryd.func92.trans (congrArg some (by kernel_rfl))
  t0 := Tryd.underlying0
  a0 := Tryd.isAgg0
  z0 := Tryd.sizeOf0
  v0 := Tryd.zeroValue0
  t3 := Tryd.underlying3
  a3 := Tryd.isAgg3
  z3 := Tryd.sizeOf3
  v3 := Tryd.zeroValue3
  t4 := Tryd.underlying4
  a4 := Tryd.isAgg4
  z4 := Tryd.sizeOf4
  v4 := Tryd.zeroValue4
  t5 := Tryd.underlying5
  a5 := Tryd.isAgg5
  z5 := Tryd.sizeOf5
  v5 := Tryd.zeroValue5
  t9 := Tryd.underlying9
  a9 := Tryd.isAgg9
  z9 := Tryd.sizeOf9
  v9 := Tryd.zeroValue9
  t21 := Tryd.underlying21
  a21 := Tryd.isAgg21
  z21 := Tryd.sizeOf21
  v21 := Tryd.zeroValue21
  t37 := Tryd.underlying67
  a37 := Tryd.isAgg67
  z37 := Tryd.sizeOf67
  v37 := Tryd.zeroValue67
  t46 := Tryd.underlying138
  a46 := Tryd.isAgg138
  z46 := Tryd.sizeOf138
  v46 := Tryd.zeroValue138
  t49 := Tryd.underlying170
  a49 := Tryd.isAgg170
  z49 := Tryd.sizeOf170
  v49 := Tryd.zeroValue170
  t51 := Tryd.underlying144
  a51 := Tryd.isAgg144
  z51 := Tryd.sizeOf144
  v51 := Tryd.zeroValue144
  t105 := Tryd.underlying136
  a105 := Tryd.isAgg136
  z105 := Tryd.sizeOf136
  v105 := Tryd.zeroValue136
  t119 := Tryd.underlying166
  a119 := Tryd.isAgg166
  z119 := Tryd.sizeOf166
  t131 := Tryd.underlying122
  a131 := Tryd.isAgg122
  z131 := Tryd.sizeOf122
  v131 := Tryd.zeroValue122
  t138 := Tryd.underlying168
  a138 := Tryd.isAgg168
  z138 := Tryd.sizeOf168
  v138 := Tryd.zeroValue168
  t139 := Tryd.underlying169
  a139 := Tryd.isAgg169
  z139 := Tryd.sizeOf169
  v139 := Tryd.zeroValue169
  t234 := Tryd.underlying171
  a234 := Tryd.isAgg171
  z234 := Tryd.sizeOf171
  v234 := Tryd.zeroValue171
  t236 := Tryd.underlying173
  a236 := Tryd.isAgg173
  z236 := Tryd.sizeOf173
  v236 := Tryd.zeroValue173
  g3 := by kernel_rfl
  g4 := by kernel_rfl
  g20 := by kernel_rfl
  g21 := by kernel_rfl
  g22 := by kernel_rfl
  g23 := by kernel_rfl
  g24 := by kernel_rfl }
theorem Tryd.Builder_Extra_156 : Builder.Extra Tryd.prog Tryd.lays156_ren where
  sizeBuilder := by kernel_rfl
  liesBuilder := by kernel_rfl
  t5 := Tryd.underlying5
  a5 := Tryd.isAgg5
  z5 := Tryd.sizeOf5
  v5 := Tryd.zeroValue5
  infoByte := by kernel_rfl
  cellsByte := by kernel_rfl
  sizeByte := by kernel_rfl
  neB5 := by decide
theorem Tryd.Builder_Extra_169 : Builder.Extra Tryd.prog Tryd.lays169_ren where
  sizeBuilder := by kernel_rfl
  liesBuilder := by kernel_rfl
  t5 := Tryd.underlying5
  a5 := Tryd.isAgg5
  z5 := Tryd.sizeOf5
  v5 := Tryd.zeroValue5
  infoByte := by kernel_rfl
  cellsByte := by kernel_rfl
  sizeByte := by kernel_rfl
  neB5 := by decide
end Go.Proofs
namespace Go.Proofs.YtfomkndngnfneaaDoor.VM
open Go Go.RowKit Go.Shelf Go.Proofs Go.Proofs.YtfomkndngnfneaaDoor.Sx
set_option linter.unusedVariables false
set_option linter.unusedSimpArgs false
/-! ### Tables of the library's -/
theorem cell_le {W w : World} (hl : Le (hp W) (hp w)) {a : Addr} {v : Value} (h : W.cell? a = some v) : w.cell? a = some v := by
  unfold World.cell? at h ⊢
  cases hW : W.heap[a.block]? with
  | none => rw [hW] at h; cases h
  | some o =>
    rw [hW] at h
    have : w.heap[a.block]? = some o := hl _ _ hW
    rw [this]
    exact h
theorem var_le {P : Program} {W w : World} (hl : Le (hp W) (hp w)) {nm : String} {cs : Array Value} (h : W.var? P nm = some cs) : w.var? P nm = some cs := by
  unfold World.var? at h ⊢
  cases hg : P.globalNamed nm with
  | none => rw [hg] at h; cases h
  | some g =>
    rw [hg] at h
    simp only [Option.bind_some] at h ⊢
    cases hW : W.heap[g]? with
    | none => rw [hW] at h; cases h
    | some o =>
      rw [hW] at h
      have : w.heap[g]? = some o := hl _ _ hW
      rw [this]
      exact h
abbrev T16 : Nat := Tryd.lays177_ren.g 20
abbrev TN16 : Nat := Tryd.lays177_ren.g 21
abbrev T32 : Nat := Tryd.lays177_ren.g 22
abbrev TN32 : Nat := Tryd.lays177_ren.g 23
abbrev TF : Nat := Tryd.lays177_ren.g 3
abbrev TAc : Nat := Tryd.lays177_ren.g 4
/-- What the tables hold, in a world. -/
def TBw (w : World) : Prop := Lib.TabIs Tryd.prog w "internal/strconv.uint64pow10" .u64 Lib.pow10Tab ∧ Lib.PrintTabsAt T16 TN16 T32 TN32 Lib.goPrintTabs w ∧ Lib.Utf8Tabs TF TAc w
theorem tabSlice_le {W w : World} (hl : Le (hp W) (hp w)) {g : Nat} {k : IntKind} {t : List Nat} (h : Lib.TabSlice g k t W) : Lib.TabSlice g k t w := by
  obtain ⟨R, o, c, h1, h2⟩ := h
  exact ⟨R, o, c, cell_le hl h1, fun j hj => cell_le hl (h2 j hj)⟩
theorem TBw.le {W w : World} (h : TBw W) (hl : Le (hp W) (hp w)) : TBw w := by
  obtain ⟨h1, ⟨a1, a2, a3, a4, a5⟩, b1, b2⟩ := h
  exact ⟨var_le hl h1, ⟨tabSlice_le hl a1, tabSlice_le hl a2, tabSlice_le hl a3, tabSlice_le hl a4, a5⟩, fun c hc => cell_le hl (b1 c hc), fun i hi => ⟨cell_le hl (b2 i hi).1, cell_le hl (b2 i hi).2⟩⟩
/-- What stands still holds the tables. -/
def TB (z : Zp) : Prop := ∀ w : World, Le z (hp w) → TBw w
theorem TB.mono {z z' : Zp} (h : TB z) (hl : Le z z') : TB z' := fun w hw => h w (fun k o hk => hw k o (hl k o hk))
theorem TB.of {W : World} (h : TBw W) : TB (hp W) := fun w hw => h.le hw
/-! ### Numbers as texts -/
def itoa (p0 : Int) : Option Str := if -9223372036854775808 ≤ p0 ∧ p0 ≤ 9223372036854775807 then some (Lib.itoa p0) else none
theorem itoa.walk {w0 w : World} {X : List Res} {z0 : Zp} {p0 : Int} {r : Str} (hst : Ht w0 (frz z0 :: X) w) (hT : TB z0) (hf : itoa p0 = some r) :
    Calls Tryd.prog 19 #[vi p0] w fun e w' => ∃ (z' : Zp), e = .returned (vs r) ∧ Le z0 z' ∧ Ht w0 (frz z' :: X) w' := by
  unfold itoa at hf
  split at hf
  · rename_i hb
    cases hf
    have h : Calls Tryd.prog 19 #[.int .i64 p0] w _ := Any.strconv_Itoa Tryd.laysM171 p0 hb.1 hb.2 w (hT w hst.le).1
    refine Calls.mono h ?_
    rintro e w' ⟨rfl, k, os, rfl⟩
    exact ⟨z0, rfl, Le.refl _, hst.idle (Fr.of_below (Lib.below_grow w.heap.size w (Nat.le_refl _) k os) _)⟩
  · cases hf
/-! ### Quoted texts -/
def quoteF (s : Str) : Str := (strOfNums (Lib.quoteZ Lib.goPrintTabs ⟨s.toArray⟩)).data.toList
def quote (p0 : Str) : Option Str := if 10 * p0.length + 12 ≤ 140737488355328 then some (quoteF p0) else none
theorem quote.walk {w0 w : World} {X : List Res} {z0 : Zp} {p0 r : Str} (hst : Ht w0 (frz z0 :: X) w) (hT : TB z0) (hf : quote p0 = some r) :
    Calls Tryd.prog 27 #[vs p0] w fun e w' => ∃ (z' : Zp), e = .returned (vs r) ∧ Le z0 z' ∧ Ht w0 (frz z' :: X) w' := by
  unfold quote at hf
  split at hf
  · rename_i hb
    cases hf
    have hw := hT w hst.le
    have h : Calls Tryd.prog 27 #[.string ⟨p0.toArray⟩] w _ := Any.strconv_Quote Tryd.lays177 (by kernel_rfl) Lib.goPrintTabs ⟨p0.toArray⟩ w (by simpa [ByteArray.size] using hb) hw.2.1 hw.2.2
    refine Calls.mono h ?_
    rintro e w' ⟨rfl, hB⟩
    exact ⟨z0, rfl, Le.refl _, hst.idle (Fr.of_below hB _)⟩
  · cases hf
/-! ### Joined texts -/
theorem all2_one {α : Type} {v : α → Value} : ∀ {css : List (List Value)} {xs : List α}, All2 (fun c x => c = [v x]) css xs → css.flatten = xs.map v
  | [], [], _ => rfl
  | c :: css, x :: xs, h => by
    have h1 : c = [v x] := h.1
    rw [List.flatten_cons, h1, all2_one h.2]
    rfl
  | [], _ :: _, h => h.elim
  | _ :: _, [], h => h.elim
theorem Cs.strs {ζ : Zp} {d : List Value} {l : List Str} (h : Cs tS ζ d l) : d = l.map vs := by
  obtain ⟨css, h1, rfl⟩ := h
  exact all2_one (v := vs) h1
def join (p0 : List Str) (p1 : Str) : Option Str := if p0.length ≤ 140737488355328 ∧ (Lib.join p0 p1).length ≤ 140737488355328 then some (Lib.join p0 p1) else none
theorem join.walk {w0 w : World} {X : List Res} {z0 : Zp} {p0 : List Str} {p1 r : Str} {A : Option Addr} {c : Nat} (hst : Ht w0 (frz z0 :: X) w) (f0 : Sl tS z0 A c p0) (hf : join p0 p1 = some r) :
    Calls Tryd.prog 28 #[.slice A p0.length c, vs p1] w fun e w' => ∃ (z' : Zp), e = .returned (vs r) ∧ Le z0 z' ∧ Ht w0 (frz z' :: X) w' := by
  unfold join at hf
  split at hf
  · rename_i hb
    cases hf
    obtain ⟨h1, h2, d, h3, h4⟩ := f0
    have hd := Cs.strs h3
    subst hd
    rcases h4 with rfl | ⟨g, o, rfl, h4⟩
    · have h : Calls Tryd.prog 28 #[.slice A 0 c, .string ⟨p1.toArray⟩] w _ := Any.strings_Join_none Tryd.lays156 Tryd.Builder_Extra_156 A c ⟨p1.toArray⟩ w
      refine Calls.mono h ?_
      rintro e w' ⟨rfl, rfl⟩
      exact ⟨z0, rfl, Le.refl _, hst⟩
    · rcases Nat.eq_zero_or_pos p0.length with h0 | hpos
      · have : p0 = [] := List.eq_nil_of_length_eq_zero h0
        subst this
        have h : Calls Tryd.prog 28 #[.slice (some ⟨g, o, none⟩) 0 c, .string ⟨p1.toArray⟩] w _ := Any.strings_Join_none Tryd.lays156 Tryd.Builder_Extra_156 _ c ⟨p1.toArray⟩ w
        refine Calls.mono h ?_
        rintro e w' ⟨rfl, rfl⟩
        exact ⟨z0, rfl, Le.refl _, hst⟩
      have hc := cells_of_zc (w := w) rfl (h4.mono hst.le)
      have hcell : ∀ (j : Nat) (x : ByteArray), (p0.map fun s => (⟨s.toArray⟩ : ByteArray))[j]? = some x → w.cell? ⟨g, o + j, none⟩ = some (.string x) := fun j x hx => by
        rw [List.getElem?_map] at hx
        obtain ⟨s, hs, rfl⟩ := Option.map_eq_some_iff.1 hx
        have := hc j (vs s) (by rw [List.getElem?_map, hs]; rfl)
        rw [addr_lit rfl] at this
        exact this
      have hm : (p0.map fun s => (⟨s.toArray⟩ : ByteArray)).map (·.data.toList) = p0 := by simp [List.map_map, Function.comp_def]
      have hg : g < w.heap.size := by
        have h0 := hcell 0 ⟨p0[0].toArray⟩ (by simp [hpos])
        unfold World.cell? at h0
        rcases Nat.lt_or_ge g w.heap.size with h' | h'
        · exact h'
        · rw [Array.getElem?_eq_none h'] at h0; cases h0
      have h := Any.strings_Join Tryd.lays156 Tryd.Builder_Extra_156 g o c (p0.map fun s => (⟨s.toArray⟩ : ByteArray)) ⟨p1.toArray⟩ w hcell hg (by simpa using hb.1) (by simpa using h1) (by rw [hm]; exact hb.2)
      rw [hm, List.length_map] at h
      refine Calls.mono h ?_
      rintro e w' ⟨rfl, hB⟩
      exact ⟨z0, rfl, Le.refl _, hst.idle (Fr.of_below hB _)⟩
  · cases hf
/-! ### A builder of texts -/
/-- A builder's pointer to itself, or none yet. -/
def bp (g : Nat) (b : Bool) : Value := .pointer (if b then some ⟨g, 0, none⟩ else none)
theorem copyCheck.walk {w0 w : World} {X : List Res} {z0 : Zp} {g : Nat} {u : Bool} {v : Value} (hst : Ht w0 (frz z0 :: blk g [bp g u, v] 69 :: X) w) :
    Calls Tryd.prog 32 #[.pointer (some ⟨g, 0, none⟩)] w fun e w' => e = .returned (.tuple #[]) ∧ Ht w0 (frz z0 :: blk g [bp g true, v] 69 :: X) w' := by
  have hb : w.heap[g]? = some (.cells #[bp g u, v] 69 (0, 0)) := hst.get (i := 1) rfl
  cases u with
  | true =>
    have h : Calls Tryd.prog 32 #[.pointer (some ⟨g, 0, none⟩)] w _ := Any.Builder_copyCheck_used { Tryd.lays156 with } Tryd.Builder_Extra_156.toX72 g w (by rw [Lib.cell_of_heap hb]; rfl)
    refine Calls.mono h ?_
    rintro e w' ⟨rfl, rfl⟩
    exact ⟨rfl, hst⟩
  | false =>
    have h : Calls Tryd.prog 32 #[.pointer (some ⟨g, 0, none⟩)] w _ := Any.Builder_copyCheck_fresh { Tryd.lays156 with } Tryd.Builder_Extra_156.toX72 g w (by rw [Lib.cell_of_heap hb]; rfl) (by simp [World.shape?, hb]; rfl) (Lib.frozen_of_heap hb 0)
    refine Calls.mono h ?_
    rintro e w' ⟨rfl, rfl⟩
    refine ⟨rfl, ?_⟩
    have hlt : g < w.heap.size := hst.lt (i := 1) rfl rfl
    refine hst.upd (R' := blk g [bp g true, v] 69) 1 rfl (w' := w.setCell ⟨g, 0, none⟩ (.pointer (some ⟨g, 0, none⟩))) ⟨rfl, rfl, rfl, by simp [World.setCell], fun k _ hk => Below.heap_setCell _ _ _ _ (fun e => hk e)⟩ ?_ (fun k hk => ⟨.inl hk, ?_⟩)
    · show (w.setCell ⟨g, 0, none⟩ (.pointer (some ⟨g, 0, none⟩))).heap[g]? = _
      simp [World.setCell, Array.getElem?_modify, hb, bp]
    · have hk' : k = g := hk
      subst hk'
      simpa [World.setCell] using hlt
theorem sz67 : (Tryd.prog.info? 67).map (·.size) = some 1 := by kernel_rfl
theorem inf5 : (Tryd.prog.info? 5).map (fun i => (i.zero, i.size, i.bytes)) = some (some (.int .u8 0), 1, 1) := by kernel_rfl
def wsO (l s : Str) : Option Str := apB 1 l s
set_option maxRecDepth 100000 in
set_option maxHeartbeats 4000000 in
theorem writeString.walk {w0 w : World} {X : List Res} {z0 : Zp} {g : Nat} {u : Bool} {A : Option Addr} {c : Nat} {d : List Value} {l s r : Str} (hst : Ht w0 (frz z0 :: blk g [bp g u, .slice A l.length c] 69 :: orow 5 1 (.slice A l.length c) l.length d :: X) w) (hd : Cs tU8 z0 d l) (hf : wsO l s = some r) :
    Calls Tryd.prog 24 #[.pointer (some ⟨g, 0, none⟩), vs s] w fun e w' => ∃ (z' : Zp) (A' : Option Addr) (c' : Nat) (d' : List Value), e = .returned (.tuple #[vi (s.length : Int), .nilIface]) ∧ Le z0 z' ∧ Cs tU8 z' d' r ∧ Ht w0 (frz z' :: blk g [bp g true, .slice A' r.length c'] 69 :: orow 5 1 (.slice A' r.length c') r.length d' :: X) w' := by
  refine calls_np Tryd.func24 rfl rfl ?_
  refine Run.seq ?_
  refine Run.region ?_
  refine Ops.ex (Ex.assign rfl) rfl rfl rfl ?_
  refine Ops.ex (Ex.assign rfl) rfl rfl rfl ?_
  refine Ops.nil ?_
  refine Run.seq ?_
  refine Run.region ?_
  refine Ops.ex (Ex.move rfl) rfl rfl rfl ?_
  refine Ops.call rfl rfl Tryd.func32 (by kernel_rfl) (by kernel_rfl) rfl (copyCheck.walk hst) ?_
  rintro _ w1 ⟨rfl, hst1⟩
  refine ⟨_, rfl, ?_⟩
  refine Ops.nil ?_
  refine Run.seq ?_
  refine Run.region ?_
  refine Ops.ex (Ex.move rfl) rfl rfl rfl ?_
  refine Ops.ex (Ex.move rfl) rfl rfl rfl ?_
  refine Ops.ex (Ex.nilCheck rfl) rfl rfl rfl ?_
  refine Ops.ex (Ex.fieldAddr rfl Tryd.underlying69 rfl sz67) rfl rfl rfl ?_
  refine Ops.load rfl Tryd.underlying67 rfl (hst1.cell (i := 1) rfl rfl) rfl ?_
  refine Ops.ex (Ex.move rfl) rfl rfl rfl ?_
  refine Ops.appS 2 hst1 rfl hd rfl hf rfl rfl rfl rfl Tryd.underlying67 Tryd.underlying9 inf5 (by decide) rfl (fun A4 c4 d4 w4 f4 hst4 => ?_)
  refine Ops.ex (Ex.nilCheck rfl) rfl rfl rfl ?_
  refine Ops.ex (Ex.fieldAddr rfl Tryd.underlying69 rfl sz67) rfl rfl rfl ?_
  refine Ops.store 1 [.slice A4 r.length c4] hst4 rfl rfl rfl rfl sz67 rfl (by simp [Value.oneCell']) (by simp) (fun w5 hst5 => ?_)
  refine Ops.nil ?_
  refine Run.seq ?_
  refine Run.region ?_
  refine Ops.ex (Ex.move rfl) rfl rfl rfl ?_
  refine Ops.ex (Ex.lenT rfl rfl rfl Tryd.underlying9) rfl rfl rfl ?_
  refine Ops.ex (Ex.assign rfl) rfl rfl rfl ?_
  refine Ops.ex (Ex.assign rfl) rfl rfl rfl ?_
  refine Ops.nil ?_
  exact Run.retV [vi (s.length : Int), .nilIface] rfl ⟨rfl, rfl, trivial⟩ ⟨z0, A4, c4, d4, rfl, Le.refl _, f4, hst5⟩
theorem liesAt_bytes {P : Program} {e : TypeId} (hc : P.cellsOf e = 1) (count o n : Nat) (hn : o + n ≤ count) : liesAt P P.depth e count o e n = true := by
  have hd : P.depth = (2 * (P.types.size + Made.depth) + 1) + 1 := rfl
  rw [hd]
  simp only [liesAt, Bool.or_eq_true]
  left
  rw [hd]
  simp [rowAt, hc, hn, sameLayout, Nat.mod_one]
theorem run_unsafeString {P : Program} (w : World) (pt it ty e : TypeId) (hp : P.underlying pt = some (.pointer e)) (hc : P.cellsOf e = 1) (g o cells : Nat) (hsh : w.shape? g = some (e, cells)) (l : List UInt8) (h0 : l ≠ []) (hn : o + l.length ≤ cells) (h63 : l.length ≤ 9223372036854775807)
    (hcell : ∀ j x, l[j]? = some x → w.cell? ((⟨g, o, none⟩ : Addr).add j) = some (.int .u8 x.toNat)) :
    (Builtin.unsafeString_ #[pt, it] ty #[.pointer (some ⟨g, o, none⟩), .int .i64 l.length]).run P w = .ok (.string ⟨l.toArray⟩) (w.freeze ⟨g, o, none⟩ l.length) := by
  have hl : l.length ≠ 0 := by simpa using h0
  have hlb := Lib.run_loadBytes (P := P) w l ⟨g, o, none⟩ .empty hcell
  have hlies := liesAt_bytes (P := P) hc (cells / P.cellsOf e) o l.length (by rw [hc]; simpa using hn)
  have h63' : ¬ (9223372036854775807 : Int) < (l.length : Int) := by omega
  have hdef : Builtin.unsafeString_ #[pt, it] ty #[.pointer (some ⟨g, o, none⟩), .int .i64 l.length] =
      (do
        let n ← asInt (.int .i64 l.length)
        if n < 0 then runtimePanic (.error "unsafe.String: len out of range")
        if n > IntKind.i64.max then unsupported (.unsafePointer "String: a length above the largest int")
        if n = 0 then pure (.string .empty)
        else if ← variablesAt ⟨g, o, none⟩ (← elemOf pt) n.toNat then do
          let s ← loadBytes ⟨g, o, none⟩ .empty n.toNat
          freeze ⟨g, o, none⟩ n.toNat
          pure (.string s)
        else unsupported (.unsafePointer "String: not so many bytes at ptr")) := rfl
  rw [hdef]
  have hmax : IntKind.i64.max = 9223372036854775807 := rfl
  have hneg : ¬ (l.length : Int) < 0 := by omega
  simp [asInt, asIntOf, hmax, h63', hneg, hl, variablesAt, hsh, elemOf, run_underlying hp, hlies, hlb]
theorem Cs.byteCells {ζ : Zp} {d : List Value} {l : Str} (h : Cs tU8 ζ d l) : d = Lib.byteCells l := by
  obtain ⟨css, h1, rfl⟩ := h
  exact all2_one (v := fun x => vu8 x) h1
/-- What a builder holds, if there is anything. -/
def bsO (l : Str) : Option Str := if l = [] then none else some l
set_option maxHeartbeats 1000000 in
set_option maxRecDepth 100000 in
theorem bString {P : Program} {ρ : Go.Shelf.Ren} (L : Lays.n169 P ρ) (X : Builder.Extra P ρ) (b g o cap : Nat) (p : Value) (cur : Array Value) (l : List UInt8) (w : World) (h0 : l ≠ [])
    (hbk : w.heap[b]? = some (.cells #[p, .slice (some ⟨g, o, none⟩) l.length cap] (ρ.t 72) (0, 0))) (hg : w.heap[g]? = some (.cells cur (ρ.t 5) (0, 0))) (hnc : l.length ≤ cap) (hcm : cap ≤ maxLen) (hcs : o + cap ≤ cur.size) (htake : (cur.toList.drop o).take l.length = Lib.byteCells l) :
    Calls P (ρ.f 169) #[.pointer (some ⟨b, 0, none⟩)] w fun e w' => e = .returned (.string ⟨l.toArray⟩) ∧ w' = w.drew.freeze ⟨g, o, none⟩ l.length := by
  have hl0 : l.length ≠ 0 := by simpa using h0
  have c1 : w.drew.cell? ⟨b, 1, none⟩ = some (.slice (some ⟨g, o, none⟩) l.length cap) := by
    have : w.drew.heap[b]? = some (.cells #[p, .slice (some ⟨g, o, none⟩) l.length cap] (ρ.t 72) (0, 0)) := hbk
    rw [Lib.cell_of_heap this]; rfl
  have hSD : (Builtin.unsafeSliceData_ #[(ρ.t 37)] (ρ.t 127) #[.slice (some ⟨g, o, none⟩) l.length cap]).run P w.drew = .ok (.pointer (some ⟨g, o, none⟩)) w.drew :=
    Lib.run_unsafeSliceData_row _ _ _ _ _ _ (by omega)
  have hg' : w.drew.heap[g]? = some (.cells cur (ρ.t 5) (0, 0)) := hg
  have hUS : (Builtin.unsafeString_ #[(ρ.t 127), (ρ.t 3)] (ρ.t 9) #[.pointer (some ⟨g, o, none⟩), .int .i64 l.length]).run P w.drew = .ok (.string ⟨l.toArray⟩) (w.drew.freeze ⟨g, o, none⟩ l.length) := by
    refine run_unsafeString w.drew (ρ.t 127) (ρ.t 3) (ρ.t 9) (ρ.t 5) L.t127 X.cellsByte g o cur.size (by simp [World.shape?, hg']) l h0 (by omega) (by unfold maxLen at hcm; omega) ?_
    intro j x hx
    have hj : j < l.length := (List.getElem?_eq_some_iff.1 hx).1
    have h1 : ((cur.toList.drop o).take l.length)[j]? = some (.int .u8 x.toNat) := by
      rw [htake]
      unfold Lib.byteCells
      rw [List.getElem?_map, hx]
      rfl
    rw [List.getElem?_take_of_lt hj, List.getElem?_drop, Array.getElem?_toList] at h1
    rw [addr_lit rfl, Lib.cell_of_heap hg' (o + j)]
    exact h1
  have mixed := L.mixed
  have t72 := L.t72; have a72 := L.a72; have z72 := L.z72; have v72 := L.v72; have u72 := run_underlying L.t72
  have t70 := L.t70; have a70 := L.a70; have z70 := L.z70; have v70 := L.v70; have u70 := run_underlying L.t70
  have t37 := L.t37; have a37 := L.a37; have z37 := L.z37; have v37 := L.v37; have u37 := run_underlying L.t37
  have t127 := L.t127; have a127 := L.a127; have z127 := L.z127; have v127 := L.v127; have u127 := run_underlying L.t127
  have t3 := L.t3; have a3 := L.a3; have z3 := L.z3; have v3 := L.v3; have u3 := run_underlying L.t3
  have t9 := L.t9; have a9 := L.a9; have z9 := L.z9; have v9 := L.v9; have u9 := run_underlying L.t9
  have t5 := X.t5; have a5 := X.a5; have z5 := X.z5; have v5 := X.v5; have u5 := run_underlying X.t5
  go_enter L.f169, Body.n169_ntmps ρ
  go_wp2
  go_region_o
  all_goals (go_wp2; go_ret; exact ⟨rfl, rfl⟩)
theorem bString.walk {w0 w : World} {X : List Res} {z0 : Zp} {g : Nat} {u : Bool} {A : Option Addr} {c : Nat} {d : List Value} {l r : Str} (hst : Ht w0 (frz z0 :: blk g [bp g u, .slice A l.length c] 69 :: orow 5 1 (.slice A l.length c) l.length d :: X) w) (hd : Cs tU8 z0 d l) (hf : bsO l = some r) :
    Calls Tryd.prog 25 #[.pointer (some ⟨g, 0, none⟩)] w fun e w' => ∃ (z' : Zp), e = .returned (vs r) ∧ Le z0 z' ∧ Ht w0 (frz z' :: X) w' := by
  unfold bsO at hf
  split at hf
  · cases hf
  · rename_i hne
    cases hf
    have hbk : w.heap[g]? = some (.cells #[bp g u, .slice A l.length c] 69 (0, 0)) := hst.get (i := 1) rfl
    obtain ⟨h1, h2, h3⟩ := hst.get (i := 2) rfl
    rcases h3 with ⟨_, h0⟩ | ⟨q, o, cap, cur, hv, hq, hn, hm, ho, ht⟩
    · exact absurd (List.eq_nil_of_length_eq_zero h0) hne
    cases hv
    have hq' : w.heap[q]? = some (.cells cur 5 (0, 0)) := hq
    have h : Calls Tryd.prog 25 #[.pointer (some ⟨g, 0, none⟩)] w _ := bString (ρ := Tryd.lays169_ren) Tryd.lays169 Tryd.Builder_Extra_169 g q o c (bp g u) cur l w hne hbk hq' hn hm (by simpa using ho) (by rw [← Cs.byteCells hd, ← ht, Nat.mul_one])
    refine Calls.mono h ?_
    rintro e w' ⟨rfl, rfl⟩
    refine ⟨z0, rfl, Le.refl _, ?_⟩
    have hlt : q < w.heap.size := hst.lt (i := 2) rfl rfl
    have hfr : Fr w (w.drew.freeze ⟨q, o, none⟩ l.length) (fun k => (Value.slice (some ⟨q, o, none⟩) l.length c).ownBlock = some k) := by
      unfold World.freeze
      split
      · exact ⟨rfl, rfl, rfl, Nat.le_refl _, fun _ _ _ => rfl⟩
      · refine ⟨rfl, rfl, rfl, by simp, fun k _ hk => ?_⟩
        have hkq : q ≠ k := fun he => hk (by rw [← he]; rfl)
        show (w.drew.heap.modify q _)[k]? = w.heap[k]?
        rw [Array.getElem?_modify, if_neg hkq]
        rfl
    have hu := hst.upd (R' := emp) 2 rfl hfr trivial (fun k hk => hk.elim)
    exact hu.sub (List.Sublist.cons_cons _ (List.Sublist.cons _ (List.Sublist.cons _ (List.Sublist.refl _))))
end Go.Proofs.YtfomkndngnfneaaDoor.VM
