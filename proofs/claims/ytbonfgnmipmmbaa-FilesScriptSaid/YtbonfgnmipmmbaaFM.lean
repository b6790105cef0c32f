/- maps.Clone, slices.Sorted(maps.Keys(..)) at this program: the library's contracts, in words of resources. -/
import Derived.Shelf.SlLaysW
import Derived.Shelf.SlGeneric
import Derived.Shelf.SlMaps.Clone
import Derived.Shelf.SlIter.Nil
import Derived.Shelf.SortM.Plain
import Derived.Shelf.SortM.SortNone
import Derived.Test.YtbonfgnmipmmbaaProg
import Derived.Test.YtbonfgnmipmmbaaGnQ
namespace Go.Proofs
open Go.RowKit Go.Maps Go.Sort Go.Shelf
def Try.cloneM_ren : Go.Shelf.Ren := ⟨fun | 5 => 38 | 7 => 49 | n => n, fun | 23 => 65 | 25 => 9 | 3 => 69 | 4 => 4 | 20 => 20 | n => n, fun | n => n⟩
theorem Try.cloneM : Go.Proofs.SlLaysW.n5 Try.prog Try.cloneM_ren := {
  mixed := by kernel_rfl
  f5 := ⟨Try.f38.name, by decide, Try.func38.trans (congrArg some (by kernel_rfl))⟩
  f7 := Try.func49.trans (congrArg some (by kernel_rfl))
  t4 := Try.underlying4
  a4 := Try.isAgg4
  z4 := Try.sizeOf4
  v4 := Try.zeroValue4
  t20 := Try.underlying20
  a20 := Try.isAgg20
  z20 := Try.sizeOf20
  v20 := Try.zeroValue20
  t23 := Try.underlying65
  a23 := Try.isAgg65
  z23 := Try.sizeOf65
  v23 := Try.zeroValue65 }
def Try.keys44_ren : Go.Shelf.Ren := ⟨fun | 7 => 44 | 10 => 52 | n => n, fun | 23 => 65 | 26 => 9 | 3 => 69 | 28 => 83 | 0 => 0 | 27 => 82 | 33 => 92 | 4 => 4 | n => n, fun | n => n⟩
theorem Try.keys44 : Go.Proofs.SlLaysZ.n7 Try.prog Try.keys44_ren := {
  mixed := by kernel_rfl
  f7 := ⟨Try.f44.name, by decide, Try.func44.trans (congrArg some (by kernel_rfl))⟩
  f10 := ⟨Try.f52.name, by decide, Try.func52.trans (congrArg some (by kernel_rfl))⟩
  t0 := Try.underlying0
  a0 := Try.isAgg0
  z0 := Try.sizeOf0
  v0 := Try.zeroValue0
  t4 := Try.underlying4
  a4 := Try.isAgg4
  z4 := Try.sizeOf4
  v4 := Try.zeroValue4
  t23 := Try.underlying65
  a23 := Try.isAgg65
  z23 := Try.sizeOf65
  v23 := Try.zeroValue65
  t26 := Try.underlying9
  a26 := Try.isAgg9
  z26 := Try.sizeOf9
  v26 := Try.zeroValue9
  t27 := Try.underlying82
  a27 := Try.isAgg82
  z27 := Try.sizeOf82
  v27 := Try.zeroValue82
  t28 := Try.underlying83
  a28 := Try.isAgg83
  z28 := Try.sizeOf83
  v28 := Try.zeroValue83
  t33 := Try.underlying92
  a33 := Try.isAgg92
  z33 := Try.sizeOf92
  v33 := Try.zeroValue92 }
def Try.sorted43_ren : Go.Shelf.Ren := ⟨fun | 6 => 43 | 8 => 50 | 9 => 51 | 11 => 53 | 13 => 55 | 12 => 54 | 23 => 65 | 24 => 66 | 14 => 56 | 15 => 57 | 16 => 58 | 17 => 59 | 18 => 60 | 19 => 61 | 20 => 62 | 21 => 63 | 22 => 64 | 25 => 67 | 26 => 68 | 27 => 69 | 28 => 70 | 29 => 71 | 30 => 72 | 31 => 73 | n => n, fun | 26 => 9 | 28 => 83 | 24 => 52 | 0 => 0 | 3 => 3 | 37 => 96 | 48 => 107 | 50 => 109 | 4 => 4 | 40 => 99 | 39 => 98 | 45 => 104 | 5 => 5 | 9 => 9 | 51 => 110 | 55 => 114 | 57 => 116 | 58 => 117 | 33 => 92 | n => n, fun | n => n⟩
theorem Try.sorted43 : Go.Proofs.SlLaysZ.n6 Try.prog Try.sorted43_ren := {
  mixed := by kernel_rfl
  f6 := ⟨Try.f43.name, by decide, Try.func43.trans (congrArg some (by kernel_rfl))⟩
  f8 := ⟨Try.f50.name, by decide, Try.func50.trans (congrArg some (by kernel_rfl))⟩
  f11 := ⟨Try.f53.name, by decide, Try.func53.trans (congrArg some (by kernel_rfl))⟩
  t0 := Try.underlying0
  a0 := Try.isAgg0
  z0 := Try.sizeOf0
  v0 := Try.zeroValue0
  t24 := Try.underlying52
  a24 := Try.isAgg52
  z24 := Try.sizeOf52
  v24 := Try.zeroValue52
  t26 := Try.underlying9
  a26 := Try.isAgg9
  z26 := Try.sizeOf9
  v26 := Try.zeroValue9
  t28 := Try.underlying83
  a28 := Try.isAgg83
  z28 := Try.sizeOf83
  v28 := Try.zeroValue83
  i26 := by kernel_rfl }
def Try.sort51_ren : Go.Shelf.Ren := ⟨fun | 6 => 51 | 8 => 55 | 9 => 54 | 19 => 65 | 20 => 66 | 21 => 56 | 22 => 57 | 23 => 58 | 24 => 59 | 25 => 60 | 26 => 61 | 27 => 62 | 28 => 63 | 29 => 64 | 36 => 67 | 31 => 68 | 32 => 69 | 37 => 70 | 38 => 71 | 39 => 72 | 41 => 73 | n => n, fun | 27 => 52 | 29 => 9 | 3 => 3 | 32 => 96 | 26 => 52 | 0 => 0 | 44 => 107 | 46 => 109 | 4 => 4 | 36 => 99 | 35 => 98 | 41 => 104 | 5 => 5 | 9 => 9 | 53 => 110 | 57 => 114 | 63 => 116 | 64 => 117 | n => n, fun | n => n⟩
theorem Try.sort51 : Go.Proofs.SlLaysM.n6 Try.prog Try.sort51_ren := {
  mixed := by kernel_rfl
  f6 := ⟨Try.f51.name, by decide, Try.func51.trans (congrArg some (by kernel_rfl))⟩
  f8 := Try.func55.trans (congrArg some (by kernel_rfl))
  f9 := ⟨Try.f54.name, by decide, Try.func54.trans (congrArg some (by kernel_rfl))⟩
  f19 := Try.func65.trans (congrArg some (by kernel_rfl))
  f20 := Try.func66.trans (congrArg some (by kernel_rfl))
  f21 := ⟨Try.f56.name, by decide, Try.func56.trans (congrArg some (by kernel_rfl))⟩
  f22 := ⟨Try.f57.name, by decide, Try.func57.trans (congrArg some (by kernel_rfl))⟩
  f23 := ⟨Try.f58.name, by decide, Try.func58.trans (congrArg some (by kernel_rfl))⟩
  f24 := ⟨Try.f59.name, by decide, Try.func59.trans (congrArg some (by kernel_rfl))⟩
  f25 := ⟨Try.f60.name, by decide, Try.func60.trans (congrArg some (by kernel_rfl))⟩
  f26 := ⟨Try.f61.name, by decide, Try.func61.trans (congrArg some (by kernel_rfl))⟩
  f27 := ⟨Try.f62.name, by decide, Try.func62.trans (congrArg some (by kernel_rfl))⟩
  f28 := ⟨Try.f63.name, by decide, Try.func63.trans (congrArg some (by kernel_rfl))⟩
  f29 := ⟨Try.f64.name, by decide, Try.func64.trans (congrArg some (by kernel_rfl))⟩
  f31 := Try.func68.trans (congrArg some (by kernel_rfl))
  f32 := Try.func69.trans (congrArg some (by kernel_rfl))
  f36 := ⟨Try.f67.name, by decide, Try.func67.trans (congrArg some (by kernel_rfl))⟩
  f37 := ⟨Try.f70.name, by decide, Try.func70.trans (congrArg some (by kernel_rfl))⟩
  f38 := ⟨Try.f71.name, by decide, Try.func71.trans (congrArg some (by kernel_rfl))⟩
  f39 := ⟨Try.f72.name, by decide, Try.func72.trans (congrArg some (by kernel_rfl))⟩
  f41 := ⟨Try.f73.name, by decide, Try.func73.trans (congrArg some (by kernel_rfl))⟩
  t0 := Try.underlying0
  a0 := Try.isAgg0
  z0 := Try.sizeOf0
  v0 := Try.zeroValue0
  t3 := Try.underlying3
  a3 := Try.isAgg3
  z3 := Try.sizeOf3
  v3 := Try.zeroValue3
  t4 := Try.underlying4
  a4 := Try.isAgg4
  z4 := Try.sizeOf4
  v4 := Try.zeroValue4
  t5 := Try.underlying5
  a5 := Try.isAgg5
  z5 := Try.sizeOf5
  v5 := Try.zeroValue5
  t9 := Try.underlying9
  a9 := Try.isAgg9
  z9 := Try.sizeOf9
  v9 := Try.zeroValue9
  t26 := Try.underlying52
  a26 := Try.isAgg52
  z26 := Try.sizeOf52
  v26 := Try.zeroValue52
  t27 := Try.underlying52
  a27 := Try.isAgg52
  z27 := Try.sizeOf52
  v27 := Try.zeroValue52
  t29 := Try.underlying9
  a29 := Try.isAgg9
  z29 := Try.sizeOf9
  v29 := Try.zeroValue9
  t32 := Try.underlying96
  a32 := Try.isAgg96
  z32 := Try.sizeOf96
  v32 := Try.zeroValue96
  t35 := Try.underlying98
  a35 := Try.isAgg98
  z35 := Try.sizeOf98
  v35 := Try.zeroValue98
  t36 := Try.underlying99
  a36 := Try.isAgg99
  z36 := Try.sizeOf99
  v36 := Try.zeroValue99
  t41 := Try.underlying104
  a41 := Try.isAgg104
  z41 := Try.sizeOf104
  v41 := Try.zeroValue104
  t44 := Try.underlying107
  a44 := Try.isAgg107
  z44 := Try.sizeOf107
  v44 := Try.zeroValue107
  t46 := Try.underlying109
  a46 := Try.isAgg109
  z46 := Try.sizeOf109
  v46 := Try.zeroValue109
  t53 := Try.underlying110
  a53 := Try.isAgg110
  z53 := Try.sizeOf110
  v53 := Try.zeroValue110
  t57 := Try.underlying114
  a57 := Try.isAgg114
  z57 := Try.sizeOf114
  v57 := Try.zeroValue114
  t63 := Try.underlying116
  a63 := Try.isAgg116
  z63 := Try.sizeOf116
  v63 := Try.zeroValue116
  t64 := Try.underlying117
  a64 := Try.isAgg117
  z64 := Try.sizeOf117
  v64 := Try.zeroValue117 }
/-- slices.Sort's two contracts at this dump, at the fence that asks nothing. -/
theorem Try.sorts43 (m : Nat) : AnyZ.SortsIn Try.prog Try.sorted43_ren Fence.wide m :=
  ⟨fun blk off cap ss W hH hblk hsz => callsIn_wide.2 (AnyM.slices_Sort_string Try.sort51 blk off cap ss W hH hblk hsz),
   fun p cap W => callsIn_wide.2 (AnyM.slices_Sort_string_none Try.sort51 p cap W)⟩

/-- **maps.Keys[map[string]*tephra/files.file,string,*tephra/files.file], at whatever map, the nil one too:** a function value over ONE NEW BLOCK, which holds the map. -/
theorem Try.maps_Keys_44 (mb : Option Nat) (W : World) : CallsIn Fence.wide 5 Try.prog 44 #[.map mb] W fun e w' => e = .returned (.func (.func 52) #[] #[.pointer (some ⟨W.heap.size, 0, none⟩)]) ∧ w' = W.alloc (.cells #[.map mb] 65) :=
  AnyZ.keys_in Try.keys44 Fence.wide 5 trivial rfl mb W

set_option maxHeartbeats 1000000 in
/-- **slices.Sorted[string] AT WHAT maps.Keys[map[string]*tephra/files.file,string,*tephra/files.file] HANDED BACK FOR A MAP THAT IS NOT nil** ('w': the world AHEAD of maps.Keys' call): A NEW SLICE THAT HOLDS THE MAP's KEYS, SORTED; nil just where it has none; nothing that lay before has turned. -/
theorem Try.slices_Sorted_keys_43_44 {H : Type} (b nn : Nat) (D0 : DataW H) (R : Value → Option (DataW H × List MemPlace)) (w : World) (hown : w.ownsMap Try.prog 9 R b nn D0) (hmax : Maps.size D0 ≤ maxLen) (hbytes : Maps.size D0 * 16 ≤ 140737488355328) :
    CallsIn Fence.wide 5 Try.prog 43 #[.func (.func 52) #[] #[.pointer (some ⟨w.heap.size, 0, none⟩)]] (w.alloc (.cells #[.map (some b)] 65)) fun e w' => ∃ (v : Value) (ss : List (List UInt8)), e = .returned v ∧ ss.Perm (strKeys D0) ∧
      w'.ownsRow (w.alloc (.cells #[.map (some b)] 65)).heap.size 9 1 v ss.length ((ss.mergeSort (fun x y => decide (x ≤ y))).map encStr) ∧ (v = .slice none 0 0 ↔ ss = []) ∧ Below (w.alloc (.cells #[.map (some b)] 65)).heap.size (w.alloc (.cells #[.map (some b)] 65)) w' := by
  have hbl := hown.lt
  have hseq : SeqGives Fence.wide 2 Try.prog 52 #[.pointer (some ⟨w.heap.size, 0, none⟩)] encStr (fun ss => ss.Perm (strKeys D0)) (Maps.size D0) (w.alloc (.cells #[.map (some b)] 65)) :=
    AnyZ.keys_gives (ρ := Try.keys44_ren) { Try.keys44 with } Fence.wide _ trivial rfl (by omega) w.heap.size b nn D0 _ (by simp) (by simp) (by
      obtain ⟨es, clock, hb, Ft, hs, hD⟩ := hown
      exact ⟨es, clock, (Below.heap_alloc _ _ b hbl).trans hb, Ft, hs, hD⟩)
  exact AnyZ.sorted_in Try.sorted43 Fence.wide 5 trivial trivial trivial trivial rfl (by omega) (Try.sorts43 _) (enters_of Try.func51 (by kernel_rfl) rfl) 52 #[.pointer (some ⟨w.heap.size, 0, none⟩)] trivial (enters_of Try.func52 (by kernel_rfl) rfl) _ _ hmax hbytes _ hseq

set_option maxHeartbeats 1000000 in
/-- **.. AND FOR THE nil MAP: nil.** -/
theorem Try.slices_Sorted_keys_nil_43_44 (w : World) :
    CallsIn Fence.wide 5 Try.prog 43 #[.func (.func 52) #[] #[.pointer (some ⟨w.heap.size, 0, none⟩)]] (w.alloc (.cells #[.map none] 65)) fun e w' => ∃ (v : Value) (ss : List (List UInt8)), e = .returned v ∧ ss = [] ∧
      w'.ownsRow (w.alloc (.cells #[.map none] 65)).heap.size 9 1 v ss.length ((ss.mergeSort (fun x y => decide (x ≤ y))).map encStr) ∧ (v = .slice none 0 0 ↔ ss = []) ∧ Below (w.alloc (.cells #[.map none] 65)).heap.size (w.alloc (.cells #[.map none] 65)) w' := by
  have hseq : SeqGives Fence.wide 2 Try.prog 52 #[.pointer (some ⟨w.heap.size, 0, none⟩)] encStr (fun ss : List (List UInt8) => ss = []) 0 (w.alloc (.cells #[.map none] 65)) :=
    AnyZ.keys_gives_nil (ρ := Try.keys44_ren) { Try.keys44 with } Fence.wide _ trivial rfl w.heap.size _ (by simp) (by simp)
  exact AnyZ.sorted_in Try.sorted43 Fence.wide 5 trivial trivial trivial trivial rfl (by omega) (Try.sorts43 _) (enters_of Try.func51 (by kernel_rfl) rfl) 52 #[.pointer (some ⟨w.heap.size, 0, none⟩)] trivial (enters_of Try.func52 (by kernel_rfl) rfl) _ 0 (Nat.zero_le _) (by omega) _ hseq

end Go.Proofs
namespace Go.Proofs.Ytbonfgnmipmmbaa.FM
open Go Go.RowKit Go.Proofs.Ytbonfgnmipmmbaa.Sx
set_option linter.unusedVariables false
theorem cloneM.walk {w0 w : World} {R0 : Res} {H : List Res} {r ck : Nat} {es : Array MapEntry} (i : Nat) (hst : Ht w0 (R0 :: H) w) (hi : (R0 :: H)[i]? = some (ob r (.map es ck))) :
    Calls Try.prog 38 #[.map (some r)] w fun e w' => ∃ r', e = .returned (.map (some r')) ∧ Ht w0 (R0 :: ob r' (.map es ck) :: H) w' := by
  have h : Calls Try.prog 38 #[.map (some r)] w fun e w' => e = .returned (.map (some w.heap.size)) ∧ w' = w.alloc (.map es ck) := AnyW.maps_Clone Try.cloneM r es ck w (hst.get hi)
  refine h.mono ?_
  rintro e w' ⟨rfl, rfl⟩
  exact ⟨_, rfl, St.cloneM hst⟩
/-- The keys, and how many there are, are not too great. -/
def capK {V : Type} (m : Mp V) : Option Unit := if m.length * 16 ≤ 140737488355328 ∧ ∀ e ∈ m, e.1.length ≤ maxLen then some () else none
theorem capK_some {V : Type} {m : Mp V} {u : Unit} (h : capK m = some u) : m.length * 16 ≤ 140737488355328 ∧ ∀ e ∈ m, e.1.length ≤ maxLen := by
  unfold capK at h
  split at h
  · assumption
  · cases h
def Rv : Value → Option (DataW Unit × List MemPlace) := fun _ => some (.lit (.bool true), [])
theorem lt_lex : ∀ {a b : Str}, ltT a b = true → a < b
  | [], [], h => by simp [ltT, Op.bytesLess] at h
  | [], _ :: _, _ => List.Lex.nil
  | _ :: _, [], h => by simp [ltT, Op.bytesLess] at h
  | x :: a, y :: b, h => by
    have ih := @lt_lex a b
    unfold ltT at ih h
    simp only [Op.bytesLess, Bool.or_eq_true, decide_eq_true_eq, Bool.and_eq_true, beq_iff_eq] at h
    rcases h with h | ⟨rfl, h⟩
    · exact List.Lex.rel h
    · exact List.Lex.cons (ih h)
theorem sorted_eq {ss ks : List Str} (hp : ss.Perm ks) (hs : ks.Pairwise fun a b => ltT a b = true) : ss.mergeSort (fun x y => decide (x ≤ y)) = ks := by
  have h1 := mergeSort_of_perm hp
  unfold leB at h1
  rw [h1]
  exact List.mergeSort_of_pairwise (hs.imp fun {a b} h => by simpa using List.le_of_lt (lt_lex h))
def un : Value → Str
  | .string b => b.data.toList
  | _ => []
theorem keys_perm {V : Type} {τ : Ty V} {pk : List Value → Value} {ζ : Zp} {es : Array MapEntry} {ck : Nat} {m : Mp V} (h : Mr τ pk ζ es ck m) : (es.toList.map fun e => un e.key).Perm (m.map Prod.fst) := by
  obtain ⟨h1, h2, h3, h4⟩ := h
  have hn : (m.map fun x => vs x.1).Nodup := by
    have : m.Pairwise fun a b => vs a.1 ≠ vs b.1 := h2.imp fun {a b} hab he => by
      rw [vs_inj he, lt_irr] at hab; cases hab
    exact List.pairwise_map.2 this
  have hp : (es.toList.map (·.key)).Perm (m.map fun x => vs x.1) := by
    rw [List.perm_ext_iff_of_nodup h1.2.2 hn]
    intro a
    simp only [List.mem_map]
    constructor
    · rintro ⟨e, he, rfl⟩
      obtain ⟨x, hx, hm⟩ := h3 e he
      exact ⟨x, hx, hm.1.symm⟩
    · rintro ⟨x, hx, rfl⟩
      obtain ⟨e, he, hm⟩ := h4 x hx
      exact ⟨e, he, hm.1⟩
  have := hp.map un
  simpa [List.map_map, Function.comp_def, un, vs] using this
theorem Cs.strs (ζ : Zp) : ∀ l : List Str, Cs tS ζ (l.map vs) l
  | [] => Cs.nil _ _
  | x :: l => Cs.cons (c := [vs x]) rfl (Cs.strs ζ l)
theorem sortedKeys.walk {V : Type} {τ : Ty V} {pk : List Value → Value} {w0 w : World} {ζ : Zp} {H : List Res} {r ck : Nat} {es : Array MapEntry} {m : Mp V} {u : Unit} (i : Nat) (hst : Ht w0 (frz ζ :: H) w) (hi : (frz ζ :: H)[i]? = some (ob r (.map es ck))) (hM : Mr τ pk ζ es ck m) (hc : capK m = some u) :
    Calls Try.prog 43 #[.func (.func 52) #[] #[.pointer (some ⟨w.heap.size, 0, none⟩)]] (w.alloc (.cells #[.map (some r)] 65)) fun e w' => ∃ A c d, e = .returned (.slice A (m.map Prod.fst).length c) ∧ Cs tS ζ d (m.map Prod.fst) ∧ Ht w0 (frz ζ :: orow 9 1 (.slice A (m.map Prod.fst).length c) (m.map Prod.fst).length d :: H) w' := by
  obtain ⟨hc1, hc2⟩ := capK_some hc
  have hk := keys_perm hM
  have hlen : es.size = m.length := keys_len hM
  have hrd : ∀ e ∈ es.toList, Go.WideElems.rd Try.prog 9 Rv e = some (.string (un e.key), .lit (.bool true)) := fun e he => by
    obtain ⟨x, hx, hkey, _⟩ := hM.2.2.1 e he
    have hb := hc2 x hx
    obtain ⟨key, val, born⟩ := e
    simp only at hkey
    subst hkey
    have h1 : keyOf Try.prog 9 (vs x.1) = some (.string x.1) := by
      have := Go.WideMaps.keyOf_string_mk (P := Try.prog) (k := 9) Try.underlying9 (s := ⟨x.1.toArray⟩) (by simpa [ByteArray.size] using hb)
      simpa using this
    exact Go.WideElems.rd_mk (R := Rv) (yv := (.lit (.bool true), [])) h1 rfl
  have hown : w.ownsMap Try.prog 9 Rv r es.size (.map ((es.toList.map (Go.WideElems.rg Try.prog 9 Rv)).foldr DataW.insert [])) :=
    ⟨es, ck, hst.get hi, ⟨by simp only [maxLen]; omega, hM.1, fun x hx => ⟨_, hrd x hx⟩⟩, Nat.le_refl _, rfl⟩
  have hmap : es.toList.map (Go.WideElems.rg Try.prog 9 Rv) = es.toList.map fun e => (.string (un e.key), .lit (.bool true)) := List.map_congr_left fun e he => Go.WideElems.rg_of (hrd e he)
  have hsk : (strKeys (.map ((es.toList.map (Go.WideElems.rg Try.prog 9 Rv)).foldr DataW.insert []))).Perm (m.map Prod.fst) := by
    refine List.Perm.trans ?_ hk
    show (List.map (fun p : Lit × DataW Unit => strOf p.1) _).Perm _
    refine ((Go.WideShapes.sorted_perm _).map _).trans ?_
    rw [hmap, List.map_map]
    exact List.Perm.refl _
  have hsz : Maps.size (.map ((es.toList.map (Go.WideElems.rg Try.prog 9 Rv)).foldr DataW.insert [])) = m.length := by
    rw [Maps.size_eq, (Go.WideShapes.sorted_perm _).length_eq, List.length_map, Array.length_toList, hlen]
  refine Calls.mono (callsIn_wide.1 (Try.slices_Sorted_keys_43_44 r es.size _ Rv w hown (by rw [hsz]; simp only [maxLen]; omega) (by rw [hsz]; exact hc1))) ?_
  rintro e w' ⟨v, ss, rfl, hperm, hrow, hnil, hb⟩
  have hpk : ss.Perm (m.map Prod.fst) := hperm.trans hsk
  have hsrt : (m.map Prod.fst).Pairwise fun a b => ltT a b = true := List.pairwise_map.2 hM.2.1
  rw [sorted_eq hpk hsrt, hpk.length_eq] at hrow
  have hst1 : Ht w0 (frz ζ :: H) (w.alloc (.cells #[.map (some r)] 65)) := hst.idle (alloc_fr w _)
  have hfr := Fr.of_below hb (fun _ => False)
  have key : ∀ A c, v = .slice A (m.map Prod.fst).length c → (orow 9 1 (.slice A (m.map Prod.fst).length c) (m.map Prod.fst).length ((m.map Prod.fst).map vs)).p (hp w') → (∀ k, (Value.slice A (m.map Prod.fst).length c).ownBlock = some k → (w.alloc (.cells #[.map (some r)] 65)).heap.size ≤ k ∧ k < w'.heap.size) →
      ∃ A c d, Ending.returned v = .returned (.slice A (m.map Prod.fst).length c) ∧ Cs tS ζ d (m.map Prod.fst) ∧ Ht w0 (frz ζ :: orow 9 1 (.slice A (m.map Prod.fst).length c) (m.map Prod.fst).length d :: H) w' := by
    rintro A c rfl hp' hS
    refine ⟨A, c, _, rfl, Cs.strs ζ _, ?_⟩
    exact (hst1.push (R' := orow 9 1 (.slice A (m.map Prod.fst).length c) (m.map Prod.fst).length ((m.map Prod.fst).map vs)) hfr hp' hS).perm (by rw [List.cons_append]; exact List.Perm.cons _ List.perm_append_comm)
  obtain ⟨h1, h2⟩ := hrow
  have hone : ∀ u ∈ (m.map Prod.fst).map vs, u.oneCell' = true := fun u hu => by
    obtain ⟨x, _, rfl⟩ := List.mem_map.1 hu
    rfl
  rcases h2 with ⟨rfl, h0⟩ | ⟨g, cap, cur, rfl, hge, hg, hn, hcm, hcs, ht⟩
  · refine key none 0 (by rw [h0]) ⟨h1, hone, .inl ⟨by rw [h0], h0⟩⟩ (fun k hk => by cases hk)
  · refine key _ cap rfl ⟨h1, hone, .inr ⟨g, 0, cap, cur, rfl, hg, hn, hcm, by omega, by simpa using ht⟩⟩ (fun k hk => ?_)
    have hk' : g = k := Option.some.inj hk
    subst hk'
    refine ⟨hge, ?_⟩
    rcases Nat.lt_or_ge g w'.heap.size with h' | h'
    · exact h'
    · rw [Array.getElem?_eq_none h'] at hg; cases hg
theorem keys.walk (mb : Option Nat) (W : World) : Calls Try.prog 44 #[.map mb] W fun e w' => e = .returned (.func (.func 52) #[] #[.pointer (some ⟨W.heap.size, 0, none⟩)]) ∧ w' = W.alloc (.cells #[.map mb] 65) := callsIn_wide.1 (Try.maps_Keys_44 mb W)
end Go.Proofs.Ytbonfgnmipmmbaa.FM
