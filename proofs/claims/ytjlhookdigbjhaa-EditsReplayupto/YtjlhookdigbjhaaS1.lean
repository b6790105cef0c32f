/- The sort of files by their names: the library's contract at this program, and what it leaves of a row of one's own. -/
import Derived.Shelf.Small.Strs
import Derived.Test.YtjlhookdigbjhaaGnS
import Derived.Test.YtjlhookdigbjhaaE1
import Derived.Shelf.SlSortCmp.NoneTotal
namespace Go.Proofs
open Go.Shelf
def Try.sortRef_ren : Go.Shelf.Ren := ⟨fun | 6 => 29 | 15 => 48 | 14 => 47 | 28 => 63 | 29 => 64 | 20 => 55 | 21 => 56 | 22 => 57 | 23 => 58 | 24 => 59 | 25 => 60 | 26 => 61 | 27 => 62 | 46 => 66 | 47 => 67 | 48 => 68 | 49 => 69 | 50 => 70 | 57 => 71 | n => n, fun | 22 => 26 | 24 => 24 | 25 => 72 | 3 => 3 | 39 => 88 | 0 => 0 | 53 => 86 | 55 => 114 | 4 => 4 | 46 => 106 | 45 => 105 | 50 => 110 | 5 => 5 | 9 => 9 | 66 => 116 | 70 => 120 | 76 => 122 | 77 => 123 | n => n, fun | n => n⟩
theorem Try.sortRef : Go.Proofs.SlLaysF0.n6 Try.prog Try.sortRef_ren := {
  mixed := by kernel_rfl
  f6 := ⟨Try.f29.name, by decide, Try.func29.trans (congrArg some (by kernel_rfl))⟩
  f14 := ⟨Try.f47.name, by decide, Try.func47.trans (congrArg some (by kernel_rfl))⟩
  f15 := Try.func48.trans (congrArg some (by kernel_rfl))
  f20 := ⟨Try.f55.name, by decide, Try.func55.trans (congrArg some (by kernel_rfl))⟩
  f21 := ⟨Try.f56.name, by decide, Try.func56.trans (congrArg some (by kernel_rfl))⟩
  f22 := ⟨Try.f57.name, by decide, Try.func57.trans (congrArg some (by kernel_rfl))⟩
  f23 := ⟨Try.f58.name, by decide, Try.func58.trans (congrArg some (by kernel_rfl))⟩
  f24 := ⟨Try.f59.name, by decide, Try.func59.trans (congrArg some (by kernel_rfl))⟩
  f25 := ⟨Try.f60.name, by decide, Try.func60.trans (congrArg some (by kernel_rfl))⟩
  f26 := ⟨Try.f61.name, by decide, Try.func61.trans (congrArg some (by kernel_rfl))⟩
  f27 := ⟨Try.f62.name, by decide, Try.func62.trans (congrArg some (by kernel_rfl))⟩
  f28 := Try.func63.trans (congrArg some (by kernel_rfl))
  f29 := Try.func64.trans (congrArg some (by kernel_rfl))
  f46 := ⟨Try.f66.name, by decide, Try.func66.trans (congrArg some (by kernel_rfl))⟩
  f47 := Try.func67.trans (congrArg some (by kernel_rfl))
  f48 := Try.func68.trans (congrArg some (by kernel_rfl))
  f49 := ⟨Try.f69.name, by decide, Try.func69.trans (congrArg some (by kernel_rfl))⟩
  f50 := ⟨Try.f70.name, by decide, Try.func70.trans (congrArg some (by kernel_rfl))⟩
  f57 := ⟨Try.f71.name, by decide, Try.func71.trans (congrArg some (by kernel_rfl))⟩
  t0 := Try.underlying0
  a0 := Try.isAgg0
  z0 := Try.sizeOf0
  v0 := Try.zeroValue0
  t3 := Try.underlying3
  a3 := Try.isAgg3
  z3 := Try.sizeOf3
  v3 := Try.zeroValue3
  t4 := Try.underlying4
  a4 := Try.isAgg4
  z4 := Try.sizeOf4
  v4 := Try.zeroValue4
  t5 := Try.underlying5
  a5 := Try.isAgg5
  z5 := Try.sizeOf5
  v5 := Try.zeroValue5
  t9 := Try.underlying9
  a9 := Try.isAgg9
  z9 := Try.sizeOf9
  v9 := Try.zeroValue9
  t22 := Try.underlying26
  a22 := Try.isAgg26
  z22 := Try.sizeOf26
  v22 := Try.zeroValue26
  t25 := Try.underlying72
  a25 := Try.isAgg72
  z25 := Try.sizeOf72
  v25 := Try.zeroValue72
  t39 := Try.underlying88
  a39 := Try.isAgg88
  z39 := Try.sizeOf88
  v39 := Try.zeroValue88
  t45 := Try.underlying105
  a45 := Try.isAgg105
  z45 := Try.sizeOf105
  v45 := Try.zeroValue105
  t46 := Try.underlying106
  a46 := Try.isAgg106
  z46 := Try.sizeOf106
  v46 := Try.zeroValue106
  t50 := Try.underlying110
  a50 := Try.isAgg110
  z50 := Try.sizeOf110
  v50 := Try.zeroValue110
  t53 := Try.underlying86
  a53 := Try.isAgg86
  z53 := Try.sizeOf86
  v53 := Try.zeroValue86
  t55 := Try.underlying114
  a55 := Try.isAgg114
  z55 := Try.sizeOf114
  v55 := Try.zeroValue114
  t66 := Try.underlying116
  a66 := Try.isAgg116
  z66 := Try.sizeOf116
  v66 := Try.zeroValue116
  t70 := Try.underlying120
  a70 := Try.isAgg120
  z70 := Try.sizeOf120
  v70 := Try.zeroValue120
  t76 := Try.underlying122
  a76 := Try.isAgg122
  z76 := Try.sizeOf122
  v76 := Try.zeroValue122
  t77 := Try.underlying123
  a77 := Try.isAgg123
  z77 := Try.sizeOf123
  v77 := Try.zeroValue123 }
def Try.lays106_ren : Go.Shelf.Ren := ⟨fun | 106 => 31 | 213 => 49 | 265 => 65 | n => n, fun | 9 => 9 | 3 => 3 | n => n, fun | n => n⟩
theorem Try.lays106 : Go.Proofs.Lays.n106 Try.prog Try.lays106_ren := {
  mixed := by kernel_rfl
  f106 := Try.func31.trans (congrArg some (by kernel_rfl))
  f213 := Try.func49.trans (congrArg some (by kernel_rfl))
  f265 := Try.func65.trans (congrArg some (by kernel_rfl))
  t3 := Try.underlying3
  a3 := Try.isAgg3
  z3 := Try.sizeOf3
  v3 := Try.zeroValue3
  t9 := Try.underlying9
  a9 := Try.isAgg9
  z9 := Try.sizeOf9
  v9 := Try.zeroValue9 }
end Go.Proofs
namespace Go.Proofs.Ytjlhookdigbjhaa.S1
open Go Go.Shelf Go.RowKit Go.Lib Go.Sort Go.Proofs Go.Proofs.Ytjlhookdigbjhaa.Sx Go.Proofs.Ytjlhookdigbjhaa.E1
set_option linter.unusedVariables false
instance : Inhabited apiRef := ⟨⟨[], 0, 0, 0⟩⟩
def encR (x : apiRef) : List Value := [vs x.Name, vi x.Kind, vi x.From, vi x.To]
def cfR (x y : apiRef) : Int := Lib.compareBytes x.Name y.Name
set_option maxHeartbeats 1000000 in
theorem closure (x y : apiRef) (W : World) : Calls Try.prog 30 #[.agg #[vs x.Name, vi x.Kind, vi x.From, vi x.To], .agg #[vs y.Name, vi y.Kind, vi y.From, vi y.To]] W fun e w' => e = .returned (.int .i64 (cfR x y)) ∧ ∃ q os', w' = grow (W.drewN q) os' := by
  have hcon : ∀ W', Calls Try.prog 31 #[vs x.Name, vs y.Name] W' fun e w' => e = .returned (.int .i64 (cfR x y)) ∧ w' = W' := fun W' => Any.strings_Compare Try.lays106 ⟨x.Name.toArray⟩ ⟨y.Name.toArray⟩ W'
  generalize cfR x y = r at hcon ⊢
  simp only [vs, vi] at hcon ⊢
  go_enter Try.func30, Try.ntmps30
  go_wp2_with (go_at_call 31; refine (hcon _).mono ?_; rintro e w' ⟨rfl, rfl⟩)
  go_ret
  exact ⟨rfl, 0, _, by rw [alloc_eq_grow, alloc_eq_grow, grow_grow]; rfl⟩
theorem cmpLays (blk off size : Nat) (w : World) : CmpLays Try.prog 30 #[] encR 4 cfR blk off size w := fun _ _ _ _ x y => closure x y _
theorem cb_neg : ∀ (a b : Str), (Lib.compareBytes a b < 0 ↔ 0 < Lib.compareBytes b a) ∧ (Lib.compareBytes a b = 0 ↔ a = b)
  | [], [] => by simp [Lib.compareBytes]
  | [], _ :: _ => by simp [Lib.compareBytes]
  | _ :: _, [] => by simp [Lib.compareBytes]
  | a :: as', b :: bs => by
    have ih := cb_neg as' bs
    unfold Lib.compareBytes
    by_cases h1 : a < b
    · have h2 : ¬ b < a := fun h => absurd (UInt8.lt_trans h1 h) (UInt8.lt_irrefl _)
      have h3 : a ≠ b := fun h => by subst h; exact h2 h1
      simp [h1, h2, h3]
    · by_cases h2 : b < a
      · have h3 : a ≠ b := fun h => by subst h; exact h1 h2
        simp [h1, h2, h3]
      · have h3 : a = b := by
          apply UInt8.toNat_inj.1
          have e1 : ¬ a.toNat < b.toNat := fun h => h1 (UInt8.lt_iff_toNat_lt.2 h)
          have e2 : ¬ b.toNat < a.toNat := fun h => h2 (UInt8.lt_iff_toNat_lt.2 h)
          omega
        subst h3
        simp [h1, ih]
theorem cb_trans : ∀ (a b c : Str), Lib.compareBytes a b < 0 → Lib.compareBytes b c ≤ 0 → Lib.compareBytes a c < 0
  | [], [], c, h, _ => by simp [Lib.compareBytes] at h
  | [], _ :: _, [], _, h => by simp [Lib.compareBytes] at h
  | [], _ :: _, _ :: _, _, _ => by simp [Lib.compareBytes]
  | _ :: _, [], _, h, _ => by simp [Lib.compareBytes] at h
  | _ :: _, _ :: _, [], _, h => by simp [Lib.compareBytes] at h
  | a :: as', b :: bs, c :: cs, h1, h2 => by
    have ih := cb_trans as' bs cs
    unfold Lib.compareBytes at h1 h2 ⊢
    simp only [UInt8.lt_iff_toNat_lt] at *
    by_cases c1 : a.toNat < b.toNat
    · by_cases c2 : b.toNat < c.toNat
      · rw [if_pos (by omega)]; omega
      · rw [if_neg c2] at h2
        by_cases c3 : c.toNat < b.toNat
        · rw [if_pos c3] at h2; omega
        · rw [if_pos (by omega)]; omega
    · rw [if_neg c1] at h1
      by_cases c2 : b.toNat < a.toNat
      · rw [if_pos c2] at h1; omega
      · rw [if_neg c2] at h1
        by_cases c3 : b.toNat < c.toNat
        · rw [if_pos (by omega)]; omega
        · rw [if_neg c3] at h2
          by_cases c4 : c.toNat < b.toNat
          · rw [if_pos c4] at h2; omega
          · rw [if_neg c4] at h2
            rw [if_neg (by omega), if_neg (by omega)]
            exact ih h1 h2
theorem ltT (x y : apiRef) : ltOf cfR x y = true ↔ Lib.compareBytes x.Name y.Name < 0 := decide_eq_true_iff
theorem ltF (x y : apiRef) : ltOf cfR x y = false ↔ ¬ Lib.compareBytes x.Name y.Name < 0 := decide_eq_false_iff_not
theorem swoR : SWO (ltOf cfR) where
  irrefl x := by
    have := (cb_neg x.Name x.Name).2.2 rfl
    rw [ltF]; omega
  trans x y z h1 h2 := by
    rw [ltT] at *
    exact cb_trans _ _ _ h1 (by omega)
  ntrans x y z h1 h2 := by
    rw [ltF] at *
    have n1 := cb_neg x.Name y.Name
    have n2 := cb_neg y.Name z.Name
    have n3 := cb_neg x.Name z.Name
    have m1 := cb_neg y.Name x.Name
    have m2 := cb_neg z.Name y.Name
    by_cases e : Lib.compareBytes x.Name y.Name = 0
    · rw [n1.2.1 e]; exact h2
    · have t1 : Lib.compareBytes y.Name x.Name < 0 := m1.1.2 (by omega)
      have t2 : Lib.compareBytes z.Name y.Name ≤ 0 := by
        by_cases e2 : Lib.compareBytes y.Name z.Name = 0
        · rw [n2.2.1 e2]; exact Int.le_of_eq ((cb_neg z.Name z.Name).2.2 rfl)
        · have := m2.1.2 (by omega); omega
      have m3 := cb_neg z.Name x.Name
      have t3 : Lib.compareBytes z.Name x.Name < 0 := by
        by_cases e2 : Lib.compareBytes z.Name y.Name = 0
        · rw [m2.2.1 e2]; exact t1
        · exact cb_trans z.Name y.Name x.Name (by omega) (by omega)
      have := m3.1.1 t3
      omega
/-- slices.SortFunc of files by their names: the library's own function. -/
def go_sortRef (p0 : List apiRef) : Option (List apiRef) :=
  if p0.length < 4611686018427387904 then some (pdq (ltOf cfR) p0.toArray 0 p0.toArray.size (Lib.bitLen p0.toArray.size) true true).toList else none
theorem go_sortRef.walk {w0 w : World} {X : List Res} {z0 : Zp} {p0 : List apiRef} {A1 : Option Addr} {c1 : Nat} {n1 : Nat} {d1 : List Value} {r : List apiRef} (hst : Ht w0 (frz z0 :: orow 24 4 (.slice A1 n1 c1) n1 d1 :: X) w) (f1 : Cs tapiRef z0 d1 p0) (hn1 : p0.length = n1) (hf : go_sortRef p0 = some r) :
    Calls Try.prog 29 #[.slice A1 n1 c1, .func (.func 30) #[] #[]] w fun e w' => ∃ (z' : Zp) (d' : List Value), e = .returned (.tuple #[]) ∧ Le z0 z' ∧ Cs tapiRef z' d' r ∧ r.length = n1 ∧ Ht w0 (frz z' :: orow 24 4 (.slice A1 n1 c1) n1 d' :: X) w' := by
  unfold go_sortRef at hf
  split at hf
  · rename_i hlt
    obtain rfl := Option.some.inj hf
    have hR1 : ∀ (ζ : Zp) (cs : List Value) (x : apiRef), tapiRef.R ζ cs x → cs = encR x := fun ζ cs x h => h
    have hR2 : ∀ (ζ : Zp) (x : apiRef), tapiRef.R ζ (encR x) x := fun ζ x => rfl
    have hk : ∀ x, (encR x).length = tapiRef.sz := fun _ => rfl
    have h1 : ∀ x, ∀ v ∈ encR x, v.oneCell' = true := fun x v hv => by simp [encR] at hv; rcases hv with rfl | rfl | rfl | rfl <;> rfl
    cases A1 with
    | none =>
      obtain ⟨q1, q2, q3⟩ := hst.get (i := 1) rfl
      have h0 : n1 = 0 ∧ c1 = 0 := by
        rcases q3 with ⟨he, h0⟩ | ⟨g, o, cap, cur, he, _⟩
        · injection he with e1 e2 e3; exact ⟨h0, e3⟩
        · cases he
      obtain ⟨rfl, rfl⟩ := h0
      have hp : p0 = [] := List.eq_nil_of_length_eq_zero hn1
      subst hp
      refine (AnyF.slices_SortFunc_none Try.sortRef none 0 (.func (.func 30) #[] #[]) w).mono ?_
      rintro e w' ⟨rfl, rfl⟩
      have hs := (pdq_sorts (ltOf cfR) swoR (#[] : Array apiRef) 0 0 (Lib.bitLen 0) true true (Nat.le_refl _) (Nat.le_refl _) (Or.inl rfl)).1.1
      have hnil : (pdq (ltOf cfR) ([] : List apiRef).toArray 0 ([] : List apiRef).toArray.size (Lib.bitLen ([] : List apiRef).toArray.size) true true).toList = [] := List.eq_nil_of_length_eq_zero (by rw [Array.length_toList]; simpa using hs)
      rw [hnil]
      have hd : d1 = [] := List.eq_nil_of_length_eq_zero (by simpa using q1)
      subst hd
      exact ⟨z0, [], rfl, Le.refl _, Cs.nil _ _, rfl, hst⟩
    | some ad =>
      obtain ⟨q1, q2, q3⟩ := hst.get (i := 1) rfl
      rcases q3 with ⟨he, _⟩ | ⟨g, o, cap, cur, he, _⟩
      · cases he
      · cases he
        obtain ⟨hH, hb⟩ := hst.holdsK encR hk hR1 f1
        have hs := pdq_sorts (ltOf cfR) swoR p0.toArray 0 p0.toArray.size (Lib.bitLen p0.toArray.size) true true (Nat.zero_le _) (Nat.le_refl _) (Or.inl rfl)
        have hlen : (pdq (ltOf cfR) p0.toArray 0 p0.toArray.size (Lib.bitLen p0.toArray.size) true true).toList.length = n1 := by
          rw [Array.length_toList, hs.1.1]; simpa using hn1
        have eg : ∀ args w, (callFunc 30 args).run Try.prog w = .ok (.enter 30 args) w := enters_of Try.func30 (by kernel_rfl) rfl
        have hcon := AnyQ.slices_SortFunc_eq Try.sortRef 4 Try.isAgg24 Try.sizeOf24 encR (fun _ => rfl) h1 cfR swoR 30 #[] g o c1 p0.toArray w eg (cmpLays g o p0.toArray.size w) hH hb (by simpa using hlt)
        subst hn1
        change Calls Try.prog 29 #[.slice (some ⟨g, o, none⟩) p0.length c1, .func (.func 30) #[] #[]] w _ at hcon
        refine hcon.mono ?_
        rintro e w' ⟨rfl, n, os, rfl⟩
        have hw := hst.sortedK encR hk hR2 h1 _ hlen n os
        rw [Array.toArray_toList] at hw
        exact ⟨z0, _, rfl, Le.refl _, Cs.of_enc encR hR2 _, hlen, hw⟩
  · cases hf

end Go.Proofs.Ytjlhookdigbjhaa.S1
