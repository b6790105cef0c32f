/- FilesMany, in plain words. -/
import Derived.Test.YtbonfgnmipmmbaaFiB
import Derived.Test.YtbonfgnmipmmbaaF5
namespace Go.Proofs.Ytbonfgnmipmmbaa.Fi
open Go Go.Proofs Go.Proofs.Ytbonfgnmipmmbaa.Sx Go.Proofs.Ytbonfgnmipmmbaa.F1 Go.Proofs.Ytbonfgnmipmmbaa.F2 Go.Proofs.Ytbonfgnmipmmbaa.F3 Go.Proofs.Ytbonfgnmipmmbaa.F4 Go.Proofs.Ytbonfgnmipmmbaa.F5
set_option linter.unusedVariables false
set_option linter.unusedSimpArgs false
theorem mput_len {k : Str} {v : Option Nat} : ∀ {m : Fm}, (∀ x ∈ m, x.1 ≠ k) → (mput m k v).length = m.length + 1
  | [], _ => rfl
  | x :: m, h => by
    unfold mput
    rw [if_neg (h x (List.mem_cons_self ..))]
    split
    · rfl
    · rw [List.length_cons, mput_len (fun y hy => h y (List.mem_cons_of_mem _ hy)), List.length_cons]
theorem names_eq {d : filesDisk} (h : d.now_.length ≤ 1000000) (hk : ∀ e ∈ d.now_, e.1.length ≤ 1000000) : go_files_Disk_Names d = some (d.now_.map Prod.fst) := by
  unfold go_files_Disk_Names FM.capK
  rw [if_pos ⟨by omega, fun e he => by have := hk e he; simp only [maxLen]; omega⟩]
  rfl
theorem toU8_nat (x : Int) : ((toU8 x).toNat : Int) = x % 256 := by
  have := wrap_toU8 x
  simp [IntKind.wrap, IntKind.bits, IntKind.signed] at this
  omega
structure Many (k : Nat) (d : filesDisk) : Prop where
  hs : Srt d.now_
  hl : d.now_.length = min k 64
  hk : ∀ e ∈ d.now_, ∃ j : Nat, j < min k 64 ∧ e.1 = [toU8 (j : Int)]
  hd : d.down_ = false
  hf : d.left_ = -1
  hw : d.wait_.length ≤ k
theorem Many.not {k : Nat} {d : filesDisk} (h : Many k d) (hk : k < 256) : ∀ x ∈ d.now_, x.1 ≠ [toU8 (k : Int)] := fun x hx he => by
  obtain ⟨j, hj, hj2⟩ := h.hk x hx
  rw [he] at hj2
  have h1 : toU8 (k : Int) = toU8 (j : Int) := (List.cons.inj hj2).1
  have h2 := toU8_nat (k : Int)
  have h3 := toU8_nat (j : Int)
  rw [h1] at h2
  omega
theorem many_loop {p0 : UInt8} : ∀ (r m k : Nat) (d : filesDisk) (ar : Ar), k + r = p0.toNat → Many k d → loopF (go_law04_FilesMany.b1 p0) (m + r + 1) ((k : Int), ar, d.now_, d.safe_, d.wait_, d.room_, d.left_, d.down_, d.calls_) = some true
  | 0, m, k, d, ar, hk, h => by
    have hp := p0.toNat_lt
    show go_law04_FilesMany.b1 p0 _ _ = _
    unfold go_law04_FilesMany.b1
    simp only []
    rw [if_neg (show ¬ (k : Int) < (p0.toNat : Int) by omega)]
    have hd : (⟨d.now_, d.safe_, d.wait_, d.room_, d.left_, d.down_, d.calls_⟩ : filesDisk) = d := rfl
    rw [hd, names_eq (by have := h.hl; omega) (fun e he => by
      obtain ⟨j, _, hj⟩ := h.hk e he
      rw [hj]
      simp), Option.bind_some, List.length_map, h.hl, if_pos (show ((min k 64 : Nat) : Int) = min (p0.toNat : Int) 64 by omega), create_eq _ (by have := h.hw; omega), Option.bind_some]
    rw [h.hd, h.hf]
    simp only [Bool.false_eq_true, if_false]
    split
    · rfl
    · split
      · rfl
      · rfl
  | r + 1, m, k, d, ar, hk, h => by
    have hp := p0.toNat_lt
    show go_law04_FilesMany.b1 p0 _ (loopF (go_law04_FilesMany.b1 p0) (m + r + 1)) = _
    have ih := fun d' ar' h' => many_loop (p0 := p0) r m (k + 1) d' ar' (by omega) h'
    generalize loopF (go_law04_FilesMany.b1 p0) (m + r + 1) = L at ih ⊢
    unfold go_law04_FilesMany.b1
    simp only []
    have hd : (⟨d.now_, d.safe_, d.wait_, d.room_, d.left_, d.down_, d.calls_⟩ : filesDisk) = d := rfl
    have hw : wr ((k : Int) + 1) = ((k + 1 : Nat) : Int) := by rw [wr_in (by omega) (by omega)]; omega
    have hnot := h.not (by omega)
    have hnone : mget d.now_ [toU8 (k : Int)] = none := mget_none.2 hnot
    rw [if_pos (show (k : Int) < (p0.toNat : Int) by omega), hd, create_eq _ (by have := h.hw; omega), Option.bind_some, hw]
    rw [h.hd, hnone]
    have hlen := h.hl
    have hf0 : ¬ d.left_ = 0 := by rw [h.hf]; decide
    by_cases h64 : k < 64
    · have e1 : ¬ (64 : Int) ≤ (d.now_.length : Int) := by omega
      simp only [Bool.false_eq_true, if_false, Option.isSome_none, e1, hf0]
      rw [if_pos (show (k : Int) < 64 by omega)]
      simp only [if_true]
      rw [if_neg (show ¬ (64 : Int) ≤ (k : Int) by omega)]
      refine ih (setF (callF d) [⟨[toU8 (k : Int)], some ar.length⟩]) _ ⟨?_, ?_, ?_, ?_, ?_, ?_⟩
      · exact h.hs.put _ _
      · show (mput d.now_ [toU8 (k : Int)] (some ar.length)).length = _
        rw [mput_len hnot]
        omega
      · intro e he
        rcases (mem_mput h.hs).1 he with rfl | ⟨he, _⟩
        · exact ⟨k, by omega, rfl⟩
        · obtain ⟨j, h1, h2⟩ := h.hk e he
          exact ⟨j, by omega, h2⟩
      · show decide (d.left_ = 0) = false
        simp [hf0]
      · show max (-1) (wr (d.left_ - 1)) = -1
        rw [h.hf]
        rfl
      · show (d.wait_ ++ [_]).length ≤ k + 1
        rw [List.length_append]
        have := h.hw
        simp
        omega
    · have e1 : (64 : Int) ≤ (d.now_.length : Int) := by omega
      simp only [Bool.false_eq_true, if_false, Option.isSome_none, e1, if_true]
      rw [if_neg (show ¬ (k : Int) < 64 by omega), if_pos (show (64 : Int) ≤ (k : Int) by omega)]
      refine ih d ar ⟨h.hs, by omega, fun e he => ?_, h.hd, h.hf, by have := h.hw; omega⟩
      obtain ⟨j, h1, h2⟩ := h.hk e he
      exact ⟨j, by omega, h2⟩
theorem filesMany (p0 : UInt8) : go_law04_FilesMany p0 = some true := by
  unfold go_law04_FilesMany
  have hp := p0.toNat_lt
  rw [awake, Option.bind_some, if_pos rfl, of_eq, Option.bind_some]
  obtain ⟨f, hf⟩ : ∃ f, fuel = f + p0.toNat + 1 := ⟨1099511627775 - p0.toNat, by rw [fuel_eq]; omega⟩
  rw [hf]
  exact many_loop p0.toNat f 0 ⟨[], [], [], max 0 9, -1, false, 0⟩ [] (by omega) ⟨Srt.nil, by simp, (fun e he => by cases he), rfl, rfl, by simp⟩
end Go.Proofs.Ytbonfgnmipmmbaa.Fi
