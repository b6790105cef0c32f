/- WorldSmall: whatever the room. -/
import Derived.Test.YtiekoeapmhhjbaaGreatDoorMH
namespace Go.Proofs.YtiekoeapmhhjbaaGreatDoor.X
open Go Go.RowKit
set_option linter.unusedVariables false
set_option linter.unusedSimpArgs false
set_option maxRecDepth 100000
set_option maxHeartbeats 0
theorem awake19 : runB hookF 25 [] = true := by kernel_rfl
noncomputable def hook19 : Hk := fun f => bi (Nat.beq f 25) (some awk) (hookF f)
theorem hook19_ok : HkOK hook19 := by
  intro f g h n X hX
  unfold hook19 at h
  cases h1 : Nat.beq f 25 with
  | true =>
    rw [h1] at h
    cases h
    have := Nat.eq_of_beq_eq_true h1
    subst this
    exact awk_ok awake19 X
  | false =>
    rw [h1] at h
    exact hooks f g h n X hX
theorem small_a : runB hook19 5 [.rng .i8 0 20] = true := by kernel_rfl
theorem small_b : runB hook19 5 [.rng .i8 21 25] = true := by kernel_rfl
theorem small_c : runB hook19 5 [.rng .i8 26 85] = true := by kernel_rfl
theorem small_d : runB hook19 5 [.rng .i8 86 127] = true := by kernel_rfl
noncomputable def allFrom (p : Nat → Bool) (n a : Nat) : Bool := nrec (fun (_ : Nat) => true) (fun _ ih a => frc a fun a => bi (p a) (ih (Nat.add a 1)) false) n a
theorem allFrom_spec {p : Nat → Bool} : ∀ {n a : Nat}, allFrom p n a = true → ∀ i, a ≤ i → i < a + n → p i = true
  | 0, a, _, i, h1, h2 => by omega
  | n + 1, a, h, i, h1, h2 => by
    have h' : frc a (fun a => bi (p a) (allFrom p n (a + 1)) false) = true := h
    rw [frc_eq] at h'
    obtain ⟨h3, h4⟩ := bi_and h'
    rcases Nat.lt_or_ge a i with hlt | hge
    · exact allFrom_spec h4 i (by omega) (by omega)
    · have : i = a := by omega
      rw [this]
      exact h3
theorem small_e : allFrom (fun n => runB hook19 5 [.int .i8 n]) 16 128 = true := by kernel_rfl
theorem small_f : allFrom (fun n => runB hook19 5 [.int .i8 n]) 16 144 = true := by kernel_rfl
theorem small_g : allFrom (fun n => runB hook19 5 [.int .i8 n]) 16 160 = true := by kernel_rfl
theorem small_h : allFrom (fun n => runB hook19 5 [.int .i8 n]) 16 176 = true := by kernel_rfl
theorem small_i : allFrom (fun n => runB hook19 5 [.int .i8 n]) 16 192 = true := by kernel_rfl
theorem small_j : allFrom (fun n => runB hook19 5 [.int .i8 n]) 16 208 = true := by kernel_rfl
theorem small_k : allFrom (fun n => runB hook19 5 [.int .i8 n]) 16 224 = true := by kernel_rfl
theorem small_l : allFrom (fun n => runB hook19 5 [.int .i8 n]) 16 240 = true := by kernel_rfl
theorem small_neg (n : Nat) (h1 : 128 ≤ n) (h2 : n < 256) : runB hook19 5 [.int .i8 n] = true := by
  rcases Nat.lt_or_ge n 144 with h | h
  · exact allFrom_spec small_e n (by omega) (by omega)
  rcases Nat.lt_or_ge n 160 with h | h
  · exact allFrom_spec small_f n (by omega) (by omega)
  rcases Nat.lt_or_ge n 176 with h | h
  · exact allFrom_spec small_g n (by omega) (by omega)
  rcases Nat.lt_or_ge n 192 with h | h
  · exact allFrom_spec small_h n (by omega) (by omega)
  rcases Nat.lt_or_ge n 208 with h | h
  · exact allFrom_spec small_i n (by omega) (by omega)
  rcases Nat.lt_or_ge n 224 with h | h
  · exact allFrom_spec small_j n (by omega) (by omega)
  rcases Nat.lt_or_ge n 240 with h | h
  · exact allFrom_spec small_k n (by omega) (by omega)
  · exact allFrom_spec small_l n (by omega) (by omega)
theorem hasB5 : hasB 5 = true := by kernel_rfl
theorem dvl_one {ν : Nat → Value → Prop} {Γ : Gm} {v : V} {x : Value} (h : DV ν Γ v x) : DVL ν Γ [v] [x] := DVL.cons h DVL.nil
theorem wrap8 {n m : Int} (h1 : -128 ≤ n) (h2 : n < 128) (h : m = n ∨ m = n + 256) : n = IntKind.i8.wrap m := by
  have e1 : IntKind.i8.wrap m = if 128 ≤ m % 256 then m % 256 - 256 else m % 256 := by
    simp [IntKind.wrap, IntKind.signed, IntKind.bits]
  rw [e1]
  split <;> omega
theorem worldSmall_calls {W : World} (h6 : 6 ≤ W.heap.size) (n : Int) (h1 : -128 ≤ n) (h2 : n < 128) : Calls P 5 #[.int .i8 n] W fun x W' => x = .returned (.bool true) ∧ Below W.heap.size W W' := by
  have hr : ∀ lo hi : Nat, (lo : Int) ≤ n → n ≤ hi → runB hook19 5 [.rng .i8 lo hi] = true → Calls P 5 #[.int .i8 n] W fun x W' => x = .returned (.bool true) ∧ Below W.heap.size W W' := fun lo hi ha hb hrun => by
    refine law_true hook19_ok hrun hasB5 h6 (args := [.int .i8 n]) (dvl_one ?_)
    rw [DV]
    refine ⟨n.toNat, by omega, by omega, ?_⟩
    congr 1
    exact wrap8 h1 h2 (by omega)
  by_cases h0 : n < 0
  · refine law_true hook19_ok (small_neg (n + 256).toNat (by omega) (by omega)) hasB5 h6 (args := [.int .i8 n]) (dvl_one ?_)
    rw [DV]
    congr 1
    exact wrap8 h1 h2 (by omega)
  · rcases Nat.lt_or_ge n.toNat 21 with h | h
    · exact hr 0 20 (by omega) (by omega) small_a
    rcases Nat.lt_or_ge n.toNat 26 with h | h
    · exact hr 21 25 (by omega) (by omega) small_b
    rcases Nat.lt_or_ge n.toNat 86 with h | h
    · exact hr 26 85 (by omega) (by omega) small_c
    · exact hr 86 127 (by omega) (by omega) small_d
end Go.Proofs.YtiekoeapmhhjbaaGreatDoor.X
