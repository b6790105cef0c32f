/- FilesFlip, FilesSafe, in plain words. -/
import Derived.Test.YtbonfgnmipmmbaaFiB
namespace Go.Proofs.Ytbonfgnmipmmbaa.Fi
open Go Go.Proofs Go.Proofs.Ytbonfgnmipmmbaa.Sx Go.Proofs.Ytbonfgnmipmmbaa.F1 Go.Proofs.Ytbonfgnmipmmbaa.F2 Go.Proofs.Ytbonfgnmipmmbaa.F3 Go.Proofs.Ytbonfgnmipmmbaa.F4
set_option linter.unusedVariables false
set_option linter.unusedSimpArgs false
theorem flip_none {d : filesDisk} {ar : Ar} {p : Str} {n : Int} {c : UInt8} (h : mget d.now_ p = none) : go_files_Disk_Flip d p n c ar = some (false, ar) := by
  unfold go_files_Disk_Flip
  rw [h]
  rfl
theorem flip_out {d : filesDisk} {a : filesfile} {ar : Ar} {p : Str} {n : Int} {c : UInt8} (h : mget d.now_ p = some (some 0)) (hn : n < 0 ∨ (a.b_.length : Int) ≤ n) : go_files_Disk_Flip d p n c (a :: ar) = some (false, a :: ar) := by
  unfold go_files_Disk_Flip
  rw [h]
  simp only [Option.isSome_some, if_true, Option.getD_some, Option.bind_some, List.getElem?_cons_zero]
  by_cases h1 : n < 0
  · rw [if_pos h1]
  · rw [if_neg h1, if_pos (show (a.b_.length : Int) ≤ n by omega)]
theorem flip_in {d : filesDisk} {a : filesfile} {ar : Ar} {p : Str} {n : Nat} {c : UInt8} (h : mget d.now_ p = some (some 0)) (hn : n < a.b_.length) (hl : a.b_.length ≤ 1000000000) : go_files_Disk_Flip d p (n : Int) c (a :: ar) = some (true, ⟨a.b_.set n (a.b_[n] ^^^ c), a.safe_⟩ :: ar) := by
  unfold go_files_Disk_Flip
  rw [h]
  simp only [Option.isSome_some, if_true, Option.getD_some, Option.bind_some, List.getElem?_cons_zero]
  rw [if_neg (show ¬ (n : Int) < 0 by omega), if_neg (show ¬ (a.b_.length : Int) ≤ (n : Int) by omega), clone_eq hl, Option.bind_some]
  simp only [List.set_cons_zero, List.getElem?_cons_zero, Option.bind_some]
  rw [at_ok hn, Option.bind_some, put_ok _ hn, Option.bind_some]
theorem forL_idx {α R : Type} {body : Nat → α → Unit → (Unit → Option R) → Option R} {K : Unit → Option R} : ∀ (xs : List α) (i : Nat), (∀ (j : Nat) (h : j < xs.length) (nx : Unit → Option R), body (i + j) xs[j] () nx = nx ()) → forL body K i xs () = K ()
  | [], _, _ => rfl
  | x :: xs, i, h => by
    show body i x () (fun s' => forL body K (i + 1) xs s') = K ()
    have h0 := h 0 (by simp) (fun s' => forL body K (i + 1) xs s')
    simp only [Nat.add_zero, List.getElem_cons_zero] at h0
    rw [h0]
    refine forL_idx xs (i + 1) (fun j hj nx => ?_)
    have := h (j + 1) (by simp; omega) nx
    simp only [List.getElem_cons_succ] at this
    rw [show i + 1 + j = i + (j + 1) by omega]
    exact this
theorem xor_same (a c : UInt8) : (a ^^^ c = a) ↔ c = 0 := by
  constructor
  · intro h
    have h1 : a ^^^ (a ^^^ c) = a ^^^ a := by rw [h]
    rw [← UInt8.xor_assoc, UInt8.xor_self, UInt8.zero_xor] at h1
    exact h1
  · rintro rfl
    exact UInt8.xor_zero
theorem filesFlip (p0 : List UInt8) (p1 : Int16) (p2 : UInt8) : go_law04_FilesFlip p0 p1 p2 = some true := by
  unfold go_law04_FilesFlip
  have ca : cutI p0 0 (min (p0.length : Int) 100) = some (p0.take 100) := cut_min p0 100
  rw [awake, Option.bind_some, if_pos rfl, ca, Option.bind_some]
  have hb : (p0.take 100).length ≤ 100 := by rw [List.length_take]; omega
  generalize p0.take 100 = b at hb
  rw [of_eq, Option.bind_some, show max (0 : Int) 100 = 100 from rfl, c1, Option.bind_some]
  simp only [if_true]
  rw [a1ok (by simp; omega) (by simp; omega) (fun y hy => by cases hy), Option.bind_some]
  simp only [if_true, List.nil_append]
  have hg : mget (D1 [] [[⟨X, some 0⟩]] 100 (wr (1 + 1))).now_ X = some (some 0) := rfl
  have hy : mget (D1 [] [[⟨X, some 0⟩]] 100 (wr (1 + 1))).now_ Y = none := rfl
  by_cases hin : 0 ≤ p1.toInt ∧ p1.toInt < b.length
  · obtain ⟨n, hn⟩ : ∃ n : Nat, p1.toInt = (n : Int) := ⟨p1.toInt.toNat, by omega⟩
    have hnl : n < b.length := by omega
    rw [hn, flip_in hg (a := ⟨b, 0⟩) hnl (by simp only []; omega), Option.bind_some]
    simp only []
    rw [r1 rfl srt1 ve1 hg (fun y hy => by rw [List.mem_singleton] at hy; subst hy; simp; omega), Option.bind_some, if_pos (show (0 : Int) ≤ (n : Int) by omega)]
    unfold go_law04_FilesFlip.j1
    rw [decide_eq_true (show (n : Int) < (b.length : Int) by omega), if_pos rfl, if_pos (by simp)]
    simp only []
    rw [flip_none hy, Option.bind_some]
    simp only [Bool.false_eq_true, if_false]
    have hc : go_files_Disk_Calls (D1 [] [[⟨X, some 0⟩]] 100 (wr (1 + 1))) = some 2 := rfl
    rw [hc, Option.bind_some, if_pos rfl]
    refine forL_idx _ 0 (fun j hj nx => ?_)
    rw [List.length_set] at hj
    unfold go_law04_FilesFlip.b1
    rw [Nat.zero_add, at_ok hj, Option.bind_some, if_pos rfl]
    by_cases hjn : (j : Int) = p1.toInt
    · have hjn2 : j = n := by omega
      subst hjn2
      rw [if_pos hjn]
      simp only [List.getElem_set_self]
      have e : decide (b[j] ^^^ p2 = b[j]) = decide (p2 = 0) := by
        rw [Bool.eq_iff_iff]
        simp [xor_same]
      rw [e]
      by_cases hz : p2 = 0 <;> simp [hz]
    · have hjn2 : n ≠ j := by omega
      rw [if_neg hjn]
      simp only [List.getElem_set_ne hjn2]
      simp
  · have hout : p1.toInt < 0 ∨ (b.length : Int) ≤ p1.toInt := by omega
    rw [flip_out hg (a := ⟨b, 0⟩) hout, Option.bind_some]
    simp only []
    rw [r1 rfl srt1 ve1 hg (fun y hy => by rw [List.mem_singleton] at hy; subst hy; simp; omega), Option.bind_some]
    have key : go_law04_FilesFlip.j1 p1 p2 b (0, D1 [] [[⟨X, some 0⟩]] 100 (wr (1 + 1)), [⟨b, 0⟩]) (false, [⟨b, 0⟩]) (b, 0, [⟨b, 0⟩]) false = some true := by
      unfold go_law04_FilesFlip.j1
      rw [if_pos rfl, if_pos rfl]
      simp only []
      rw [flip_none hy, Option.bind_some]
      simp only [Bool.false_eq_true, if_false]
      have hc : go_files_Disk_Calls (D1 [] [[⟨X, some 0⟩]] 100 (wr (1 + 1))) = some 2 := rfl
      rw [hc, Option.bind_some, if_pos rfl]
      refine forL_idx _ 0 (fun j hj nx => ?_)
      unfold go_law04_FilesFlip.b1
      rw [Nat.zero_add, at_ok hj, Option.bind_some, if_neg (by decide)]
      simp
    by_cases h0 : (0 : Int) ≤ p1.toInt
    · rw [if_pos h0, decide_eq_false (show ¬ p1.toInt < (b.length : Int) by omega)]
      exact key
    · rw [if_neg h0]
      exact key
theorem cut_b (b m : List UInt8) (n : Nat) : (cutY (n : Int) ⟨b ++ m, (b.length : Int)⟩).b_ = b ++ m.take n := by
  unfold cutY
  simp only []
  have hlen : (b ++ m).length = b.length + m.length := List.length_append
  rw [hlen, List.take_append]
  have e2 : (min ((b.length + m.length : Nat) : Int) ((b.length : Int) + max 0 (min (n : Int) ((b.length + m.length : Nat) : Int)))).toNat - b.length = min m.length n := by omega
  rw [e2, List.take_of_length_le (by omega)]
  congr 1
  rcases Nat.le_total m.length n with h | h
  · rw [Nat.min_eq_left h, List.take_of_length_le (Nat.le_refl _), List.take_of_length_le h]
  · rw [Nat.min_eq_right h]
/-- Two files. -/
def D2 : filesDisk := ⟨[(X, some 0), (Y, some 1)], [(X, some 0)], [[⟨Y, some 1⟩]], 400, -1, false, 6⟩
theorem srt2 : Srt ([(X, some 0), (Y, some 1)] : Fm) := List.pairwise_cons.2 ⟨fun a ha => by rw [List.mem_singleton] at ha; subst ha; rfl, List.pairwise_singleton ..⟩
theorem ve2 {a c : filesfile} : Ve [a, c] [(X, some 0), (Y, some 1)] := fun e he => by
  simp only [List.mem_cons, List.not_mem_nil, or_false] at he
  rcases he with rfl | rfl
  · exact ⟨0, rfl, by simp⟩
  · exact ⟨1, rfl, by simp⟩
theorem filesSafe (p0 : List UInt8) (p1 : List UInt8) (p2 : Int8) (p3 : UInt8) : go_law04_FilesSafe p0 p1 p2 p3 = some true := by
  unfold go_law04_FilesSafe
  have ca : cutI p0 0 (min (p0.length : Int) 100) = some (p0.take 100) := cut_min p0 100
  have cb : cutI p1 0 (min (p1.length : Int) 100) = some (p1.take 100) := cut_min p1 100
  rw [awake, Option.bind_some, if_pos rfl, ca, Option.bind_some, cb, Option.bind_some]
  have hb : (p0.take 100).length ≤ 100 := by rw [List.length_take]; omega
  have hm : (p1.take 100).length ≤ 100 := by rw [List.length_take]; omega
  generalize p0.take 100 = b at hb
  generalize p1.take 100 = m at hm
  have h3 := p3.toNat_lt
  rw [of_eq, Option.bind_some, show max (0 : Int) 400 = 400 from rfl, c1, Option.bind_some]
  simp only [if_true]
  rw [a1ok (by simp; omega) (by simp; omega) (fun y hy => by cases hy), Option.bind_some]
  simp only [if_true]
  rw [s1, Option.bind_some]
  simp only [if_true, List.nil_append]
  rw [sd1, Option.bind_some]
  simp only [if_true]
  rw [a1ok (by omega) (by omega) (fun y hy => by cases hy), Option.bind_some]
  simp only [if_true]
  have hcr : go_files_Disk_Create (D1 [(X, some 0)] [] 400 (wr (wr (wr (wr (1 + 1) + 1) + 1) + 1))) Y [⟨b ++ m, (b.length : Int)⟩] = some (0, D2, [⟨b ++ m, (b.length : Int)⟩, ⟨[], 0⟩]) := by
    rw [create_eq _ (by simp [D1])]
    rfl
  have hcr' := hcr
  unfold Y at hcr'
  rw [hcr', Option.bind_some]
  simp only [if_true]
  have hf : ∀ y ∈ ([⟨b ++ m, (b.length : Int)⟩, ⟨[], 0⟩] : Ar), Fine y := fun y hy => by
    simp only [List.mem_cons, List.not_mem_nil, or_false] at hy
    rcases hy with rfl | rfl
    · exact fine1 _ _ (by omega) (by rw [List.length_append]; omega) (by rw [List.length_append]; omega)
    · exact fine1 _ _ (by simp) (by simp) (by simp)
  have cc : cutI m 0 (min (m.length : Int) (p3.toNat : Int)) = some (m.take p3.toNat) := cut_min m p3.toNat
  have hcb := cut_b b m p3.toNat
  have hlc : (cutY (p3.toNat : Int) ⟨b ++ m, (b.length : Int)⟩).b_.length ≤ 1000000000 := by
    rw [hcb, List.length_append, List.length_take]; omega
  have e0 : cutY (p3.toNat : Int) ⟨[], 0⟩ = ⟨[], 0⟩ := by
    unfold cutY
    simp
    omega
  by_cases hk : 0 < p2.toInt
  · have hkk : kept D2 p2.toInt = [(X, some 0), (Y, some 1)] := by
      have : (max 0 (min p2.toInt (D2.wait_.length : Int))).toNat = 1 := by
        show (max 0 (min p2.toInt (1 : Int))).toNat = 1
        omega
      unfold kept
      rw [this]
      rfl
    rw [restart_eq p2.toInt (p3.toNat : Int) (by rw [hkk]; exact srt2) (by rw [hkk]; exact ve2) hf, hkk, Option.bind_some]
    have hra : restA (p3.toNat : Int) [(X, some 0), (Y, some 1)] [⟨b ++ m, (b.length : Int)⟩, ⟨[], 0⟩] = [cutY (p3.toNat : Int) ⟨b ++ m, (b.length : Int)⟩, ⟨[], 0⟩] := by
      show [cutY (p3.toNat : Int) ⟨b ++ m, (b.length : Int)⟩, cutY (p3.toNat : Int) ⟨[], 0⟩] = _
      rw [e0]
    rw [hra]
    have hle : ∀ y ∈ ([cutY (p3.toNat : Int) ⟨b ++ m, (b.length : Int)⟩, ⟨[], 0⟩] : Ar), y.b_.length ≤ 1000000000 := fun y hy => by
      simp only [List.mem_cons, List.not_mem_nil, or_false] at hy
      rcases hy with rfl | rfl
      · exact hlc
      · simp
    simp only []
    rw [r1 rfl srt2 ve2 rfl hle, Option.bind_some, cc, Option.bind_some, catI_ok (by rw [List.length_take]; omega), Option.bind_some]
    unfold go_law04_FilesSafe.j1
    simp only []
    have hry := read_eq (d := ⟨[(X, some 0), (Y, some 1)], [(X, some 0), (Y, some 1)], [], D2.room_, -1, false, D2.calls_⟩) (ar := [cutY (p3.toNat : Int) ⟨b ++ m, (b.length : Int)⟩, ⟨[], 0⟩]) Y srt2 ve2 hle
    unfold Y at hry
    unfold Y
    rw [hry, Option.bind_some, hcb]
    simp only [hk, decide_true, if_true]
    rfl
  · have hkk : kept D2 p2.toInt = [(X, some 0)] := by
      have : (max 0 (min p2.toInt (D2.wait_.length : Int))).toNat = 0 := by
        show (max 0 (min p2.toInt (1 : Int))).toNat = 0
        omega
      unfold kept
      rw [this]
      rfl
    rw [restart_eq p2.toInt (p3.toNat : Int) (by rw [hkk]; exact srt1) (by rw [hkk]; exact ve1) hf, hkk, Option.bind_some]
    have hra : restA (p3.toNat : Int) [(X, some 0)] [⟨b ++ m, (b.length : Int)⟩, ⟨[], 0⟩] = [cutY (p3.toNat : Int) ⟨b ++ m, (b.length : Int)⟩, ⟨[], 0⟩] := rfl
    rw [hra]
    have hle : ∀ y ∈ ([cutY (p3.toNat : Int) ⟨b ++ m, (b.length : Int)⟩, ⟨[], 0⟩] : Ar), y.b_.length ≤ 1000000000 := fun y hy => by
      simp only [List.mem_cons, List.not_mem_nil, or_false] at hy
      rcases hy with rfl | rfl
      · exact hlc
      · simp
    simp only []
    rw [r1 rfl srt1 ve1 rfl hle, Option.bind_some, cc, Option.bind_some, catI_ok (by rw [List.length_take]; omega), Option.bind_some]
    unfold go_law04_FilesSafe.j1
    simp only []
    have hry := read_eq (d := ⟨[(X, some 0)], [(X, some 0)], [], D2.room_, -1, false, D2.calls_⟩) (ar := [cutY (p3.toNat : Int) ⟨b ++ m, (b.length : Int)⟩, ⟨[], 0⟩]) Y srt1 ve1 hle
    unfold Y at hry
    rw [hry, Option.bind_some, hcb]
    simp only [hk, decide_false, if_true]
    rfl
end Go.Proofs.Ytbonfgnmipmmbaa.Fi
