/- FilesFlip, FilesFull, FilesCut, FilesSafe, in plain words. -/
import Derived.Test.YtbonfgnmipmmbaaFiA
namespace Go.Proofs.Ytbonfgnmipmmbaa.Fi
open Go Go.Proofs Go.Proofs.Ytbonfgnmipmmbaa.Sx Go.Proofs.Ytbonfgnmipmmbaa.F1 Go.Proofs.Ytbonfgnmipmmbaa.F2 Go.Proofs.Ytbonfgnmipmmbaa.F3 Go.Proofs.Ytbonfgnmipmmbaa.F4
set_option linter.unusedVariables false
set_option linter.unusedSimpArgs false
abbrev X : Str := [120]
abbrev Y : Str := [121]
/-- A disk with one file, x. -/
def D1 (s : Fm) (w : List (List fileschange)) (r c : Int) : filesDisk := ⟨[(X, some 0)], s, w, r, -1, false, c⟩
theorem srt1 : Srt ([(X, some 0)] : Fm) := List.pairwise_singleton ..
theorem ve1 {a : filesfile} {ar : Ar} : Ve (a :: ar) [(X, some 0)] := fun e he => by
  rw [List.mem_singleton] at he
  subst he
  exact ⟨0, rfl, by simp⟩
theorem of_eq (r : Int) : go_files_Of r = some ⟨[], [], [], max 0 r, -1, false, 0⟩ := rfl
theorem c1 (r : Int) : go_files_Disk_Create ⟨[], [], [], r, -1, false, 0⟩ X [] = some (0, D1 [] [[⟨X, some 0⟩]] r 1, [⟨[], 0⟩]) := by
  rw [create_eq _ (by simp)]
  rfl
theorem a1 {s : Fm} {w : List (List fileschange)} {r c : Int} {b l : List UInt8} {sf : Int} {ar : Ar} (h : b.length + l.length ≤ 1000000000) (ha : ∀ y ∈ ar, y.b_.length + l.length ≤ 1000000000) : go_files_Disk_Append (D1 s w r c) X l (⟨b, sf⟩ :: ar) = some (if r < ((b.length + l.length : Nat) : Int) then (4, D1 s w r c, ⟨b, sf⟩ :: ar) else (0, D1 s w r (wr (c + 1)), ⟨b ++ l, sf⟩ :: ar)) := by
  rw [append_eq X l srt1 ve1 (fun y hy => by
    rcases List.mem_cons.1 hy with rfl | hy
    · exact h
    · exact ha y hy)]
  have e1 : sumL (⟨b, sf⟩ :: ar) (D1 s w r c).now_ = (b.length : Int) := by simp [sumL, lenE, D1]
  have e2 : mget (D1 s w r c).now_ X = some (some 0) := rfl
  have e3 : (D1 s w r c).down_ = false := rfl
  rw [e1, e2, e3, wr_in (x := (b.length : Int)) (by omega) (by omega), wr_in (x := (b.length : Int) + (l.length : Int)) (by omega) (by omega)]
  simp only [Bool.false_eq_true, if_false]
  have e4 : (D1 s w r c).room_ = r := rfl
  have e5 : ¬ (D1 s w r c).left_ = 0 := by simp [D1]
  have e6 : callF (D1 s w r c) = D1 s w r (wr (c + 1)) := rfl
  rw [e4, e6, if_neg e5]
  have e7 : ((b.length : Int) + (l.length : Int)) = ((b.length + l.length : Nat) : Int) := by omega
  rw [e7]
  simp
theorem r1 {d : filesDisk} {a : filesfile} {ar : Ar} (hd : d.down_ = false) (hs : Srt d.now_) (hv : Ve (a :: ar) d.now_) (hg : mget d.now_ X = some (some 0)) (ha : ∀ y ∈ a :: ar, y.b_.length ≤ 1000000000) : go_files_Disk_Read d X (a :: ar) = some (a.b_, 0, a :: ar) := by
  rw [read_eq X hs hv ha, hd, hg]
  simp
theorem s1 {s : Fm} {w : List (List fileschange)} {r c : Int} {b : List UInt8} {sf : Int} {ar : Ar} : go_files_Disk_Sync (D1 s w r c) X (⟨b, sf⟩ :: ar) = some (0, D1 s w r (wr (c + 1)), ⟨b, (b.length : Int)⟩ :: ar) := by
  rw [sync_eq X srt1 ve1]
  rfl
theorem sd1 {s : Fm} {w : List (List fileschange)} {r c : Int} : go_files_Disk_SyncDir (D1 s w r c) = some (0, D1 [(X, some 0)] [] r (wr (c + 1))) := by
  rw [syncDir_eq]
  rfl
theorem k1 {s : Fm} {w : List (List fileschange)} {r c : Int} {b : List UInt8} {sf n : Int} {ar : Ar} : go_files_Disk_Cut (D1 s w r c) X n (⟨b, sf⟩ :: ar) = some (if n < 0 ∨ (b.length : Int) < n then (14, D1 s w r c, ⟨b, sf⟩ :: ar) else (0, D1 s w r (wr (c + 1)), ⟨b.take n.toNat, min sf n⟩ :: ar)) := by
  rw [cutd_eq X n srt1 ve1]
  rfl
theorem a1ok {s : Fm} {w : List (List fileschange)} {r c : Int} {b l : List UInt8} {sf : Int} {ar : Ar} (h : b.length + l.length ≤ 1000000000) (hr : ((b.length + l.length : Nat) : Int) ≤ r) (ha : ∀ y ∈ ar, y.b_.length + l.length ≤ 1000000000) : go_files_Disk_Append (D1 s w r c) X l (⟨b, sf⟩ :: ar) = some (0, D1 s w r (wr (c + 1)), ⟨b ++ l, sf⟩ :: ar) := by
  rw [a1 h ha, if_neg (show ¬ r < ((b.length + l.length : Nat) : Int) by omega)]
theorem k1ok {s : Fm} {w : List (List fileschange)} {r c : Int} {b : List UInt8} {sf n : Int} {ar : Ar} (h : 0 ≤ n ∧ n ≤ b.length) : go_files_Disk_Cut (D1 s w r c) X n (⟨b, sf⟩ :: ar) = some (0, D1 s w r (wr (c + 1)), ⟨b.take n.toNat, min sf n⟩ :: ar) := by
  rw [k1, if_neg (show ¬ (n < 0 ∨ (b.length : Int) < n) by omega)]
theorem k1bad {s : Fm} {w : List (List fileschange)} {r c : Int} {b : List UInt8} {sf n : Int} {ar : Ar} (h : (b.length : Int) < n) : go_files_Disk_Cut (D1 s w r c) X n (⟨b, sf⟩ :: ar) = some (14, D1 s w r c, ⟨b, sf⟩ :: ar) := by
  rw [k1, if_pos (show (n < 0 ∨ (b.length : Int) < n) by omega)]
/-- The restart of it, where x is safe. -/
theorem rs1 {r c k n : Int} {a : filesfile} {ar : Ar} (hf : ∀ y ∈ a :: ar, Fine y) (hn : ar.length = 0 ∨ True) : go_files_Disk_Restart (D1 [(X, some 0)] [] r c) k n (a :: ar) = some (D1 [(X, some 0)] [] r c, cutY n a :: ar) := by
  have hk : kept (D1 [(X, some 0)] [] r c) k = [(X, some 0)] := by
    unfold kept D1
    simp
  rw [restart_eq k n (by rw [hk]; exact srt1) (by rw [hk]; exact ve1) hf, hk]
  have : restA n [(X, some 0)] (a :: ar) = cutY n a :: ar := by
    unfold restA hit
    rw [List.mapIdx_cons]
    simp
    apply List.ext_getElem <;> simp
  rw [this]
  rfl
theorem fine1 (b : List UInt8) (sf : Int) (h0 : 0 ≤ sf) (h1 : sf ≤ b.length) (h2 : b.length ≤ 1000000000) : Fine ⟨b, sf⟩ := ⟨h0, h1, h2⟩
theorem awake : go_law04_awake = some true := by
  unfold go_law04_awake
  rw [of_eq, Option.bind_some, show max (0 : Int) 100 = 100 from rfl, c1, Option.bind_some]
  simp only []
  rw [a1ok (by simp) (by simp) (fun y hy => by cases hy), Option.bind_some]
  simp only []
  rw [sd1, Option.bind_some]
  simp only []
  rw [rs1 (fun y hy => by rw [List.mem_singleton] at hy; subst hy; exact ⟨by simp, by simp, by simp⟩) (.inr trivial), Option.bind_some]
  simp only []
  rw [r1 rfl srt1 ve1 rfl (fun y hy => by rw [List.mem_singleton] at hy; subst hy; simp [cutY]; omega)]
  rfl
theorem filesFull (p0 : UInt8) (p1 : List (List UInt8)) : go_law04_FilesFull p0 p1 = some true := by
  unfold go_law04_FilesFull
  have hp := p0.toNat_lt
  rw [awake, Option.bind_some, if_pos rfl, of_eq, Option.bind_some, c1, Option.bind_some]
  simp only [if_true]
  have c : cutI p1 0 (min (p1.length : Int) 30) = some (p1.take 30) := cut_min p1 30
  rw [c, Option.bind_some, show max (0 : Int) (p0.toNat : Int) = (p0.toNat : Int) by omega]
  refine forL_or (fun j s => ∃ (b : List UInt8) (w : List (List fileschange)) (k : Int), s = ((b.length : Int), [⟨b, 0⟩], [(X, some 0)], [], w, (p0.toNat : Int), -1, false, k) ∧ b.length ≤ 60 * j) (fun r => r = some true) _ _ _ ⟨[], _, _, rfl, by simp⟩ ?_ ?_
  · rintro j a _ nx _ hj ha ⟨b, w, k, rfl, hb⟩
    have h30 : j < 30 := by simp at hj; omega
    unfold go_law04_FilesFull.b1 go_law04_FilesFull.j1 go_law04_FilesFull.j2
    have c2 : cutI a 0 (min (a.length : Int) 60) = some (a.take 60) := cut_min a 60
    simp only []
    rw [c2, Option.bind_some]
    have hl : (a.take 60).length ≤ 60 := by rw [List.length_take]; omega
    generalize a.take 60 = l at hl
    have ea := a1 (s := []) (w := w) (r := (p0.toNat : Int)) (c := k) (b := b) (l := l) (sf := 0) (ar := []) (by omega) (fun y hy => by cases hy)
    unfold D1 at ea
    rw [ea, Option.bind_some, wr_in (x := (b.length : Int) + (l.length : Int)) (by omega) (by omega)]
    have u : ∀ (b : List UInt8) (k : Int), b.length ≤ 1000000000 → go_files_Disk_Used ⟨[(X, some 0)], [], w, (p0.toNat : Int), -1, false, k⟩ [⟨b, 0⟩] = some (b.length : Int) := fun b k hb => by
      rw [used_eq srt1 ve1]
      have : sumL [⟨b, 0⟩] [(X, some 0)] = (b.length : Int) := by simp [sumL, lenE]
      simp only [this]
      rw [wr_in (by omega) (by omega)]
    by_cases hr : (p0.toNat : Int) < ((b.length + l.length : Nat) : Int)
    · have h1 : ¬ ((b.length : Int) + (l.length : Int) ≤ (p0.toNat : Int)) := by omega
      refine .inr ⟨((b.length : Int), [⟨b, 0⟩], [(X, some 0)], [], w, (p0.toNat : Int), -1, false, k), ?_, b, w, k, rfl, by omega⟩
      rw [if_pos hr]
      simp only [h1, decide_false]
      rw [if_pos (show decide ((4 : Int) = 0) = false from rfl), if_neg (show ¬ (4 : Int) = 0 by decide)]
      simp only [decide_true, Bool.not_true, Bool.false_eq_true, if_false]
      rw [if_neg (show ¬ (4 : Int) = 0 by decide), u b k (by omega), Option.bind_some, if_pos rfl]
    · have h1 : (b.length : Int) + (l.length : Int) ≤ (p0.toNat : Int) := by omega
      refine .inr ⟨(((b ++ l).length : Int), [⟨b ++ l, 0⟩], [(X, some 0)], [], w, (p0.toNat : Int), -1, false, wr (k + 1)), ?_, b ++ l, w, wr (k + 1), rfl, by rw [List.length_append]; omega⟩
      have h2 : (b.length : Int) + (l.length : Int) = ((b ++ l).length : Int) := by simp
      rw [if_neg hr]
      simp only [h1, decide_true]
      simp only [if_true, Bool.false_eq_true, if_false]
      rw [u (b ++ l) (wr (k + 1)) (by rw [List.length_append]; omega), Option.bind_some, h2, if_pos rfl]
  · rintro _ ⟨b, w, k, rfl, hb⟩
    have hb2 : b.length ≤ 1800 := by
      have : (p1.take 30).length ≤ 30 := by rw [List.length_take]; omega
      omega
    simp only []
    have ek := k1ok (s := []) (w := w) (r := (p0.toNat : Int)) (c := k) (b := b) (sf := 0) (n := (b.length : Int)) (ar := []) (by omega)
    unfold D1 at ek
    rw [ek, Option.bind_some]
    simp only [if_true]
    have ek2 := k1bad (s := []) (w := w) (r := (p0.toNat : Int)) (c := wr (k + 1)) (b := b.take (b.length : Int).toNat) (sf := min 0 (b.length : Int)) (n := (b.length : Int) + 1) (ar := []) (by simp; omega)
    unfold D1 at ek2
    rw [wr_in (x := (b.length : Int) + 1) (by omega) (by omega), ek2, Option.bind_some]
    rfl
theorem nz_ok {l : List UInt8} (h : l.length ≤ 100) : nzI (wr ((l.length : Int) + 1)) = some () := by
  unfold nzI
  rw [wr_in (by omega) (by omega), if_neg (by omega)]
theorem catI_ok {a b : Str} (h : a.length + b.length ≤ 1000000) : catI a b = some (a ++ b) := by
  unfold catI
  rw [if_pos (show a.length + b.length ≤ 9223372036854775807 by omega)]
theorem filesCut (p0 : List UInt8) (p1 : UInt8) (p2 : List UInt8) (p3 : UInt8) : go_law04_FilesCut p0 p1 p2 p3 = some true := by
  unfold go_law04_FilesCut
  have ca : cutI p0 0 (min (p0.length : Int) 100) = some (p0.take 100) := cut_min p0 100
  have cb : cutI p2 0 (min (p2.length : Int) 100) = some (p2.take 100) := cut_min p2 100
  rw [awake, Option.bind_some, if_pos rfl, ca, Option.bind_some, cb, Option.bind_some]
  have hb : (p0.take 100).length ≤ 100 := by rw [List.length_take]; omega
  have hm : (p2.take 100).length ≤ 100 := by rw [List.length_take]; omega
  generalize p0.take 100 = b at hb
  generalize p2.take 100 = m at hm
  have hk : Int.tmod (p1.toNat : Int) (wr ((b.length : Int) + 1)) = ((p1.toNat % (b.length + 1) : Nat) : Int) := by
    rw [wr_in (by omega) (by omega)]
    exact tmod_nat _ _
  have hlt : p1.toNat % (b.length + 1) < b.length + 1 := Nat.mod_lt _ (by omega)
  have h3 := p3.toNat_lt
  obtain ⟨k, hkk⟩ : ∃ k, k = p1.toNat % (b.length + 1) := ⟨_, rfl⟩
  rw [← hkk] at hlt hk
  rw [nz_ok hb, Option.bind_some, hk]
  rw [of_eq, Option.bind_some, show max (0 : Int) 400 = 400 from rfl, c1, Option.bind_some]
  simp only [if_true]
  rw [sd1, Option.bind_some]
  simp only [if_true]
  rw [a1ok (by simp; omega) (by simp; omega) (fun y hy => by cases hy), Option.bind_some]
  simp only [if_true]
  rw [s1, Option.bind_some]
  simp only [if_true, List.nil_append]
  rw [k1ok (by omega), Option.bind_some]
  simp only [if_true]
  have ht : (b.take (k : Int).toNat).length = k := by rw [List.length_take]; omega
  rw [a1ok (by omega) (by omega) (fun y hy => by cases hy), Option.bind_some]
  simp only [if_true]
  rw [r1 rfl srt1 ve1 rfl (fun y hy => by rw [List.mem_singleton] at hy; subst hy; simp; omega), Option.bind_some]
  simp only [if_true]
  have cc : cutI b 0 (k : Int) = some (b.take k) := by rw [cut0 (by omega) (by omega)]; rfl
  rw [cc, Option.bind_some, catI_ok (by rw [List.length_take]; omega), Option.bind_some]
  unfold go_law04_FilesCut.j1 go_law04_FilesCut.j2
  have e1 : (b.take (k : Int).toNat ++ m = b.take k ++ m) := by simp
  rw [if_neg (by simp)]
  have hmin : min ((b.length : Int)) (k : Int) = (k : Int) := by omega
  rw [rs1 (fun y hy => by
    rw [List.mem_singleton] at hy
    subst hy
    exact fine1 _ _ (by omega) (by rw [List.length_append, ht]; omega) (by rw [List.length_append, ht]; omega)) (.inr trivial), Option.bind_some]
  simp only []
  rw [r1 rfl srt1 ve1 rfl (fun y hy => by rw [List.mem_singleton] at hy; subst hy; simp [cutY]; omega), Option.bind_some]
  simp only [if_true]
  have cd : cutI m 0 (min (m.length : Int) (p3.toNat : Int)) = some (m.take p3.toNat) := cut_min m p3.toNat
  rw [hk, cc, Option.bind_some, cd, Option.bind_some, catI_ok (by rw [List.length_take, List.length_take]; omega), Option.bind_some]
  congr 1
  rw [decide_eq_true_eq]
  unfold cutY
  simp only []
  rw [hmin]
  have hlen : (b.take (k : Int).toNat ++ m).length = k + m.length := by rw [List.length_append, ht]
  rw [hlen, List.take_append, ht]
  have e2 : (min ((k + m.length : Nat) : Int) ((k : Int) + max 0 (min (p3.toNat : Int) ((k + m.length : Nat) : Int)))).toNat - k = min m.length p3.toNat := by omega
  rw [e2, List.take_of_length_le (by rw [ht]; omega)]
  congr 1
  rcases Nat.le_total m.length p3.toNat with h | h
  · rw [Nat.min_eq_left h, List.take_of_length_le (Nat.le_refl _), List.take_of_length_le h]
  · rw [Nat.min_eq_right h]
end Go.Proofs.Ytbonfgnmipmmbaa.Fi
