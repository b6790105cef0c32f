/- FilesRename, in plain words. -/
import Derived.Test.YtbonfgnmipmmbaaFiC
import Derived.Test.YtbonfgnmipmmbaaF6
namespace Go.Proofs.Ytbonfgnmipmmbaa.Fi
open Go Go.Proofs Go.Proofs.Ytbonfgnmipmmbaa.Sx Go.Proofs.Ytbonfgnmipmmbaa.F1 Go.Proofs.Ytbonfgnmipmmbaa.F2 Go.Proofs.Ytbonfgnmipmmbaa.F3 Go.Proofs.Ytbonfgnmipmmbaa.F4 Go.Proofs.Ytbonfgnmipmmbaa.F5 Go.Proofs.Ytbonfgnmipmmbaa.F6
set_option linter.unusedVariables false
set_option linter.unusedSimpArgs false
abbrev Tt : Str := [116]
theorem kept_take (d : filesDisk) (k : Int) : ∃ j, j ≤ d.wait_.length ∧ kept d k = (d.wait_.take j).foldl (fun m cs => cs.foldl putF m) d.safe_ := ⟨_, by omega, rfl⟩
theorem cutY_whole {b : List UInt8} : cutY 0 ⟨b, (b.length : Int)⟩ = ⟨b, (b.length : Int)⟩ := by
  unfold cutY
  simp only [filesfile.mk.injEq]
  have e : min (b.length : Int) ((b.length : Int) + max 0 (min 0 (b.length : Int))) = (b.length : Int) := by omega
  rw [e]
  exact ⟨List.take_of_length_le (by omega), rfl⟩
/-- What is read at the end. -/
theorem end_ok {p2 : UInt8} {a b y : List UInt8} {d : filesDisk} {ar : Ar} {m : Fm} {i : Nat} (hk : kept d ((p2 % 5).toNat : Int) = m) (hs : Srt m) (hv : Ve ar m) (hf : ∀ y ∈ ar, Fine y) (hg : mget m X = some (some i)) (hy : ar[i]? = some ⟨y, (y.length : Int)⟩) (hab : y = a ∨ y = b) :
    go_law04_FilesRename.j1 p2 a b ar d.now_ d.safe_ d.wait_ d.room_ d.left_ d.down_ d.calls_ = some true := by
  unfold go_law04_FilesRename.j1
  have hd : (⟨d.now_, d.safe_, d.wait_, d.room_, d.left_, d.down_, d.calls_⟩ : filesDisk) = d := rfl
  rw [hd, restart_eq _ 0 (by rw [hk]; exact hs) (by rw [hk]; exact hv) hf, hk, Option.bind_some]
  simp only []
  have hil : i < ar.length := by
    rcases Nat.lt_or_ge i ar.length with h | h
    · exact h
    · rw [List.getElem?_eq_none h] at hy; cases hy
  have hit1 : hit m i = true := by
    unfold hit
    rw [List.any_eq_true]
    exact ⟨_, (mget_some hs).1 hg, by simp⟩
  have hry : (restA 0 m ar)[i]? = some ⟨y, (y.length : Int)⟩ := by
    unfold restA
    rw [List.getElem?_mapIdx, hy]
    simp only [Option.map_some, hit1, if_true, cutY_whole]
  have hfr : ∀ z ∈ restA 0 m ar, z.b_.length ≤ 1000000000 := fun z hz => by
    unfold restA at hz
    rw [List.mem_mapIdx] at hz
    obtain ⟨j, hj, rfl⟩ := hz
    have h1 := hf ar[j] (List.getElem_mem _)
    split
    · exact (cutY_fine h1).2.2
    · exact h1.2.2
  have hr : go_files_Disk_Read ⟨m, m, [], d.room_, -1, false, d.calls_⟩ X (restA 0 m ar) = some (y, 0, restA 0 m ar) := by
    rw [read_eq X hs (hv.more (by rw [restA_len]; exact Nat.le_refl _)) hfr]
    simp only [Bool.false_eq_true, if_false]
    rw [hg]
    simp only []
    rw [hry]
  unfold X at hr
  rw [hr, Option.bind_some]
  simp only [if_true]
  rcases hab with rfl | rfl
  · rw [if_pos rfl]
  · split <;> simp
def S0 (l c : Int) : filesDisk := ⟨[(X, some 0)], [(X, some 0)], [], 200, l, false, c⟩
def S1 (l c : Int) : filesDisk := ⟨[(Tt, some 1), (X, some 0)], [(X, some 0)], [[⟨Tt, some 1⟩]], 200, l, false, c⟩
def S4 (l c : Int) : filesDisk := ⟨[(X, some 1)], [(X, some 0)], [[⟨Tt, some 1⟩], [⟨Tt, none⟩, ⟨X, some 1⟩]], 200, l, false, c⟩
theorem srtT : Srt ([(Tt, some 1), (X, some 0)] : Fm) := List.pairwise_cons.2 ⟨fun a ha => by rw [List.mem_singleton] at ha; subst ha; rfl, List.pairwise_singleton ..⟩
theorem srtX (i : Nat) : Srt ([(X, some i)] : Fm) := List.pairwise_singleton ..
theorem veT {a c : filesfile} : Ve [a, c] [(Tt, some 1), (X, some 0)] := fun e he => by
  simp only [List.mem_cons, List.not_mem_nil, or_false] at he
  rcases he with rfl | rfl
  · exact ⟨1, rfl, by simp⟩
  · exact ⟨0, rfl, by simp⟩
theorem veX {ar : Ar} {i : Nat} (h : i < ar.length) : Ve ar [(X, some i)] := fun e he => by
  rw [List.mem_singleton] at he
  subst he
  exact ⟨i, rfl, h⟩
theorem fineA {a : List UInt8} (ha : a.length ≤ 60) : Fine ⟨a, (a.length : Int)⟩ := fine1 _ _ (by omega) (by omega) (by omega)
theorem fine0 {b : List UInt8} (hb : b.length ≤ 60) : Fine ⟨b, 0⟩ := fine1 _ _ (by omega) (by omega) (by omega)
theorem fines {x y : filesfile} (hx : Fine x) (hy : Fine y) : ∀ z ∈ ([x, y] : Ar), Fine z := fun z hz => by
  simp only [List.mem_cons, List.not_mem_nil, or_false] at hz
  rcases hz with rfl | rfl
  · exact hx
  · exact hy
section
variable {p2 : UInt8} {a b : List UInt8}
/-- The end, where x is a: nothing new is kept, or only t. -/
theorem end1 {ar : Ar} {c : filesfile} {d : filesDisk} (hd : d.safe_ = [(X, some 0)]) (hw : d.wait_ = [[⟨Tt, some 1⟩]]) (ha : a.length ≤ 60) (hc : Fine c) : go_law04_FilesRename.j1 p2 a b [⟨a, (a.length : Int)⟩, c] d.now_ d.safe_ d.wait_ d.room_ d.left_ d.down_ d.calls_ = some true := by
  obtain ⟨j, hj, hk⟩ := kept_take d ((p2 % 5).toNat : Int)
  rw [hw, hd] at hk
  rw [hw] at hj
  match j, hj with
  | 0, _ => exact end_ok (m := [(X, some 0)]) (i := 0) (y := a) hk (srtX 0) (veX (by simp)) (fines (fineA ha) hc) rfl rfl (.inl rfl)
  | 1, _ => exact end_ok (m := [(Tt, some 1), (X, some 0)]) (i := 0) (y := a) hk srtT veT (fines (fineA ha) hc) rfl rfl (.inl rfl)
theorem filesRename (p0 : List UInt8) (p1 : List UInt8) (p2 : UInt8) (p3 : UInt8) : go_law04_FilesRename p0 p1 p2 p3 = some true := by
  unfold go_law04_FilesRename
  have ca : cutI p0 0 (min (p0.length : Int) 60) = some (p0.take 60) := cut_min p0 60
  have cb : cutI p1 0 (min (p1.length : Int) 60) = some (p1.take 60) := cut_min p1 60
  rw [awake, Option.bind_some, if_pos rfl, ca, Option.bind_some, cb, Option.bind_some]
  have ha : (p0.take 60).length ≤ 60 := by rw [List.length_take]; omega
  have hb : (p1.take 60).length ≤ 60 := by rw [List.length_take]; omega
  generalize p0.take 60 = a at ha
  generalize p1.take 60 = b at hb
  rw [of_eq, Option.bind_some, show max (0 : Int) 200 = 200 from rfl, c1, Option.bind_some]
  simp only [if_true]
  rw [a1ok (by simp; omega) (by simp; omega) (fun y hy => by cases hy), Option.bind_some]
  simp only [if_true]
  rw [s1, Option.bind_some]
  simp only [if_true, List.nil_append]
  rw [sd1, Option.bind_some]
  simp only [if_true]
  have hn : (p3 % 8).toNat < 256 := UInt8.toNat_lt _
  generalize (p3 % 8).toNat = n at hn
  have harm : go_files_Disk_Arm (D1 [(X, some 0)] [] 200 (wr (wr (wr (1 + 1) + 1) + 1))) (n : Int) = some (S0 (n : Int) 4) := by
    have h1 : max (-1 : Int) (n : Int) = (n : Int) := by omega
    unfold go_files_Disk_Arm
    rw [h1]
    rfl
  rw [harm, Option.bind_some]
  have next : ∀ m : Nat, m < 256 → max (-1 : Int) (wr (((m + 1 : Nat) : Int) - 1)) = (m : Int) := fun m hm => by
    rw [wr_in (by omega) (by omega)]
    omega
  -- Create
  show go_law04_FilesRename.b1 p2 a b 0 0 ([⟨a, (a.length : Int)⟩], (S0 (n : Int) 4).now_, (S0 (n : Int) 4).safe_, (S0 (n : Int) 4).wait_, (S0 (n : Int) 4).room_, (S0 (n : Int) 4).left_, (S0 (n : Int) 4).down_, (S0 (n : Int) 4).calls_) (fun s' => go_law04_FilesRename.b1 p2 a b 1 1 s' (fun s' => go_law04_FilesRename.b1 p2 a b 2 2 s' (fun s' => go_law04_FilesRename.b1 p2 a b 3 3 s' (fun s' => go_law04_FilesRename.b1 p2 a b 4 4 s' (fun s' => go_law04_FilesRename.j1 p2 a b s'.1 s'.2.1 s'.2.2.1 s'.2.2.2.1 s'.2.2.2.2.1 s'.2.2.2.2.2.1 s'.2.2.2.2.2.2.1 s'.2.2.2.2.2.2.2))))) = some true
  have hcr : ∀ l : Int, go_files_Disk_Create (S0 l 4) Tt [⟨a, (a.length : Int)⟩] = some (if l = 0 then (7, callF (S0 l 4), [⟨a, (a.length : Int)⟩]) else (0, S1 (max (-1) (wr (l - 1))) 5, [⟨a, (a.length : Int)⟩, ⟨[], 0⟩])) := fun l => by
    rw [create_eq _ (by simp [S0])]
    by_cases hl : l = 0
    · subst hl; rfl
    · have h1 : ¬ (S0 l 4).left_ = 0 := hl
      have h2 : decide (l = 0) = false := by simp [hl]
      simp only [h1, if_neg hl]
      unfold S1 callF setF S0
      simp only [h2]
      rfl
  have step0 : ∀ (l : Int) nx, go_law04_FilesRename.b1 p2 a b 0 0 ([⟨a, (a.length : Int)⟩], (S0 l 4).now_, (S0 l 4).safe_, (S0 l 4).wait_, (S0 l 4).room_, (S0 l 4).left_, (S0 l 4).down_, (S0 l 4).calls_) nx = if l = 0 then some true else nx ([⟨a, (a.length : Int)⟩, ⟨[], 0⟩], (S1 (max (-1) (wr (l - 1))) 5).now_, (S1 (max (-1) (wr (l - 1))) 5).safe_, (S1 (max (-1) (wr (l - 1))) 5).wait_, (S1 (max (-1) (wr (l - 1))) 5).room_, (S1 (max (-1) (wr (l - 1))) 5).left_, (S1 (max (-1) (wr (l - 1))) 5).down_, (S1 (max (-1) (wr (l - 1))) 5).calls_) := fun l nx => by
    unfold go_law04_FilesRename.b1
    simp only [if_true]
    unfold go_law04_FilesRename_c1
    have hd : (⟨(S0 l 4).now_, (S0 l 4).safe_, (S0 l 4).wait_, (S0 l 4).room_, (S0 l 4).left_, (S0 l 4).down_, (S0 l 4).calls_⟩ : filesDisk) = S0 l 4 := rfl
    rw [hd]
    have h := hcr l
    unfold Tt at h
    rw [h, Option.bind_some, Option.bind_some]
    unfold go_law04_FilesRename.j2
    by_cases hl : l = 0
    · rw [if_pos hl, if_pos hl]
      rw [if_pos (show (!decide ((7 : Int) = 0)) = true from rfl)]
      exact end_ok (m := [(X, some 0)]) (i := 0) (y := a) (by
        obtain ⟨j, hj, hk⟩ := kept_take (callF (S0 l 4)) ((p2 % 5).toNat : Int)
        have h0 : j = 0 := by
          have : (callF (S0 l 4)).wait_.length = 0 := rfl
          omega
        subst h0
        exact hk) (srtX 0) (veX (by simp)) (fun y hy => by rw [List.mem_singleton] at hy; subst hy; exact fineA ha) rfl rfl (.inl rfl)
    · rw [if_neg hl, if_neg hl]
      rw [if_neg (show ¬ (!decide ((0 : Int) = 0)) = true by decide)]
  rw [step0]
  split
  · rfl
  rename_i hn0
  obtain ⟨n, rfl⟩ : ∃ m, n = m + 1 := ⟨n - 1, by omega⟩
  rw [next n (by omega)]
  -- Append
  have hsum : ∀ c, sumL [⟨a, (a.length : Int)⟩, ⟨[], 0⟩] (S1 c 5).now_ = (a.length : Int) := fun c => by simp [sumL, lenE, S1]
  have step1 : ∀ (l : Int) nx, go_law04_FilesRename.b1 p2 a b 1 1 ([⟨a, (a.length : Int)⟩, ⟨[], 0⟩], (S1 l 5).now_, (S1 l 5).safe_, (S1 l 5).wait_, (S1 l 5).room_, (S1 l 5).left_, (S1 l 5).down_, (S1 l 5).calls_) nx = if l = 0 then some true else nx ([⟨a, (a.length : Int)⟩, ⟨b, 0⟩], (S1 (max (-1) (wr (l - 1))) 6).now_, (S1 (max (-1) (wr (l - 1))) 6).safe_, (S1 (max (-1) (wr (l - 1))) 6).wait_, (S1 (max (-1) (wr (l - 1))) 6).room_, (S1 (max (-1) (wr (l - 1))) 6).left_, (S1 (max (-1) (wr (l - 1))) 6).down_, (S1 (max (-1) (wr (l - 1))) 6).calls_) := fun l nx => by
    unfold go_law04_FilesRename.b1
    dsimp only
    rw [if_neg (show ¬ (1 : Nat) = 0 by decide), if_pos rfl]
    unfold go_law04_FilesRename_c2
    have hd : (⟨(S1 l 5).now_, (S1 l 5).safe_, (S1 l 5).wait_, (S1 l 5).room_, (S1 l 5).left_, (S1 l 5).down_, (S1 l 5).calls_⟩ : filesDisk) = S1 l 5 := rfl
    rw [hd]
    have h := append_eq (d := S1 l 5) (ar := [⟨a, (a.length : Int)⟩, ⟨[], 0⟩]) Tt b srtT veT (fun y hy => by
      simp only [List.mem_cons, List.not_mem_nil, or_false] at hy
      rcases hy with rfl | rfl
      · simp only []; omega
      · simp; omega)
    have e1 : mget (S1 l 5).now_ Tt = some (some 1) := rfl
    have e2 : (S1 l 5).down_ = false := rfl
    have e3 : (S1 l 5).room_ = 200 := rfl
    rw [e1, e2, e3, hsum, wr_in (x := (a.length : Int)) (by omega) (by omega), wr_in (x := (a.length : Int) + (b.length : Int)) (by omega) (by omega)] at h
    simp only [Bool.false_eq_true, if_false] at h
    rw [if_neg (show ¬ (200 : Int) < (a.length : Int) + (b.length : Int) by omega)] at h
    unfold Tt at h
    rw [h, Option.bind_some, Option.bind_some]
    unfold go_law04_FilesRename.j2
    have e4 : (S1 l 5).left_ = l := rfl
    rw [e4]
    simp only [List.getElem?_cons_succ, List.getElem?_cons_zero, List.nil_append, List.set_cons_succ, List.set_cons_zero]
    by_cases hl : l = 0
    · rw [if_pos hl, if_pos hl]
      rw [if_pos (show (!decide ((7 : Int) = 0)) = true from rfl)]
      exact end1 (ar := []) (d := callF (S1 l 5)) rfl rfl ha (fine0 hb)
    · rw [if_neg hl, if_neg hl]
      rw [if_neg (show ¬ (!decide ((0 : Int) = 0)) = true by decide)]
      have h2 : decide (l = 0) = false := by simp [hl]
      unfold callF S1
      simp only [h2]
      rfl
  rw [step1]
  split
  · rfl
  rename_i hn1
  obtain ⟨n, rfl⟩ : ∃ m, n = m + 1 := ⟨n - 1, by omega⟩
  rw [next n (by omega)]
  -- Sync
  have step2 : ∀ (l : Int) nx, go_law04_FilesRename.b1 p2 a b 2 2 ([⟨a, (a.length : Int)⟩, ⟨b, 0⟩], (S1 l 6).now_, (S1 l 6).safe_, (S1 l 6).wait_, (S1 l 6).room_, (S1 l 6).left_, (S1 l 6).down_, (S1 l 6).calls_) nx = if l = 0 then some true else nx ([⟨a, (a.length : Int)⟩, ⟨b, (b.length : Int)⟩], (S1 (max (-1) (wr (l - 1))) 7).now_, (S1 (max (-1) (wr (l - 1))) 7).safe_, (S1 (max (-1) (wr (l - 1))) 7).wait_, (S1 (max (-1) (wr (l - 1))) 7).room_, (S1 (max (-1) (wr (l - 1))) 7).left_, (S1 (max (-1) (wr (l - 1))) 7).down_, (S1 (max (-1) (wr (l - 1))) 7).calls_) := fun l nx => by
    unfold go_law04_FilesRename.b1
    dsimp only
    rw [if_neg (show ¬ (2 : Nat) = 0 by decide), if_neg (show ¬ (2 : Nat) = 1 by decide), if_pos rfl]
    unfold go_law04_FilesRename_c3
    have hd : (⟨(S1 l 6).now_, (S1 l 6).safe_, (S1 l 6).wait_, (S1 l 6).room_, (S1 l 6).left_, (S1 l 6).down_, (S1 l 6).calls_⟩ : filesDisk) = S1 l 6 := rfl
    rw [hd]
    have h := sync_eq (d := S1 l 6) (ar := [⟨a, (a.length : Int)⟩, ⟨b, 0⟩]) Tt srtT veT
    have e1 : mget (S1 l 6).now_ Tt = some (some 1) := rfl
    have e2 : (S1 l 6).down_ = false := rfl
    have e4 : (S1 l 6).left_ = l := rfl
    rw [e1, e2, e4] at h
    simp only [Bool.false_eq_true, if_false, List.getElem?_cons_succ, List.getElem?_cons_zero, List.set_cons_succ, List.set_cons_zero] at h
    unfold Tt at h
    rw [h, Option.bind_some, Option.bind_some]
    unfold go_law04_FilesRename.j2
    by_cases hl : l = 0
    · rw [if_pos hl, if_pos hl]
      rw [if_pos (show (!decide ((7 : Int) = 0)) = true from rfl)]
      exact end1 (ar := []) (d := callF (S1 l 6)) rfl rfl ha (fine0 hb)
    · rw [if_neg hl, if_neg hl]
      rw [if_neg (show ¬ (!decide ((0 : Int) = 0)) = true by decide)]
      have h2 : decide (l = 0) = false := by simp [hl]
      unfold callF S1
      simp only [h2]
      rfl
  rw [step2]
  split
  · rfl
  rename_i hn2
  obtain ⟨n, rfl⟩ : ∃ m, n = m + 1 := ⟨n - 1, by omega⟩
  rw [next n (by omega)]
  -- Rename
  have step3 : ∀ (l : Int) nx, go_law04_FilesRename.b1 p2 a b 3 3 ([⟨a, (a.length : Int)⟩, ⟨b, (b.length : Int)⟩], (S1 l 7).now_, (S1 l 7).safe_, (S1 l 7).wait_, (S1 l 7).room_, (S1 l 7).left_, (S1 l 7).down_, (S1 l 7).calls_) nx = if l = 0 then some true else nx ([⟨a, (a.length : Int)⟩, ⟨b, (b.length : Int)⟩], (S4 (max (-1) (wr (l - 1))) 8).now_, (S4 (max (-1) (wr (l - 1))) 8).safe_, (S4 (max (-1) (wr (l - 1))) 8).wait_, (S4 (max (-1) (wr (l - 1))) 8).room_, (S4 (max (-1) (wr (l - 1))) 8).left_, (S4 (max (-1) (wr (l - 1))) 8).down_, (S4 (max (-1) (wr (l - 1))) 8).calls_) := fun l nx => by
    unfold go_law04_FilesRename.b1
    dsimp only
    rw [if_neg (show ¬ (3 : Nat) = 0 by decide), if_neg (show ¬ (3 : Nat) = 1 by decide), if_neg (show ¬ (3 : Nat) = 2 by decide), if_pos rfl]
    unfold go_law04_FilesRename_c4
    have hd : (⟨(S1 l 7).now_, (S1 l 7).safe_, (S1 l 7).wait_, (S1 l 7).room_, (S1 l 7).left_, (S1 l 7).down_, (S1 l 7).calls_⟩ : filesDisk) = S1 l 7 := rfl
    rw [hd]
    have h := rename_eq (d := S1 l 7) Tt X (by simp [S1])
    have e1 : (mget (S1 l 7).now_ Tt).isSome = true := rfl
    have e2 : (S1 l 7).down_ = false := rfl
    have e4 : (S1 l 7).left_ = l := rfl
    rw [e1, e2, e4, if_neg (show ¬ false = true by decide), if_pos rfl, if_neg (show ¬ Tt = X by decide)] at h
    unfold Tt X at h
    rw [h, Option.bind_some, Option.bind_some]
    unfold go_law04_FilesRename.j2
    by_cases hl : l = 0
    · rw [if_pos hl, if_pos hl]
      rw [if_pos (show (!decide ((7 : Int) = 0)) = true from rfl)]
      exact end1 (ar := []) (d := callF (S1 l 7)) rfl rfl ha (fineA hb)
    · rw [if_neg hl, if_neg hl]
      rw [if_neg (show ¬ (!decide ((0 : Int) = 0)) = true by decide)]
      have h2 : decide (l = 0) = false := by simp [hl]
      unfold setF callF S1 S4
      simp only [h2]
      rfl
  rw [step3]
  split
  · rfl
  rename_i hn3
  obtain ⟨n, rfl⟩ : ∃ m, n = m + 1 := ⟨n - 1, by omega⟩
  rw [next n (by omega)]
  -- SyncDir
  unfold go_law04_FilesRename.b1
  dsimp only
  rw [if_neg (show ¬ (4 : Nat) = 0 by decide), if_neg (show ¬ (4 : Nat) = 1 by decide), if_neg (show ¬ (4 : Nat) = 2 by decide), if_neg (show ¬ (4 : Nat) = 3 by decide), if_pos rfl]
  have hd : (⟨(S4 (n : Int) 8).now_, (S4 (n : Int) 8).safe_, (S4 (n : Int) 8).wait_, (S4 (n : Int) 8).room_, (S4 (n : Int) 8).left_, (S4 (n : Int) 8).down_, (S4 (n : Int) 8).calls_⟩ : filesDisk) = S4 (n : Int) 8 := rfl
  rw [hd, syncDir_eq]
  have e2 : (S4 (n : Int) 8).down_ = false := rfl
  have e4 : (S4 (n : Int) 8).left_ = (n : Int) := rfl
  rw [e2, e4, if_neg (show ¬ false = true by decide), Option.bind_some]
  unfold go_law04_FilesRename.j2
  by_cases hl : (n : Int) = 0
  · rw [if_pos hl]
    rw [if_pos (show (!decide ((7 : Int) = 0)) = true from rfl)]
    obtain ⟨j, hj, hk⟩ := kept_take (callF (S4 (n : Int) 8)) ((p2 % 5).toNat : Int)
    have hj2 : j ≤ 2 := hj
    match j, hj2 with
    | 0, _ => exact end_ok (d := callF (S4 (n : Int) 8)) (m := [(X, some 0)]) (i := 0) (y := a) hk (srtX 0) (veX (by simp)) (fines (fineA ha) (fineA hb)) rfl rfl (.inl rfl)
    | 1, _ => exact end_ok (d := callF (S4 (n : Int) 8)) (m := [(Tt, some 1), (X, some 0)]) (i := 0) (y := a) hk srtT veT (fines (fineA ha) (fineA hb)) rfl rfl (.inl rfl)
    | 2, _ => exact end_ok (d := callF (S4 (n : Int) 8)) (m := [(X, some 1)]) (i := 1) (y := b) hk (srtX 1) (veX (by simp)) (fines (fineA ha) (fineA hb)) rfl rfl (.inr rfl)
  · rw [if_neg hl]
    rw [if_neg (show ¬ (!decide ((0 : Int) = 0)) = true by decide)]
    exact end_ok (d := ⟨[(X, some 1)], [(X, some 1)], [], 200, (callF (S4 (n : Int) 8)).left_, (callF (S4 (n : Int) 8)).down_, (callF (S4 (n : Int) 8)).calls_⟩) (m := [(X, some 1)]) (i := 1) (y := b) (by
      obtain ⟨j, hj, hk⟩ := kept_take ⟨[(X, some 1)], [(X, some 1)], [], 200, (callF (S4 (n : Int) 8)).left_, (callF (S4 (n : Int) 8)).down_, (callF (S4 (n : Int) 8)).calls_⟩ ((p2 % 5).toNat : Int)
      have h0 : j = 0 := by simpa using hj
      subst h0
      exact hk) (srtX 1) (veX (by simp)) (fines (fineA ha) (fineA hb)) rfl rfl (.inr rfl)
end
end Go.Proofs.Ytbonfgnmipmmbaa.Fi
