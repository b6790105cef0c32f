/- FilesScript, in plain words. -/
import Derived.Test.YtbonfgnmipmmbaaFiH
import Derived.Test.YtbonfgnmipmmbaaF8
namespace Go.Proofs.Ytbonfgnmipmmbaa.Fi
open Go Go.Proofs Go.Proofs.Ytbonfgnmipmmbaa.Sx Go.Proofs.Ytbonfgnmipmmbaa.F1 Go.Proofs.Ytbonfgnmipmmbaa.F2 Go.Proofs.Ytbonfgnmipmmbaa.F3 Go.Proofs.Ytbonfgnmipmmbaa.F4 Go.Proofs.Ytbonfgnmipmmbaa.F5 Go.Proofs.Ytbonfgnmipmmbaa.F7 Go.Proofs.Ytbonfgnmipmmbaa.F8
set_option linter.unusedVariables false
set_option linter.unusedSimpArgs false
/-- All names of a disk are of six. -/
structure KeyD (d : filesDisk) : Prop where
  k1 : Keys d.now_
  k2 : Keys d.safe_
  k3 : ∀ cs ∈ d.wait_, ∀ c ∈ cs, c.name_ ∈ six
theorem fold_keys : ∀ {cs : List fileschange} {m : Fm}, Keys m → Srt m → (∀ c ∈ cs, c.name_ ∈ six) → Keys (cs.foldl putF m) ∧ Srt (cs.foldl putF m)
  | [], m, h, hs, _ => ⟨h, hs⟩
  | c :: cs, m, h, hs, hc => fold_keys (cs := cs) (m := putF m c) (h.putF hs (hc c (List.mem_cons_self ..))) (putF_srt hs c) (fun c' h' => hc c' (List.mem_cons_of_mem _ h'))
theorem folds_keys : ∀ {w : List (List fileschange)} {m : Fm}, Keys m → Srt m → (∀ cs ∈ w, ∀ c ∈ cs, c.name_ ∈ six) → Keys (w.foldl (fun m cs => cs.foldl putF m) m)
  | [], m, h, hs, _ => h
  | cs :: w, m, h, hs, hc => by
    have h1 := fold_keys h hs (hc cs (List.mem_cons_self ..))
    exact folds_keys (w := w) (m := cs.foldl putF m) h1.1 h1.2 (fun cs' h' => hc cs' (List.mem_cons_of_mem _ h'))
/-- What a deed may make of a disk. -/
def Nxt (d d' : filesDisk) : Prop := d' = d ∨ d' = callF d ∨ (∃ cs : List fileschange, (∀ c ∈ cs, c.name_ ∈ six) ∧ d' = setF (callF d) cs) ∨ d' = ⟨d.now_, d.now_, [], d.room_, (callF d).left_, (callF d).down_, (callF d).calls_⟩
theorem Nxt.keys {d d' : filesDisk} (h : Nxt d d') (hk : KeyD d) (hs : Srt d.now_) : KeyD d' := by
  rcases h with rfl | rfl | ⟨cs, hc, rfl⟩ | rfl
  · exact hk
  · exact ⟨hk.k1, hk.k2, hk.k3⟩
  · refine ⟨(fold_keys hk.k1 hs hc).1, hk.k2, fun cs' h' => ?_⟩
    rcases List.mem_append.1 h' with h' | h'
    · exact hk.k3 cs' h'
    · rw [List.mem_singleton] at h'
      subst h'
      exact hc
  · exact ⟨hk.k1, hk.k1, fun cs' h' => by cases h'⟩
theorem one_six {s : Str} (h : s ∈ six) (f : Option Nat) : ∀ c ∈ [(⟨s, f⟩ : fileschange)], c.name_ ∈ six := fun c hc => by
  rw [List.mem_singleton] at hc
  subst hc
  exact h
section
variable {d : filesDisk} {ar : Ar} {B : Nat}
theorem do_nxt (a : law04Act) (l : List UInt8) (hl : l.length ≤ 40) (h : Okd d ar B) (hB : B ≤ 900000) {c : Int} {d' : filesDisk} {ar' : Ar} (hd : go_law04_Do d a l ar = some (c, d', ar')) : Nxt d d' := by
  obtain ⟨s, h6, hs⟩ := name_six a.Name
  obtain ⟨q, h6q, hq⟩ := name_six a.To
  have hw := h.w2
  have create : ∀ y, go_files_Disk_Create d s ar = some y → Nxt d y.2.1 := fun y hy => by
    rw [create_eq s (by omega)] at hy
    obtain rfl := Option.some.inj hy
    repeat' split
    all_goals first | exact .inl rfl | exact .inr (.inl rfl) | exact .inr (.inr (.inl ⟨_, one_six h6 _, rfl⟩))
  have app : ∀ y, go_files_Disk_Append d s l ar = some y → Nxt d y.2.1 := fun y hy => by
    rw [append_eq s l h.n1 h.v1 (fun y hy => by have := h.fi y hy; omega)] at hy
    obtain rfl := Option.some.inj hy
    repeat' split
    all_goals first | exact .inl rfl | exact .inr (.inl rfl)
  have cut : ∀ y, go_files_Disk_Cut d s a.N.toInt ar = some y → Nxt d y.2.1 := fun y hy => by
    rw [cutd_eq s _ h.n1 h.v1] at hy
    obtain rfl := Option.some.inj hy
    repeat' split
    all_goals first | exact .inl rfl | exact .inr (.inl rfl)
  have syn : ∀ y, go_files_Disk_Sync d s ar = some y → Nxt d y.2.1 := fun y hy => by
    rw [sync_eq s h.n1 h.v1] at hy
    obtain rfl := Option.some.inj hy
    repeat' split
    all_goals first | exact .inl rfl | exact .inr (.inl rfl)
  have syd : ∀ y, go_files_Disk_SyncDir d = some y → Nxt d y.2 := fun y hy => by
    rw [syncDir_eq] at hy
    obtain rfl := Option.some.inj hy
    repeat' split
    all_goals first | exact .inl rfl | exact .inr (.inl rfl) | exact .inr (.inr (.inr rfl))
  have rem : ∀ y, go_files_Disk_Remove d s = some y → Nxt d y.2 := fun y hy => by
    rw [remove_eq s (by omega)] at hy
    obtain rfl := Option.some.inj hy
    repeat' split
    all_goals first | exact .inl rfl | exact .inr (.inl rfl) | exact .inr (.inr (.inl ⟨_, one_six h6 _, rfl⟩))
  have ren : ∀ y, go_files_Disk_Rename d s q = some y → Nxt d y.2 := fun y hy => by
    rw [rename_eq s q (by omega)] at hy
    obtain rfl := Option.some.inj hy
    repeat' split
    all_goals first | exact .inl rfl | exact .inr (.inl rfl) | exact .inr (.inr (.inl ⟨_, (fun c hc => by
      rcases List.mem_cons.1 hc with rfl | hc
      · exact h6
      · exact one_six h6q _ c hc), rfl⟩))
  unfold go_law04_Do go_law04_Do.j1 go_law04_Do.j2 go_law04_Do.j3 at hd
  rw [hs, Option.bind_some, hq, Option.bind_some] at hd
  rcases ops a.Op with (ho | ho) | (ho | ho | ho) | ho | (ho | ho) | ho | ho | (ho | ho)
  all_goals
    simp [ho] at hd
    obtain ⟨y, hy, hd⟩ := bnd hd
    obtain ⟨y1, y2⟩ := y
    cases hd
    first | exact create _ hy | exact app _ hy | exact cut _ hy | exact syn _ hy | exact syd _ hy | exact rem _ hy | exact ren _ hy
end
theorem rest_ok {d : filesDisk} {ar : Ar} {B : Nat} (k n : Int) (h : Okd d ar B) (hB : B ≤ 900000) : Okd ⟨kept d k, kept d k, [], d.room_, -1, false, d.calls_⟩ (restA n (kept d k) ar) B := by
  have hk := kept_ok h k
  have hv : Ve (restA n (kept d k) ar) (kept d k) := hk.2.more (by rw [restA_len]; exact Nat.le_refl _)
  refine ⟨hk.1, hk.1, hv, hv, (fun cs hcs => by cases hcs), by simp, fun y hy => ?_⟩
  unfold restA at hy
  rw [List.mem_mapIdx] at hy
  obtain ⟨i, hi, rfl⟩ := hy
  have hf := h.fi ar[i] (List.getElem_mem _)
  split
  · unfold cutY
    simp only [List.length_take]
    omega
  · exact hf
theorem rest_keys {d : filesDisk} {ar : Ar} {B : Nat} (k : Int) (h : Okd d ar B) (hk : KeyD d) : KeyD ⟨kept d k, kept d k, [], d.room_, -1, false, d.calls_⟩ := by
  have h1 : Keys (kept d k) := folds_keys hk.k2 h.n2 (fun cs hcs => hk.k3 cs (List.mem_of_mem_take hcs))
  exact ⟨h1, h1, fun cs hcs => by cases hcs⟩
/-! ### What is told behind a deed -/
abbrev St := List filesfile × List law04file × Fm × Fm × List (List fileschange) × Int × Int × Bool × Int × Fm × Fm × List (List Str) × List (List (Option Nat)) × Int × Int × Bool × Int
def st (d : filesDisk) (ar : Ar) : St := (ar, ar.map cv, d.now_, d.safe_, d.wait_, d.room_, d.left_, d.down_, d.calls_, d.now_, d.safe_, nms d.wait_, fls d.wait_, d.room_, d.left_, d.down_, d.calls_)
theorem b2_loop {d : filesDisk} {ar : Ar} {B : Nat} (h : Okd d ar B) (hB : B ≤ 900000) {K : List filesfile → Option Bool} : ∀ (m : Fm) (i : Nat) (s : Str), Srt m → (∀ e ∈ m, ltT s e.1 = true) → (∀ e ∈ m, e ∈ d.now_) → forL (go_law04_FilesScript.b2 (ar.map cv) d.now_ d.safe_ d.wait_ d.room_ d.left_ d.down_ d.calls_ d.now_ d.down_) (fun s => K s.2) i (m.map Prod.fst) (s, ar) = K ar
  | [], _, _, _, _, _ => rfl
  | e :: m, i, s, hs, hl, hm => by
    have h0 := List.pairwise_cons.1 hs
    have he : e ∈ d.now_ := hm e (List.mem_cons_self ..)
    have hes := hl e (List.mem_cons_self ..)
    obtain ⟨j, h1, h2⟩ := h.v1 e he
    have hg : mget d.now_ e.1 = some (some j) := by rw [mget_some h.n1, ← h1]; exact he
    have e1 : ltT e.1 s = false := by
      cases hc : ltT e.1 s with
      | false => rfl
      | true =>
        have := lt_trans hes hc
        rw [lt_irr] at this
        cases this
    have e2 : ¬ e.1 = s := fun hc => by rw [hc, lt_irr] at hes; cases hes
    have hstep : ∀ nx, go_law04_FilesScript.b2 (ar.map cv) d.now_ d.safe_ d.wait_ d.room_ d.left_ d.down_ d.calls_ d.now_ d.down_ i e.1 (s, ar) nx = nx (e.1, ar) := by
      intro nx
      unfold go_law04_FilesScript.b2
      simp only []
      have hd : (⟨d.now_, d.safe_, d.wait_, d.room_, d.left_, d.down_, d.calls_⟩ : filesDisk) = d := rfl
      rw [hd, read_eq e.1 h.n1 h.v1 (fun y hy => by have := h.fi y hy; omega), Option.bind_some, hg, e1]
      cases hdn : d.down_ with
      | true => simp [e2]
      | false => simp [e2, List.getElem?_eq_getElem h2, cv]
    show go_law04_FilesScript.b2 _ _ _ _ _ _ _ _ _ _ i e.1 (s, ar) (fun s' => forL _ _ (i + 1) (m.map Prod.fst) s') = _
    rw [hstep]
    exact b2_loop h hB m (i + 1) e.1 h0.2 (fun e' he' => h0.1 e' he') (fun e' he' => hm e' (List.mem_cons_of_mem _ he'))
theorem j1_eq {d : filesDisk} {ar : Ar} {B : Nat} (h : Okd d ar B) (hB : B ≤ 900000) (hk : KeyD d) (nx : St → Option Bool) : go_law04_FilesScript.j1 nx ar (ar.map cv) d.now_ d.safe_ d.wait_ d.room_ d.left_ d.down_ d.calls_ d.now_ d.safe_ (nms d.wait_) (fls d.wait_) d.room_ d.left_ d.down_ d.calls_ = nx (st d ar) := by
  unfold go_law04_FilesScript.j1
  have hd : (⟨d.now_, d.safe_, d.wait_, d.room_, d.left_, d.down_, d.calls_⟩ : filesDisk) = d := rfl
  have hm : (⟨d.now_, d.safe_, nms d.wait_, fls d.wait_, d.room_, d.left_, d.down_, d.calls_⟩ : law04Model) = mo d := rfl
  have e1 : go_files_Disk_Down d = some d.down_ := rfl
  have e2 : go_files_Disk_Calls d = some d.calls_ := rfl
  have h6 : ∀ s ∈ six, ltT [] s = true ∧ s.length ≤ 1000000 := by decide
  have hn := names_eq (d := d) (by have := keys_len h.n1 hk.k1; omega) (fun e he => (h6 _ (hk.k1 e he)).2)
  rw [hd, hm, e1, Option.bind_some, if_pos rfl, e2, Option.bind_some, if_pos rfl, used_eq h.n1 h.v1, Option.bind_some, mused_eq, used_eq h.n1 h.v1, Option.bind_some, if_pos rfl, hn, Option.bind_some, List.length_map, if_pos rfl, Option.bind_some]
  exact b2_loop h hB (K := fun A => nx (A, ar.map cv, d.now_, d.safe_, d.wait_, d.room_, d.left_, d.down_, d.calls_, d.now_, d.safe_, nms d.wait_, fls d.wait_, d.room_, d.left_, d.down_, d.calls_)) d.now_ 0 [] h.n1 (fun e he => (h6 _ (hk.k1 e he)).1) (fun e he => he)
theorem of_room (r : Int) : go_files_Of r = some ⟨[], [], [], max 0 r, -1, false, 0⟩ := rfl
theorem filesScript (p0 : List law04Act) (p1 : UInt8) : go_law04_FilesScript p0 p1 = some true := by
  unfold go_law04_FilesScript
  have hp := p1.toNat_lt
  have c : cutI p0 0 (min (p0.length : Int) 150) = some (p0.take 150) := cut_min p0 150
  rw [awake, Option.bind_some, if_pos rfl, of_room, Option.bind_some, c, Option.bind_some]
  have hr : wr ((p1.toNat : Int) * 4) = (p1.toNat : Int) * 4 := wr_in (by omega) (by omega)
  have hr2 : max 0 ((p1.toNat : Int) * 4) = (p1.toNat : Int) * 4 := by omega
  rw [hr]
  simp only [hr2]
  refine forL_or (fun j (s : St) => ∃ d ar, s = st d ar ∧ Okd d ar (40 * j) ∧ KeyD d) (fun r => r = some true) _ _ _ ⟨⟨[], [], [], (p1.toNat : Int) * 4, -1, false, 0⟩, [], rfl, ⟨Srt.nil, Srt.nil, (fun e he => by cases he), (fun e he => by cases he), (fun cs hcs => by cases hcs), by simp, (fun y hy => by cases hy)⟩, ⟨(fun e he => by cases he), (fun e he => by cases he), (fun cs hcs => by cases hcs)⟩⟩ ?_ ?_
  · rintro j a s nx _ hj ha ⟨d, ar, rfl, hok, hk⟩
    have h150 : j < 150 := by
      have : (p0.take 150).length ≤ 150 := by rw [List.length_take]; omega
      omega
    have c2 : cutI a.Bytes 0 (min (a.Bytes.length : Int) 40) = some (a.Bytes.take 40) := cut_min a.Bytes 40
    have hl : (a.Bytes.take 40).length ≤ 40 := by rw [List.length_take]; omega
    generalize a.Bytes.take 40 = l at hl c2
    have hd : (⟨d.now_, d.safe_, d.wait_, d.room_, d.left_, d.down_, d.calls_⟩ : filesDisk) = d := rfl
    have hm : (⟨d.now_, d.safe_, nms d.wait_, fls d.wait_, d.room_, d.left_, d.down_, d.calls_⟩ : law04Model) = mo d := rfl
    unfold st go_law04_FilesScript.b1
    simp only []
    rw [c2, Option.bind_some, hd, hm]
    by_cases h1 : 240 ≤ a.Op
    · rw [if_pos h1]
      have harm : go_files_Disk_Arm d (Int.tmod a.N.toInt 20) = some ⟨d.now_, d.safe_, d.wait_, d.room_, max (-1) (Int.tmod a.N.toInt 20), d.down_, d.calls_⟩ := rfl
      rw [harm, Option.bind_some]
      have hok' : Okd ⟨d.now_, d.safe_, d.wait_, d.room_, max (-1) (Int.tmod a.N.toInt 20), d.down_, d.calls_⟩ ar (40 * (j + 1)) := Okd.more (B := 40 * j) ⟨hok.n1, hok.n2, hok.v1, hok.v2, hok.w1, hok.w2, hok.fi⟩ (by omega)
      have hk' : KeyD ⟨d.now_, d.safe_, d.wait_, d.room_, max (-1) (Int.tmod a.N.toInt 20), d.down_, d.calls_⟩ := ⟨hk.k1, hk.k2, hk.k3⟩
      exact .inr ⟨_, j1_eq hok' (by omega) hk' nx, _, _, rfl, hok', hk'⟩
    rw [if_neg h1]
    by_cases h2 : 225 ≤ a.Op
    · rw [if_pos h2, mrestart_eq _ _ hok (by omega)]
      have hkk := kept_ok hok (wr (Int.tmod (a.To.toNat : Int) 9 - 1))
      rw [restart_eq _ _ hkk.1 hkk.2 (hok.fine (by omega))]
      simp only [Option.bind_some]
      have hok' := (rest_ok (wr (Int.tmod (a.To.toNat : Int) 9 - 1)) (Int.tmod a.N.toInt 60) hok (by omega)).more (B' := 40 * (j + 1)) (by omega)
      have hk' := rest_keys (wr (Int.tmod (a.To.toNat : Int) 9 - 1)) hok hk
      exact .inr ⟨_, j1_eq hok' (by omega) hk' nx, _, _, rfl, hok', hk'⟩
    · rw [if_neg h2, mdo_eq a l hl hok (by omega) hk.k1]
      obtain ⟨c, d', ar', hdo, hok', hR⟩ := do_post a l hl hok (by omega)
      have hk' := (do_nxt a l hl hok (by omega) hdo).keys hk hok.n1
      rw [hdo]
      unfold toM
      simp only [Option.bind_some, if_true]
      exact .inr ⟨_, j1_eq hok' (by omega) hk' nx, _, _, rfl, hok'.more (by omega), hk'⟩
  · rintro s _
    rfl
end Go.Proofs.Ytbonfgnmipmmbaa.Fi
