/- FilesDown, in plain words. -/
import Derived.Test.YtbonfgnmipmmbaaFiC
namespace Go.Proofs.Ytbonfgnmipmmbaa.Fi
open Go Go.Proofs Go.Proofs.Ytbonfgnmipmmbaa.Sx Go.Proofs.Ytbonfgnmipmmbaa.F1 Go.Proofs.Ytbonfgnmipmmbaa.F2 Go.Proofs.Ytbonfgnmipmmbaa.F3 Go.Proofs.Ytbonfgnmipmmbaa.F4
set_option linter.unusedVariables false
set_option linter.unusedSimpArgs false
/-- A disk in order. -/
structure Okd (d : filesDisk) (ar : Ar) (B : Nat) : Prop where
  n1 : Srt d.now_
  n2 : Srt d.safe_
  v1 : Ve ar d.now_
  v2 : Ve ar d.safe_
  w1 : ∀ cs ∈ d.wait_, ∀ c ∈ cs, ∀ i, c.f_ = some i → i < ar.length
  w2 : d.wait_.length ≤ B
  fi : ∀ y ∈ ar, 0 ≤ y.safe_ ∧ y.safe_ ≤ y.b_.length ∧ y.b_.length ≤ B
theorem fold_ok {ar : Ar} : ∀ {cs : List fileschange} {m : Fm}, Srt m → Ve ar m → (∀ c ∈ cs, ∀ i, c.f_ = some i → i < ar.length) → Srt (cs.foldl putF m) ∧ Ve ar (cs.foldl putF m)
  | [], m, h, hv, _ => ⟨h, hv⟩
  | c :: cs, m, h, hv, hc => by
    refine fold_ok (cs := cs) (m := putF m c) ?_ ?_ (fun c' h' => hc c' (List.mem_cons_of_mem _ h'))
    · unfold putF
      split
      · exact h.del _
      · exact h.put _ _
    · unfold putF
      split
      · exact hv.del _
      · rename_i hn
        obtain ⟨i, hi⟩ := Option.ne_none_iff_exists'.1 hn
        rw [hi]
        exact hv.put h (hc c (List.mem_cons_self ..) i hi)
theorem folds_ok {ar : Ar} : ∀ {w : List (List fileschange)} {m : Fm}, Srt m → Ve ar m → (∀ cs ∈ w, ∀ c ∈ cs, ∀ i, c.f_ = some i → i < ar.length) → Srt (w.foldl (fun m cs => cs.foldl putF m) m) ∧ Ve ar (w.foldl (fun m cs => cs.foldl putF m) m)
  | [], m, h, hv, _ => ⟨h, hv⟩
  | cs :: w, m, h, hv, hc => by
    have h1 := fold_ok h hv (hc cs (List.mem_cons_self ..))
    exact folds_ok (w := w) (m := cs.foldl putF m) h1.1 h1.2 (fun cs' h' => hc cs' (List.mem_cons_of_mem _ h'))
theorem kept_ok {d : filesDisk} {ar : Ar} {B : Nat} (h : Okd d ar B) (k : Int) : Srt (kept d k) ∧ Ve ar (kept d k) :=
  folds_ok h.n2 h.v2 (fun cs hcs => h.w1 cs (List.mem_of_mem_take hcs))
theorem Okd.fine {d : filesDisk} {ar : Ar} {B : Nat} (h : Okd d ar B) (hB : B ≤ 1000000) : ∀ y ∈ ar, Fine y := fun y hy => by
  obtain ⟨h1, h2, h3⟩ := h.fi y hy
  exact ⟨h1, h2, by omega⟩
theorem Okd.more {d : filesDisk} {ar : Ar} {B B' : Nat} (h : Okd d ar B) (hl : B ≤ B') : Okd d ar B' :=
  ⟨h.n1, h.n2, h.v1, h.v2, h.w1, Nat.le_trans h.w2 hl, fun y hy => by have := h.fi y hy; omega⟩
theorem Okd.call {d : filesDisk} {ar : Ar} {B : Nat} (h : Okd d ar B) : Okd (callF d) ar B := ⟨h.n1, h.n2, h.v1, h.v2, h.w1, h.w2, h.fi⟩
theorem Okd.setd {d : filesDisk} {ar : Ar} {B : Nat} {cs : List fileschange} (h : Okd d ar B) (hc : ∀ c ∈ cs, ∀ i, c.f_ = some i → i < ar.length) : Okd (setF d cs) ar (B + 1) := by
  have h1 := fold_ok h.n1 h.v1 hc
  refine ⟨h1.1, h.n2, h1.2, h.v2, fun cs' hcs => ?_, ?_, fun y hy => by have := h.fi y hy; omega⟩
  · rcases List.mem_append.1 hcs with hcs | hcs
    · exact h.w1 cs' hcs
    · rw [List.mem_singleton] at hcs
      subst hcs
      exact hc
  · show (d.wait_ ++ [cs]).length ≤ B + 1
    rw [List.length_append]
    have := h.w2
    simp
    omega
theorem Okd.arr {d : filesDisk} {ar ar' : Ar} {B B' : Nat} (h : Okd d ar B) (hl : ar.length ≤ ar'.length) (hB : B ≤ B') (hf : ∀ y ∈ ar', 0 ≤ y.safe_ ∧ y.safe_ ≤ y.b_.length ∧ y.b_.length ≤ B') : Okd d ar' B' :=
  ⟨h.n1, h.n2, h.v1.more hl, h.v2.more hl, fun cs hcs c hc i hi => by have := h.w1 cs hcs c hc i hi; omega, Nat.le_trans h.w2 hB, hf⟩
/-- What a deed does to a disk. -/
def R (d : filesDisk) (ar : Ar) (c : Int) (d' : filesDisk) (ar' : Ar) : Prop :=
  (d.down_ = true → c = 7 ∧ d' = d ∧ ar' = ar) ∧ (d.down_ = false → ((c = 0 ∨ c = 7) → d'.calls_ = wr (d.calls_ + 1)) ∧ (¬ (c = 0 ∨ c = 7) → d'.calls_ = d.calls_) ∧ (c = 7 → d'.down_ = true))
def Post (d : filesDisk) (ar : Ar) (B : Nat) (r : Option (Int × filesDisk × List filesfile)) : Prop := ∃ c d' ar', r = some (c, d', ar') ∧ Okd d' ar' (B + 40) ∧ R d ar c d' ar'
theorem R.down {d : filesDisk} {ar : Ar} (h : d.down_ = true) : R d ar 7 d ar := ⟨fun _ => ⟨rfl, rfl, rfl⟩, fun h' => by rw [h] at h'; cases h'⟩
theorem R.no {d : filesDisk} {ar : Ar} {c : Int} (h : ¬ d.down_ = true) (hc : ¬ (c = 0 ∨ c = 7)) : R d ar c d ar := ⟨fun h' => absurd h' h, fun _ => ⟨fun h' => absurd h' hc, fun _ => rfl, fun h' => absurd (.inr h') hc⟩⟩
theorem R.stop {d : filesDisk} {ar ar' : Ar} (h : ¬ d.down_ = true) (hl : d.left_ = 0) : R d ar 7 (callF d) ar' := ⟨fun h' => absurd h' h, fun _ => ⟨fun _ => rfl, fun h' => absurd (.inr rfl) h', fun _ => by show decide (d.left_ = 0) = true; simp [hl]⟩⟩
theorem R.done {d d' : filesDisk} {ar ar' : Ar} (h : ¬ d.down_ = true) (hd : d'.calls_ = wr (d.calls_ + 1)) : R d ar 0 d' ar' := ⟨fun h' => absurd h' h, fun _ => ⟨fun _ => hd, fun h' => absurd (.inl rfl) h', fun h' => by cases h'⟩⟩
section
variable {d : filesDisk} {ar : Ar} {B : Nat}
theorem create_post (p : Str) (h : Okd d ar B) (hB : B ≤ 900000) : Post d ar B (go_files_Disk_Create d p ar) := by
  rw [create_eq p (by have := h.w2; omega)]
  by_cases h1 : d.down_ = true
  · rw [if_pos h1]; exact ⟨_, _, _, rfl, h.more (by omega), R.down h1⟩
  rw [if_neg h1]
  by_cases h2 : (mget d.now_ p).isSome = true
  · rw [if_pos h2]; exact ⟨_, _, _, rfl, h.more (by omega), R.no h1 (by decide)⟩
  rw [if_neg h2]
  by_cases h3 : 64 ≤ (d.now_.length : Int)
  · rw [if_pos h3]; exact ⟨_, _, _, rfl, h.more (by omega), R.no h1 (by decide)⟩
  rw [if_neg h3]
  by_cases h4 : d.left_ = 0
  · rw [if_pos h4]; exact ⟨_, _, _, rfl, h.call.more (by omega), R.stop h1 h4⟩
  rw [if_neg h4]
  refine ⟨_, _, _, rfl, ?_, R.done h1 rfl⟩
  have ha : Okd (callF d) (ar ++ [⟨[], 0⟩]) B := h.call.arr (by simp) (Nat.le_refl _) (fun y hy => by
    rcases List.mem_append.1 hy with hy | hy
    · exact h.fi y hy
    · rw [List.mem_singleton] at hy; subst hy; exact ⟨by simp, by simp, by simp⟩)
  exact (ha.setd (fun c hc i hi => by
    rw [List.mem_singleton] at hc
    subst hc
    cases hi
    simp)).more (by omega)
theorem append_post (p : Str) (l : List UInt8) (hl : l.length ≤ 40) (h : Okd d ar B) (hB : B ≤ 900000) : Post d ar B (go_files_Disk_Append d p l ar) := by
  rw [append_eq p l h.n1 h.v1 (fun y hy => by have := h.fi y hy; omega)]
  by_cases h1 : d.down_ = true
  · rw [if_pos h1]; exact ⟨_, _, _, rfl, h.more (by omega), R.down h1⟩
  rw [if_neg h1]
  by_cases h2 : (mget d.now_ p).isSome = true
  · obtain ⟨i, hi, hg⟩ := look h.v1 h.n1 h2
    rw [hg]
    simp only []
    by_cases h3 : d.room_ < wr (wr (sumL ar d.now_) + (l.length : Int))
    · rw [if_pos h3]; exact ⟨_, _, _, rfl, h.more (by omega), R.no h1 (by decide)⟩
    rw [if_neg h3, List.getElem?_eq_getElem hi]
    simp only []
    have hf := h.fi ar[i] (List.getElem_mem _)
    have ha : Okd (callF d) (ar.set i ⟨ar[i].b_ ++ l, ar[i].safe_⟩) (B + 40) := h.call.arr (by simp) (by omega) (fun y hy => by
      rcases List.mem_or_eq_of_mem_set hy with hy | rfl
      · have := h.fi y hy; omega
      · simp only [List.length_append]; omega)
    by_cases h4 : d.left_ = 0
    · rw [if_pos h4]; exact ⟨_, _, _, rfl, ha, R.stop h1 h4⟩
    · rw [if_neg h4]; exact ⟨_, _, _, rfl, ha, R.done h1 rfl⟩
  · have : mget d.now_ p = none := by simpa using h2
    rw [this]
    exact ⟨_, _, _, rfl, h.more (by omega), R.no h1 (by decide)⟩
theorem sync_post (p : Str) (h : Okd d ar B) (hB : B ≤ 900000) : Post d ar B (go_files_Disk_Sync d p ar) := by
  rw [sync_eq p h.n1 h.v1]
  by_cases h1 : d.down_ = true
  · rw [if_pos h1]; exact ⟨_, _, _, rfl, h.more (by omega), R.down h1⟩
  rw [if_neg h1]
  by_cases h2 : (mget d.now_ p).isSome = true
  · obtain ⟨i, hi, hg⟩ := look h.v1 h.n1 h2
    rw [hg]
    simp only []
    by_cases h4 : d.left_ = 0
    · rw [if_pos h4]; exact ⟨_, _, _, rfl, h.call.more (by omega), R.stop h1 h4⟩
    rw [if_neg h4, List.getElem?_eq_getElem hi]
    simp only []
    have hf := h.fi ar[i] (List.getElem_mem _)
    exact ⟨_, _, _, rfl, h.call.arr (by simp) (by omega) (fun y hy => by
      rcases List.mem_or_eq_of_mem_set hy with hy | rfl
      · have := h.fi y hy; omega
      · simp only []; omega), R.done h1 rfl⟩
  · have : mget d.now_ p = none := by simpa using h2
    rw [this]
    exact ⟨_, _, _, rfl, h.more (by omega), R.no h1 (by decide)⟩
theorem cut_post (p : Str) (n : Int) (h : Okd d ar B) (hB : B ≤ 900000) : Post d ar B (go_files_Disk_Cut d p n ar) := by
  rw [cutd_eq p n h.n1 h.v1]
  by_cases h1 : d.down_ = true
  · rw [if_pos h1]; exact ⟨_, _, _, rfl, h.more (by omega), R.down h1⟩
  rw [if_neg h1]
  by_cases h2 : (mget d.now_ p).isSome = true
  · obtain ⟨i, hi, hg⟩ := look h.v1 h.n1 h2
    rw [hg]
    simp only []
    rw [List.getElem?_eq_getElem hi]
    simp only []
    have hf := h.fi ar[i] (List.getElem_mem _)
    by_cases h3 : n < 0 ∨ (ar[i].b_.length : Int) < n
    · rw [if_pos h3]; exact ⟨_, _, _, rfl, h.more (by omega), R.no h1 (by decide)⟩
    rw [if_neg h3]
    by_cases h4 : d.left_ = 0
    · rw [if_pos h4]; exact ⟨_, _, _, rfl, h.call.more (by omega), R.stop h1 h4⟩
    rw [if_neg h4]
    exact ⟨_, _, _, rfl, h.call.arr (by simp) (by omega) (fun y hy => by
      rcases List.mem_or_eq_of_mem_set hy with hy | rfl
      · have := h.fi y hy; omega
      · simp only [List.length_take]; omega), R.done h1 rfl⟩
  · have : mget d.now_ p = none := by simpa using h2
    rw [this]
    exact ⟨_, _, _, rfl, h.more (by omega), R.no h1 (by decide)⟩
theorem syncDir_post (h : Okd d ar B) (hB : B ≤ 900000) : Post d ar B ((go_files_Disk_SyncDir d).bind fun y => some (y.1, y.2, ar)) := by
  rw [syncDir_eq]
  by_cases h1 : d.down_ = true
  · rw [if_pos h1]; exact ⟨_, _, _, rfl, h.more (by omega), R.down h1⟩
  rw [if_neg h1]
  by_cases h4 : d.left_ = 0
  · rw [if_pos h4]; exact ⟨_, _, _, rfl, h.call.more (by omega), R.stop h1 h4⟩
  rw [if_neg h4]
  exact ⟨_, _, _, rfl, ⟨h.n1, h.n1, h.v1, h.v1, (fun cs hcs => by cases hcs), by simp, fun y hy => by have := h.fi y hy; omega⟩, R.done h1 rfl⟩
theorem remove_post (p : Str) (h : Okd d ar B) (hB : B ≤ 900000) : Post d ar B ((go_files_Disk_Remove d p).bind fun y => some (y.1, y.2, ar)) := by
  rw [remove_eq p (by have := h.w2; omega)]
  by_cases h1 : d.down_ = true
  · rw [if_pos h1]; exact ⟨_, _, _, rfl, h.more (by omega), R.down h1⟩
  rw [if_neg h1]
  by_cases h2 : (mget d.now_ p).isSome = true
  · rw [if_pos h2]
    by_cases h4 : d.left_ = 0
    · rw [if_pos h4]; exact ⟨_, _, _, rfl, h.call.more (by omega), R.stop h1 h4⟩
    rw [if_neg h4]
    exact ⟨_, _, _, rfl, (h.call.setd (fun c hc i hi => by rw [List.mem_singleton] at hc; subst hc; cases hi)).more (by omega), R.done h1 rfl⟩
  · rw [if_neg h2]; exact ⟨_, _, _, rfl, h.more (by omega), R.no (c := 6) h1 (by decide)⟩
theorem rename_post (p q : Str) (h : Okd d ar B) (hB : B ≤ 900000) : Post d ar B ((go_files_Disk_Rename d p q).bind fun y => some (y.1, y.2, ar)) := by
  rw [rename_eq p q (by have := h.w2; omega)]
  by_cases h1 : d.down_ = true
  · rw [if_pos h1]; exact ⟨_, _, _, rfl, h.more (by omega), R.down h1⟩
  rw [if_neg h1]
  by_cases h2 : (mget d.now_ p).isSome = true
  · rw [if_pos h2]
    by_cases h3 : p = q
    · rw [if_pos h3]; exact ⟨_, _, _, rfl, h.more (by omega), R.no (c := 14) h1 (by decide)⟩
    rw [if_neg h3]
    by_cases h4 : d.left_ = 0
    · rw [if_pos h4]; exact ⟨_, _, _, rfl, h.call.more (by omega), R.stop h1 h4⟩
    rw [if_neg h4]
    obtain ⟨i, hi, hg⟩ := look h.v1 h.n1 h2
    refine ⟨_, _, _, rfl, (h.call.setd (fun c hc j hj => ?_)).more (by omega), R.done h1 rfl⟩
    simp only [List.mem_cons, List.not_mem_nil, or_false] at hc
    rcases hc with rfl | rfl
    · cases hj
    · rw [hg] at hj
      simp at hj
      omega
  · rw [if_neg h2]; exact ⟨_, _, _, rfl, h.more (by omega), R.no (c := 6) h1 (by decide)⟩
theorem Post.re {r : Option (Int × filesDisk × List filesfile)} (h : Post d ar B r) : Post d ar B (r.bind fun y => some (y.1, y.2.1, y.2.2)) := by
  obtain ⟨c, d', ar', rfl, h1, h2⟩ := h
  exact ⟨c, d', ar', rfl, h1, h2⟩
theorem each8 {p : UInt8 → Prop} (h : ∀ i : Fin 256, p (UInt8.ofNat i.val)) (n : UInt8) : p n := by
  have := h ⟨n.toNat, UInt8.toNat_lt n⟩
  simpa using this
theorem name_ok (n : UInt8) : ∃ s, go_law04_name n = some s := by
  have h : (go_law04_name n).isSome = true := by
    revert n
    refine each8 ?_
    decide +kernel
  exact Option.isSome_iff_exists.1 h
theorem do_post (a : law04Act) (l : List UInt8) (hl : l.length ≤ 40) (h : Okd d ar B) (hB : B ≤ 900000) : Post d ar B (go_law04_Do d a l ar) := by
  obtain ⟨s, hs⟩ := name_ok a.Name
  have j3 : ∀ b, Post d ar B (go_law04_Do.j3 d l ar s b) := fun b => by
    unfold go_law04_Do.j3
    cases b
    · exact (append_post s l hl h hB).re
    · exact remove_post s h hB
  have j2 : ∀ b, Post d ar B (go_law04_Do.j2 d a l ar s b) := fun b => by
    unfold go_law04_Do.j2
    cases b
    · rw [if_neg (by decide)]
      split
      · exact syncDir_post h hB
      · split
        · obtain ⟨q, hq⟩ := name_ok a.To
          rw [hq, Option.bind_some]
          exact rename_post s q h hB
        · split
          · exact j3 _
          · exact j3 _
    · exact (sync_post s h hB).re
  have j1 : ∀ b, Post d ar B (go_law04_Do.j1 d a l ar s b) := fun b => by
    unfold go_law04_Do.j1
    cases b
    · rw [if_neg (by decide)]
      split
      · exact (cut_post s _ h hB).re
      · split
        · exact j2 _
        · exact j2 _
    · exact (create_post s h hB).re
  unfold go_law04_Do
  rw [hs, Option.bind_some]
  split
  · exact j1 _
  · exact j1 _
end
theorem wr_ne (x : Int) : ¬ wr (x + 1) = x := fun h => by
  have h1 := wr_mod (x + 1)
  rw [h] at h1
  omega
theorem filesDown (p0 : List law04Act) (p1 : UInt8) : go_law04_FilesDown p0 p1 = some true := by
  unfold go_law04_FilesDown
  rw [awake, Option.bind_some, if_pos rfl, of_eq, Option.bind_some]
  have harm : ∀ n, go_files_Disk_Arm ⟨[], [], [], max 0 400, -1, false, 0⟩ n = some ⟨[], [], [], max 0 400, max (-1) n, false, 0⟩ := fun n => rfl
  have c : cutI p0 0 (min (p0.length : Int) 60) = some (p0.take 60) := cut_min p0 60
  rw [harm, Option.bind_some, c, Option.bind_some]
  refine forL_or (fun j (s : List filesfile × Fm × Fm × List (List fileschange) × Int × Int × Bool × Int) => Okd ⟨s.2.1, s.2.2.1, s.2.2.2.1, s.2.2.2.2.1, s.2.2.2.2.2.1, s.2.2.2.2.2.2.1, s.2.2.2.2.2.2.2⟩ s.1 (40 * j)) (fun r => r = some true) _ _ _ ⟨Srt.nil, Srt.nil, (fun e he => by cases he), (fun e he => by cases he), (fun cs hcs => by cases hcs), by simp, (fun y hy => by cases hy)⟩ ?_ ?_
  · rintro j a ⟨ar, m1, m2, w, r, lf, dn, cl⟩ nx _ hj ha hok
    have h60 : j < 60 := by
      have : (p0.take 60).length ≤ 60 := by rw [List.length_take]; omega
      omega
    simp only at hok
    obtain ⟨d, hd⟩ : ∃ d : filesDisk, d = ⟨m1, m2, w, r, lf, dn, cl⟩ := ⟨_, rfl⟩
    rw [← hd] at hok
    have c2 : cutI a.Bytes 0 (min (a.Bytes.length : Int) 40) = some (a.Bytes.take 40) := cut_min a.Bytes 40
    have hl : (a.Bytes.take 40).length ≤ 40 := by rw [List.length_take]; omega
    generalize a.Bytes.take 40 = l at hl c2
    obtain ⟨c, d', ar', hdo, hok', hR⟩ := do_post a l hl hok (by omega)
    refine .inr ⟨(ar', d'.now_, d'.safe_, d'.wait_, d'.room_, d'.left_, d'.down_, d'.calls_), ?_, hok'.more (by omega)⟩
    unfold go_law04_FilesDown.b1 go_law04_FilesDown.j1
    simp only []
    rw [← hd]
    have e1 : ∀ d, go_files_Disk_Down d = some d.down_ := fun _ => rfl
    have e2 : ∀ d, go_files_Disk_Calls d = some d.calls_ := fun _ => rfl
    rw [e1, Option.bind_some, e2, Option.bind_some, used_eq hok.n1 hok.v1, Option.bind_some, c2, Option.bind_some, hdo, Option.bind_some]
    cases hdn : d.down_ with
    | true =>
      obtain ⟨rfl, rfl, rfl⟩ := hR.1 hdn
      rw [if_pos rfl, if_pos rfl]
      simp only []
      rw [e2, Option.bind_some, if_pos rfl, used_eq hok.n1 hok.v1, Option.bind_some, if_pos rfl, e1, Option.bind_some, hdn]
      simp
    | false =>
      obtain ⟨r1, r2, r3⟩ := hR.2 hdn
      simp only [Bool.false_eq_true, if_false, e1, e2, Option.bind_some]
      by_cases h7 : c = 7
      · have h3 := r3 h7
        have h1 := r1 (.inr h7)
        rw [if_pos h7, h3, if_neg (by decide), if_neg (by omega), h1]
        have e : decide (wr (d.calls_ + 1) = d.calls_) = false := decide_eq_false (wr_ne _)
        rw [e, if_neg (by simp [h7])]
      · rw [if_neg h7]
        by_cases h0 : c = 0
        · rw [if_pos h0, r1 (.inl h0)]
          have e : decide (wr (d.calls_ + 1) = d.calls_) = false := decide_eq_false (wr_ne _)
          rw [e, if_neg (by decide)]
        · rw [if_neg h0, r2 (by omega)]
          rw [if_neg (by simp [h7])]
  · rintro ⟨ar, m1, m2, w, r, lf, dn, cl⟩ hok
    simp only at hok
    obtain ⟨d, hd⟩ : ∃ d : filesDisk, d = ⟨m1, m2, w, r, lf, dn, cl⟩ := ⟨_, rfl⟩
    simp only []
    rw [← hd] at hok ⊢
    have h60 : (p0.take 60).length ≤ 60 := by rw [List.length_take]; omega
    obtain ⟨k1, k2⟩ := kept_ok hok 3
    rw [restart_eq 3 3 k1 k2 (hok.fine (by omega)), Option.bind_some]
    simp only []
    have e1 : ∀ d, go_files_Disk_Down d = some d.down_ := fun _ => rfl
    rw [e1, Option.bind_some]
    simp only [Bool.false_eq_true, if_false]
    rw [create_eq _ (by simp), Option.bind_some]
    simp only [Bool.false_eq_true, if_false]
    split
    · rfl
    · split
      · rfl
      · rfl
end Go.Proofs.Ytbonfgnmipmmbaa.Fi
