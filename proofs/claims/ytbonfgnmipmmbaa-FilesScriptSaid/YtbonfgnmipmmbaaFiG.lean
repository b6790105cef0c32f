/- The law's own model of a disk beside the disk: they do the same. -/
import Derived.Test.YtbonfgnmipmmbaaFiD
import Derived.Test.YtbonfgnmipmmbaaFiE
import Derived.Test.YtbonfgnmipmmbaaF7
namespace Go.Proofs.Ytbonfgnmipmmbaa.Fi
open Go Go.Proofs Go.Proofs.Ytbonfgnmipmmbaa.Sx Go.Proofs.Ytbonfgnmipmmbaa.F1 Go.Proofs.Ytbonfgnmipmmbaa.F2 Go.Proofs.Ytbonfgnmipmmbaa.F3 Go.Proofs.Ytbonfgnmipmmbaa.F4 Go.Proofs.Ytbonfgnmipmmbaa.F5 Go.Proofs.Ytbonfgnmipmmbaa.F7
set_option linter.unusedVariables false
set_option linter.unusedSimpArgs false
def cv (y : filesfile) : law04file := ⟨y.b_, y.safe_⟩
def nms (w : List (List fileschange)) : List (List Str) := w.map fun cs => cs.map (·.name_)
def fls (w : List (List fileschange)) : List (List (Option Nat)) := w.map fun cs => cs.map (·.f_)
/-- The model of a disk. -/
def mo (d : filesDisk) : law04Model := ⟨d.now_, d.safe_, nms d.wait_, fls d.wait_, d.room_, d.left_, d.down_, d.calls_⟩
theorem mcall_eq (d : filesDisk) : go_law04_Model_call (mo d) = some (!decide (d.left_ = 0), mo (callF d)) := rfl
theorem mput_mdel {m : Fm} (hs : Srt m) (k : Str) (v : Option Nat) : mput (mdel m k) k v = mput m k v :=
  srt_ext ((hs.del _).put _ _) (hs.put _ _) (fun x => by
    rw [mem_mput (hs.del _), mem_mput hs, mem_mdel]
    constructor
    · rintro (h | ⟨⟨h, _⟩, h'⟩)
      · exact .inl h
      · exact .inr ⟨h, h'⟩
    · rintro (h | ⟨h, h'⟩)
      · exact .inl h
      · exact .inr ⟨⟨h, h'⟩, h'⟩)
theorem mset_eq {m : Fm} (hs : Srt m) (c : fileschange) : go_law04_set m c.name_ c.f_ = some (putF m c) := by
  unfold go_law04_set putF
  split
  · rfl
  · rw [mput_mdel hs]
theorem putF_srt {m : Fm} (hs : Srt m) (c : fileschange) : Srt (putF m c) := by
  unfold putF
  split
  · exact hs.del _
  · exact hs.put _ _
theorem mused_b (ar : Ar) : go_law04_Model_used.b1 (ar.map cv) = go_files_Disk_Used.b1 ar := by
  funext a x nx
  unfold go_law04_Model_used.b1 go_files_Disk_Used.b1
  cases a.2 with
  | none => rfl
  | some i =>
    simp only [Option.bind_some]
    rw [List.getElem?_map]
    cases ar[i]? <;> rfl
theorem mused_eq (d : filesDisk) (ar : Ar) : go_law04_Model_used (mo d) (ar.map cv) = go_files_Disk_Used d ar := by
  unfold go_law04_Model_used go_files_Disk_Used
  rw [mused_b]
  rfl
theorem mch_loop {K : Fm → Option law04Model} : ∀ (cs pre : List fileschange) (m : Fm), Srt m → forL (go_law04_Model_change.b1 ((pre ++ cs).map (·.f_))) K pre.length (cs.map (·.name_)) m = K (cs.foldl putF m)
  | [], _, _, _ => rfl
  | c :: cs, pre, m, hs => by
    have e : ∀ nx, go_law04_Model_change.b1 ((pre ++ c :: cs).map (·.f_)) pre.length c.name_ m nx = nx (putF m c) := by
      intro nx
      unfold go_law04_Model_change.b1
      rw [at_ok (by simp), Option.bind_some]
      have : ((pre ++ c :: cs).map (·.f_))[pre.length]'(by simp) = c.f_ := by simp
      rw [this, mset_eq hs, Option.bind_some]
    show go_law04_Model_change.b1 _ _ c.name_ m (fun s' => forL _ K (pre.length + 1) (cs.map (·.name_)) s') = _
    rw [e]
    have ih := mch_loop (K := K) cs (pre ++ [c]) (putF m c) (putF_srt hs c)
    rw [List.append_assoc, List.length_append] at ih
    exact ih
theorem mchange_eq {d : filesDisk} (cs : List fileschange) (hs : Srt d.now_) (hw : d.wait_.length ≤ 1000000000) : go_law04_Model_change (mo d) (cs.map (·.name_)) (cs.map (·.f_)) = some (mo (setF d cs)) := by
  unfold go_law04_Model_change
  have h := fun K => mch_loop (K := K) cs [] d.now_ hs
  simp only [List.nil_append, List.length_nil] at h
  show forL _ _ 0 _ d.now_ = _
  rw [h]
  have h1 : apB 24 (mo d).wait_ [cs.map (·.name_)] = some ((mo d).wait_ ++ [cs.map (·.name_)]) := apB_ok (by simp [mo, nms]; omega)
  have h2 : apB 24 (mo d).files_ [cs.map (·.f_)] = some ((mo d).files_ ++ [cs.map (·.f_)]) := apB_ok (by simp [mo, fls]; omega)
  simp only [h1, h2, Option.bind_some]
  unfold go_law04_Model_change.j1 mo setF nms fls
  simp
theorem mcopy_loop {K : Fm → Option (Fm × Fm)} : ∀ (n : Nat) (m t full : Fm), m.length = n → Srt m → Srt t → (∀ x ∈ t, ∀ y ∈ m, x.1 ≠ y.1) → Srt full → (∀ x, x ∈ full ↔ x ∈ m ∨ x ∈ t) → forN go_law04_copied.b1 K n m t = K full
  | 0, m, t, full, hl, hm, ht, hd, hf, he => by
    have h0 : m = [] := List.eq_nil_of_length_eq_zero hl
    subst h0
    show K t = K full
    rw [srt_ext ht hf (fun x => by rw [he x]; simp)]
  | n + 1, m, t, full, hl, hm, ht, hd, hf, he => by
    have hne : m ≠ [] := by intro h; rw [h] at hl; simp at hl
    refine forN_eq hne (fun a ha => ?_)
    have hl2 := mdel_len hm ha
    show forN go_law04_copied.b1 K n (mdel m a.1) (mput t a.1 a.2) = K full
    refine mcopy_loop n (mdel m a.1) (mput t a.1 a.2) full (by omega) (hm.del _) (ht.put _ _) ?_ hf ?_
    · intro x hx y hy
      have hy' := mem_mdel.1 hy
      rcases (mem_mput ht).1 hx with rfl | ⟨hx', _⟩
      · exact fun h => hy'.2 h.symm
      · exact hd x hx' y hy'.1
    · intro x
      rw [he x, mem_mdel, mem_mput ht]
      constructor
      · rintro (hx | hx)
        · by_cases hk : x.1 = a.1
          · exact .inr (.inl (hm.inj hx ha hk))
          · exact .inl ⟨hx, hk⟩
        · exact .inr (.inr ⟨hx, hd x hx a ha⟩)
      · rintro (⟨hx, _⟩ | rfl | ⟨hx, _⟩)
        · exact .inl hx
        · exact .inl ha
        · exact .inr hx
theorem mcopied_eq {m : Fm} (h : Srt m) : go_law04_copied m = some (m, m) := by
  unfold go_law04_copied
  exact mcopy_loop _ m [] m rfl h Srt.nil (fun x hx => by cases hx) h (fun x => by simp)
/-! ### The deeds -/
/-- Names are of six. -/
def six : List Str := [[102, 97], [102, 98], [102, 99], [102, 100], [102, 101], [102, 102]]
theorem name_six (n : UInt8) : ∃ s ∈ six, go_law04_name n = some s := by
  have h : ∃ s ∈ six, go_law04_name n = some s := by
    revert n
    refine each8 ?_
    decide +kernel
  exact h
def Keys (m : Fm) : Prop := ∀ e ∈ m, e.1 ∈ six
theorem nodup_le {α : Type} [DecidableEq α] : ∀ {l L : List α}, l.Nodup → (∀ x ∈ l, x ∈ L) → l.length ≤ L.length
  | [], L, _, _ => by simp
  | x :: l, L, hn, hs => by
    have h1 := List.nodup_cons.1 hn
    have h2 := hs x (List.mem_cons_self ..)
    have ih := nodup_le (l := l) (L := L.erase x) h1.2 (fun y hy => by
      have hy' := hs y (List.mem_cons_of_mem _ hy)
      exact (List.mem_erase_of_ne (fun he => h1.1 (by rw [← he]; exact hy))).2 hy')
    rw [List.length_erase_of_mem h2] at ih
    have : 0 < L.length := List.length_pos_of_mem h2
    rw [List.length_cons]
    omega
theorem keys_len {m : Fm} (hs : Srt m) (hk : Keys m) : m.length ≤ 6 := by
  have h := nodup_le (l := m.map Prod.fst) (L := six) (by
    unfold List.Nodup
    rw [List.pairwise_map]
    exact hs.imp (fun {a b} h he => by rw [he, lt_irr] at h; cases h)) (fun x hx => by
      obtain ⟨e, he, rfl⟩ := List.mem_map.1 hx
      exact hk e he)
  rw [List.length_map] at h
  exact h
theorem Keys.putF {m : Fm} (h : Keys m) (hs : Srt m) {c : fileschange} (hc : c.name_ ∈ six) : Keys (putF m c) := fun e he => by
  unfold Fi.putF at he
  split at he
  · exact h e (mem_mdel.1 he).1
  · rcases (mem_mput hs).1 he with rfl | ⟨he, _⟩
    · exact hc
    · exact h e he
end Go.Proofs.Ytbonfgnmipmmbaa.Fi
