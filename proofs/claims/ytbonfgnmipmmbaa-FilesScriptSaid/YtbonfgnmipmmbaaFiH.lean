/- The law's own model of a disk: each deed, and the restart. -/
import Derived.Test.YtbonfgnmipmmbaaFiG
namespace Go.Proofs.Ytbonfgnmipmmbaa.Fi
open Go Go.Proofs Go.Proofs.Ytbonfgnmipmmbaa.Sx Go.Proofs.Ytbonfgnmipmmbaa.F1 Go.Proofs.Ytbonfgnmipmmbaa.F2 Go.Proofs.Ytbonfgnmipmmbaa.F3 Go.Proofs.Ytbonfgnmipmmbaa.F4 Go.Proofs.Ytbonfgnmipmmbaa.F5 Go.Proofs.Ytbonfgnmipmmbaa.F7
set_option linter.unusedVariables false
set_option linter.unusedSimpArgs false
theorem ops (o : UInt8) : (o % 12 = 0 ∨ o % 12 = 1) ∨ (o % 12 = 2 ∨ o % 12 = 7 ∨ o % 12 = 8) ∨ o % 12 = 3 ∨ (o % 12 = 4 ∨ o % 12 = 9) ∨ o % 12 = 5 ∨ o % 12 = 6 ∨ (o % 12 = 10 ∨ o % 12 = 11) := by
  revert o
  refine each8 ?_
  decide +kernel
/-- What a disk's deed tells, in words of the model. -/
def toM (r : Option (Int × filesDisk × List filesfile)) : Option (Int × law04Model × List law04file) := r.bind fun y => some (y.1, mo y.2.1, y.2.2.map cv)
theorem mo_now (d : filesDisk) : (mo d).now_ = d.now_ := rfl
theorem mo_down (d : filesDisk) : (mo d).down_ = d.down_ := rfl
theorem mo_room (d : filesDisk) : (mo d).room_ = d.room_ := rfl
section
variable {d : filesDisk} {ar : Ar} {B : Nat} (a : law04Act) (l : List UInt8)
theorem m_create (ho : a.Op % 12 = 0 ∨ a.Op % 12 = 1) (h : Okd d ar B) (hB : B ≤ 900000) (hk : Keys d.now_) : go_law04_Model_do (mo d) a l (ar.map cv) = toM (go_law04_Do d a l ar) := by
  obtain ⟨s, h6, hs⟩ := name_six a.Name
  have e1 : go_law04_Do d a l ar = (go_files_Disk_Create d s ar).bind fun y => some (y.1, y.2.1, y.2.2) := by
    unfold go_law04_Do go_law04_Do.j1
    rw [hs, Option.bind_some]
    rcases ho with ho | ho <;> simp [ho]
  have e2 : go_law04_Model_do (mo d) a l (ar.map cv) = if d.down_ = true then some (7, mo d, ar.map cv) else if (mget d.now_ s).getD none = none then (if d.left_ = 0 then some (7, mo (callF d), ar.map cv) else (go_law04_Model_change (mo (callF d)) [s] [some (ar.map cv).length]).bind fun y => some (0, y, ar.map cv ++ [⟨[], 0⟩])) else some (5, mo d, ar.map cv) := by
    unfold go_law04_Model_do go_law04_Model_do.j1 go_law04_Model_do.j2 go_law04_Model_do.j3 go_law04_Model_do.j5 go_law04_Model_do.j6 go_law04_Model_do.j7
    rw [hs, Option.bind_some, mcall_eq]
    rcases ho with ho | ho <;> simp [ho, mo_now, mo_down] <;> split <;> simp [*] <;> split <;> simp [*]
  rw [e1, e2, create_eq s (by have := h.w2; omega)]
  have hw := h.w2
  have h3 : ¬ 64 ≤ (d.now_.length : Int) := by have := keys_len h.n1 hk; omega
  by_cases h1 : d.down_ = true
  · simp [h1, toM]
  by_cases h2 : (mget d.now_ s).isSome = true
  · obtain ⟨i, hi, hg⟩ := look h.v1 h.n1 h2
    simp [h1, hg, toM]
  · have hg : mget d.now_ s = none := by simpa using h2
    by_cases h4 : d.left_ = 0
    · simp [h1, hg, h3, h4, toM]
    · have hc := mchange_eq (d := callF d) [⟨s, some ar.length⟩] h.n1 (by show d.wait_.length ≤ _; omega)
      simp only [List.map_cons, List.map_nil] at hc
      simp [h1, hg, h3, h4, toM, hc, cv]
theorem m_append (ho : a.Op % 12 = 2 ∨ a.Op % 12 = 7 ∨ a.Op % 12 = 8) (hl : l.length ≤ 40) (h : Okd d ar B) (hB : B ≤ 900000) : go_law04_Model_do (mo d) a l (ar.map cv) = toM (go_law04_Do d a l ar) := by
  obtain ⟨s, h6, hs⟩ := name_six a.Name
  have e1 : go_law04_Do d a l ar = (go_files_Disk_Append d s l ar).bind fun y => some (y.1, y.2.1, y.2.2) := by
    unfold go_law04_Do go_law04_Do.j1 go_law04_Do.j2 go_law04_Do.j3
    rw [hs, Option.bind_some]
    rcases ho with ho | ho | ho <;> simp [ho]
  have e2 : go_law04_Model_do (mo d) a l (ar.map cv) = if d.down_ = true then some (7, mo d, ar.map cv) else if (mget d.now_ s).getD none = none then some (6, mo d, ar.map cv) else (go_law04_Model_used (mo d) (ar.map cv)).bind fun y => if d.room_ < wr (y + (l.length : Int)) then some (4, mo d, ar.map cv) else ((mget d.now_ s).getD none).bind fun i => ((ar.map cv)[i]?).bind fun y => (catI y.b_ l).bind fun s => (some ((ar.map cv).set i ⟨s, y.safe_⟩)).bind fun A => if d.left_ = 0 then some (7, mo (callF d), A) else some (0, mo (callF d), A) := by
    unfold go_law04_Model_do go_law04_Model_do.j1 go_law04_Model_do.j2 go_law04_Model_do.j4 go_law04_Model_do.j3 go_law04_Model_do.j5 go_law04_Model_do.j6 go_law04_Model_do.j7 go_law04_Model_do.j8 go_law04_Model_do.j9
    rw [hs, Option.bind_some, mcall_eq]
    rcases ho with ho | ho | ho <;> simp [ho, mo_now, mo_down, mo_room] <;> split <;> simp [*] <;> split <;> simp [*]
  rw [e1, e2, append_eq s l h.n1 h.v1 (fun y hy => by have := h.fi y hy; omega), mused_eq, used_eq h.n1 h.v1]
  by_cases h1 : d.down_ = true
  · simp [h1, toM]
  by_cases h2 : (mget d.now_ s).isSome = true
  · obtain ⟨i, hi, hg⟩ := look h.v1 h.n1 h2
    have hf := h.fi ar[i] (List.getElem_mem _)
    have hc : catI ar[i].b_ l = some (ar[i].b_ ++ l) := by
      unfold catI
      rw [if_pos (by omega)]
    by_cases h3 : d.room_ < wr (wr (sumL ar d.now_) + (l.length : Int))
    · simp [h1, hg, h3, toM]
    by_cases h4 : d.left_ = 0
    · simp [h1, hg, h3, h4, toM, hi, List.getElem?_eq_getElem, cv, hc, List.map_set]
    · simp [h1, hg, h3, h4, toM, hi, List.getElem?_eq_getElem, cv, hc, List.map_set]
  · have hg : mget d.now_ s = none := by simpa using h2
    simp [h1, hg, toM]
theorem m_cut (ho : a.Op % 12 = 3) (h : Okd d ar B) : go_law04_Model_do (mo d) a l (ar.map cv) = toM (go_law04_Do d a l ar) := by
  obtain ⟨s, h6, hs⟩ := name_six a.Name
  have e1 : go_law04_Do d a l ar = (go_files_Disk_Cut d s a.N.toInt ar).bind fun y => some (y.1, y.2.1, y.2.2) := by
    unfold go_law04_Do go_law04_Do.j1
    rw [hs, Option.bind_some]
    simp [ho]
  have e2 : go_law04_Model_do (mo d) a l (ar.map cv) = if d.down_ = true then some (7, mo d, ar.map cv) else if (mget d.now_ s).getD none = none then some (6, mo d, ar.map cv) else if a.N.toInt < 0 then some (14, mo d, ar.map cv) else ((mget d.now_ s).getD none).bind fun i => ((ar.map cv)[i]?).bind fun y => if (y.b_.length : Int) < a.N.toInt then some (14, mo d, ar.map cv) else if d.left_ = 0 then some (7, mo (callF d), ar.map cv) else (cutI y.b_ 0 a.N.toInt).bind fun s => some (0, mo (callF d), (ar.map cv).set i ⟨s, min y.safe_ a.N.toInt⟩) := by
    unfold go_law04_Model_do go_law04_Model_do.j1 go_law04_Model_do.j2 go_law04_Model_do.j4 go_law04_Model_do.j3 go_law04_Model_do.j5 go_law04_Model_do.j6 go_law04_Model_do.j7
    rw [hs, Option.bind_some, mcall_eq]
    simp [ho, mo_now, mo_down, mo_room]
    cases hg : (mget d.now_ s).getD none with
    | none => simp
    | some i =>
      simp
      cases hy : ar[i]? with
      | none => simp
      | some y => simp [cv]
  rw [e1, e2, cutd_eq s _ h.n1 h.v1]
  by_cases h1 : d.down_ = true
  · simp [h1, toM]
  by_cases h2 : (mget d.now_ s).isSome = true
  · obtain ⟨i, hi, hg⟩ := look h.v1 h.n1 h2
    by_cases h3 : a.N.toInt < 0
    · simp [h1, hg, h3, toM, hi, List.getElem?_eq_getElem]
    by_cases h5 : (ar[i].b_.length : Int) < a.N.toInt
    · simp [h1, hg, h3, h5, toM, hi, List.getElem?_eq_getElem, cv]
    by_cases h4 : d.left_ = 0
    · simp [h1, hg, h3, h4, h5, toM, hi, List.getElem?_eq_getElem, cv]
    · have hc : cutI ar[i].b_ 0 a.N.toInt = some (ar[i].b_.take a.N.toInt.toNat) := cut0 (by omega) (by omega)
      simp [h1, hg, h3, h4, h5, toM, hi, List.getElem?_eq_getElem, cv, hc, List.map_set]
  · have hg : mget d.now_ s = none := by simpa using h2
    simp [h1, hg, toM]
theorem m_sync (ho : a.Op % 12 = 4 ∨ a.Op % 12 = 9) (h : Okd d ar B) : go_law04_Model_do (mo d) a l (ar.map cv) = toM (go_law04_Do d a l ar) := by
  obtain ⟨s, h6, hs⟩ := name_six a.Name
  have e1 : go_law04_Do d a l ar = (go_files_Disk_Sync d s ar).bind fun y => some (y.1, y.2.1, y.2.2) := by
    unfold go_law04_Do go_law04_Do.j1 go_law04_Do.j2
    rw [hs, Option.bind_some]
    rcases ho with ho | ho <;> simp [ho]
  have e2 : go_law04_Model_do (mo d) a l (ar.map cv) = if d.down_ = true then some (7, mo d, ar.map cv) else if (mget d.now_ s).getD none = none then some (6, mo d, ar.map cv) else if d.left_ = 0 then some (7, mo (callF d), ar.map cv) else ((mget d.now_ s).getD none).bind fun i => ((ar.map cv)[i]?).bind fun y => some (0, mo (callF d), (ar.map cv).set i ⟨y.b_, (y.b_.length : Int)⟩) := by
    unfold go_law04_Model_do go_law04_Model_do.j1 go_law04_Model_do.j2 go_law04_Model_do.j4 go_law04_Model_do.j3 go_law04_Model_do.j5 go_law04_Model_do.j6 go_law04_Model_do.j7 go_law04_Model_do.j8
    rw [hs, Option.bind_some, mcall_eq]
    rcases ho with ho | ho <;> simp [ho, mo_now, mo_down, mo_room] <;> split <;> simp [*] <;> split <;> simp [*]
  rw [e1, e2, sync_eq s h.n1 h.v1]
  by_cases h1 : d.down_ = true
  · simp [h1, toM]
  by_cases h2 : (mget d.now_ s).isSome = true
  · obtain ⟨i, hi, hg⟩ := look h.v1 h.n1 h2
    by_cases h4 : d.left_ = 0
    · simp [h1, hg, h4, toM]
    · simp [h1, hg, h4, toM, hi, List.getElem?_eq_getElem, cv, List.map_set]
  · have hg : mget d.now_ s = none := by simpa using h2
    simp [h1, hg, toM]
theorem m_syncDir (ho : a.Op % 12 = 5) (h : Okd d ar B) : go_law04_Model_do (mo d) a l (ar.map cv) = toM (go_law04_Do d a l ar) := by
  obtain ⟨s, h6, hs⟩ := name_six a.Name
  have e1 : go_law04_Do d a l ar = (go_files_Disk_SyncDir d).bind fun y => some (y.1, y.2, ar) := by
    unfold go_law04_Do go_law04_Do.j1 go_law04_Do.j2
    rw [hs, Option.bind_some]
    simp [ho]
  have e2 : go_law04_Model_do (mo d) a l (ar.map cv) = if d.down_ = true then some (7, mo d, ar.map cv) else if d.left_ = 0 then some (7, mo (callF d), ar.map cv) else (go_law04_copied d.now_).bind fun y => some (0, ⟨y.2, y.1, [], [], d.room_, (callF d).left_, (callF d).down_, (callF d).calls_⟩, ar.map cv) := by
    unfold go_law04_Model_do go_law04_Model_do.j1 go_law04_Model_do.j2 go_law04_Model_do.j4 go_law04_Model_do.j3 go_law04_Model_do.j5 go_law04_Model_do.j6 go_law04_Model_do.j7 go_law04_Model_do.j8
    rw [hs, Option.bind_some, mcall_eq]
    simp [ho, mo_now, mo_down, mo_room]
    by_cases h1 : d.down_ = true
    · simp [h1]
    by_cases h4 : d.left_ = 0
    · simp [h1, h4]
    · simp [h1, h4]
      rfl
  rw [e1, e2, syncDir_eq, mcopied_eq h.n1]
  by_cases h1 : d.down_ = true
  · simp [h1, toM]
  by_cases h4 : d.left_ = 0
  · simp [h1, h4, toM]
  · simp [h1, h4, toM, mo, nms, fls]
theorem m_remove (ho : a.Op % 12 = 10 ∨ a.Op % 12 = 11) (h : Okd d ar B) (hB : B ≤ 900000) : go_law04_Model_do (mo d) a l (ar.map cv) = toM (go_law04_Do d a l ar) := by
  obtain ⟨s, h6, hs⟩ := name_six a.Name
  have hw := h.w2
  have e1 : go_law04_Do d a l ar = (go_files_Disk_Remove d s).bind fun y => some (y.1, y.2, ar) := by
    unfold go_law04_Do go_law04_Do.j1 go_law04_Do.j2 go_law04_Do.j3
    rw [hs, Option.bind_some]
    rcases ho with ho | ho <;> simp [ho]
  have e2 : go_law04_Model_do (mo d) a l (ar.map cv) = if d.down_ = true then some (7, mo d, ar.map cv) else if (mget d.now_ s).getD none = none then some (6, mo d, ar.map cv) else if d.left_ = 0 then some (7, mo (callF d), ar.map cv) else (go_law04_Model_change (mo (callF d)) [s] [none]).bind fun y => some (0, y, ar.map cv) := by
    unfold go_law04_Model_do go_law04_Model_do.j1 go_law04_Model_do.j2 go_law04_Model_do.j4 go_law04_Model_do.j3 go_law04_Model_do.j5 go_law04_Model_do.j6 go_law04_Model_do.j7 go_law04_Model_do.j8 go_law04_Model_do.j9
    rw [hs, Option.bind_some, mcall_eq]
    rcases ho with ho | ho <;> simp [ho, mo_now, mo_down, mo_room] <;> split <;> simp [*] <;> split <;> simp [*]
  rw [e1, e2, remove_eq s (by omega)]
  by_cases h1 : d.down_ = true
  · simp [h1, toM]
  by_cases h2 : (mget d.now_ s).isSome = true
  · obtain ⟨i, hi, hg⟩ := look h.v1 h.n1 h2
    by_cases h4 : d.left_ = 0
    · simp [h1, hg, h4, toM]
    · have hc := mchange_eq (d := callF d) [⟨s, none⟩] h.n1 (by show d.wait_.length ≤ _; omega)
      simp only [List.map_cons, List.map_nil] at hc
      simp [h1, hg, h4, toM, hc]
  · have hg : mget d.now_ s = none := by simpa using h2
    simp [h1, hg, toM]
theorem m_rename (ho : a.Op % 12 = 6) (h : Okd d ar B) (hB : B ≤ 900000) : go_law04_Model_do (mo d) a l (ar.map cv) = toM (go_law04_Do d a l ar) := by
  obtain ⟨s, h6, hs⟩ := name_six a.Name
  obtain ⟨q, h6q, hq⟩ := name_six a.To
  have hw := h.w2
  have e1 : go_law04_Do d a l ar = (go_files_Disk_Rename d s q).bind fun y => some (y.1, y.2, ar) := by
    unfold go_law04_Do go_law04_Do.j1 go_law04_Do.j2
    rw [hs, Option.bind_some]
    simp [ho, hq]
  have e2 : go_law04_Model_do (mo d) a l (ar.map cv) = if d.down_ = true then some (7, mo d, ar.map cv) else if (mget d.now_ s).getD none = none then some (6, mo d, ar.map cv) else if s = q then some (14, mo d, ar.map cv) else if d.left_ = 0 then some (7, mo (callF d), ar.map cv) else (go_law04_Model_change (mo (callF d)) [s, q] [none, (mget d.now_ s).getD none]).bind fun y => some (0, y, ar.map cv) := by
    unfold go_law04_Model_do go_law04_Model_do.j1 go_law04_Model_do.j2 go_law04_Model_do.j4 go_law04_Model_do.j3 go_law04_Model_do.j5 go_law04_Model_do.j6 go_law04_Model_do.j7 go_law04_Model_do.j8
    rw [hs, Option.bind_some, mcall_eq]
    simp [ho, hq, mo_now, mo_down, mo_room]
  rw [e1, e2, rename_eq s q (by omega)]
  by_cases h1 : d.down_ = true
  · simp [h1, toM]
  by_cases h2 : (mget d.now_ s).isSome = true
  · obtain ⟨i, hi, hg⟩ := look h.v1 h.n1 h2
    by_cases h3 : s = q
    · subst h3
      simp [h1, hg, toM]
    by_cases h4 : d.left_ = 0
    · simp [h1, hg, h3, h4, toM]
    · have hc := mchange_eq (d := callF d) [⟨s, none⟩, ⟨q, some i⟩] h.n1 (by show d.wait_.length ≤ _; omega)
      simp only [List.map_cons, List.map_nil] at hc
      simp [h1, hg, h3, h4, toM, hc]
  · have hg : mget d.now_ s = none := by simpa using h2
    simp [h1, hg, toM]
theorem mdo_eq (hl : l.length ≤ 40) (h : Okd d ar B) (hB : B ≤ 900000) (hk : Keys d.now_) : go_law04_Model_do (mo d) a l (ar.map cv) = toM (go_law04_Do d a l ar) := by
  rcases ops a.Op with ho | ho | ho | ho | ho | ho | ho
  · exact m_create a l ho h hB hk
  · exact m_append a l ho hl h hB
  · exact m_cut a l ho h
  · exact m_sync a l ho h
  · exact m_syncDir a l ho h
  · exact m_rename a l ho h hB
  · exact m_remove a l ho h hB
end
/-! ### The restart -/
theorem restA_step {n : Int} {m : Fm} {ar : Ar} {a : Str × Option Nat} {i : Nat} (hs : Srt m) (ha : a ∈ m) (h1 : a.2 = some i) (h2 : i < ar.length) (hf : Fine ar[i]) : restA n (mdel m a.1) (ar.set i (cutY n ar[i])) = restA n m ar := by
  unfold restA
  apply List.ext_getElem
  · simp
  · intro j hj1 hj2
    simp only [List.length_mapIdx, List.length_set] at hj1 hj2
    simp only [List.getElem_mapIdx, List.getElem_set]
    by_cases hij : i = j
    · subst hij
      have hh : hit m i = true := by
        unfold hit
        rw [List.any_eq_true]
        exact ⟨a, ha, by simp [h1]⟩
      rw [if_pos rfl, hh, if_pos rfl]
      split
      · exact cutY_twice hf
      · rfl
    · rw [if_neg hij]
      have hh : hit (mdel m a.1) j = hit m j := by
        unfold hit
        rw [Bool.eq_iff_iff, List.any_eq_true, List.any_eq_true]
        constructor
        · rintro ⟨e, he, h⟩; exact ⟨e, (mem_mdel.1 he).1, h⟩
        · rintro ⟨e, he, h⟩
          refine ⟨e, mem_mdel.2 ⟨he, fun hk => ?_⟩, h⟩
          have := hs.inj he ha hk
          subst this
          simp only [decide_eq_true_eq] at h
          rw [h1] at h
          exact hij (Option.some.inj h)
      rw [hh]
theorem mre_done {n : Int} {K : List law04file → Option (law04Model × List law04file)} : ∀ (c : Nat) (m : Fm) (D : List Nat) (ar : Ar), m.length = c → Srt m → Ve ar m → (∀ y ∈ ar, Fine y) → (∀ i ∈ D, ∀ h : i < ar.length, cutY n ar[i] = ar[i]) → forN (go_law04_Model_restart.b3 n) (fun s => K s.2) c m (D, ar.map cv) = K ((restA n m ar).map cv)
  | 0, m, D, ar, hl, hs, hv, hf, hD => by
    have h0 : m = [] := List.eq_nil_of_length_eq_zero hl
    subst h0
    show K (ar.map cv) = _
    have : restA n [] ar = ar := by
      unfold restA hit
      apply List.ext_getElem <;> simp
    rw [this]
  | c + 1, m, D, ar, hl, hs, hv, hf, hD => by
    have hne : m ≠ [] := by intro h; rw [h] at hl; simp at hl
    refine forN_eq hne (fun a ha => ?_)
    have hl2 := mdel_len hs ha
    obtain ⟨i, h1, h2⟩ := hv a ha
    have hfi := hf ar[i] (List.getElem_mem _)
    obtain ⟨f1, f2, f3⟩ := hfi
    by_cases hi : i ∈ D
    · have hstep : ∀ nx, go_law04_Model_restart.b3 n a (D, ar.map cv) nx = nx (D, ar.map cv) := by
        intro nx
        unfold go_law04_Model_restart.b3
        simp only []
        rw [h1, Option.bind_some, if_pos hi]
      rw [hstep, mre_done (K := K) c (mdel m a.1) D ar (by omega) (hs.del _) (hv.del _) hf hD]
      have h3 := restA_step (n := n) hs ha h1 h2 ⟨f1, f2, f3⟩
      rw [hD i hi h2, List.set_getElem_self] at h3
      rw [h3]
    · have hstep : ∀ nx, go_law04_Model_restart.b3 n a (D, ar.map cv) nx = nx (i :: D, (ar.set i (cutY n ar[i])).map cv) := by
        intro nx
        unfold go_law04_Model_restart.b3
        simp only []
        have hg : (ar.map cv)[i]? = some (cv ar[i]) := by rw [List.getElem?_map, List.getElem?_eq_getElem h2]; rfl
        rw [h1, Option.bind_some, if_neg hi, Option.bind_some, hg, Option.bind_some]
        unfold cv
        simp only []
        rw [wr_in (by omega) (by omega), cut0 (by omega) (by omega)]
        simp only [Option.bind_some]
        rw [List.getElem?_eq_getElem (by simpa using h2)]
        simp only [Option.bind_some, List.getElem_set_self, List.set_set]
        rw [List.map_set]
        unfold cutY
        congr 3
        simp only [law04file.mk.injEq, true_and, List.length_take]
        omega
      rw [hstep, mre_done (K := K) c (mdel m a.1) (i :: D) (ar.set i (cutY n ar[i])) (by omega) (hs.del _) (fun e he => by rw [List.length_set]; exact hv.del _ e he) (fun y hy => by
        rcases List.mem_or_eq_of_mem_set hy with hy | rfl
        · exact hf y hy
        · exact cutY_fine ⟨f1, f2, f3⟩) (fun j hj h => by
        rw [List.length_set] at h
        rw [List.getElem_set]
        split
        · exact cutY_twice ⟨f1, f2, f3⟩
        · rename_i hne
          rcases List.mem_cons.1 hj with rfl | hj
          · exact absurd rfl hne
          · exact hD j hj h)]
      rw [restA_step hs ha h1 h2 ⟨f1, f2, f3⟩]
theorem mre_in {d : filesDisk} {K : Fm → Option (law04Model × List law04file)} {j : Nat} (hj : j < d.wait_.length) : ∀ (cs pre : List fileschange) (m : Fm), Srt m → d.wait_[j] = pre ++ cs → forL (go_law04_Model_restart.b2 (mo d) (j : Int)) K pre.length (cs.map (·.name_)) m = K (cs.foldl putF m)
  | [], _, _, _, _ => rfl
  | c :: cs, pre, m, hs, he => by
    have e : ∀ nx, go_law04_Model_restart.b2 (mo d) (j : Int) pre.length c.name_ m nx = nx (putF m c) := by
      intro nx
      unfold go_law04_Model_restart.b2
      have h1 : atI (mo d).files_ (j : Int) = some ((pre ++ c :: cs).map (·.f_)) := by
        unfold mo fls
        simp only []
        rw [at_ok (by simpa using hj)]
        simp [he]
      rw [h1, Option.bind_some, at_ok (by simp), Option.bind_some]
      have : ((pre ++ c :: cs).map (·.f_))[pre.length]'(by simp) = c.f_ := by simp
      rw [this, mset_eq hs, Option.bind_some]
    show go_law04_Model_restart.b2 _ _ _ c.name_ m (fun s' => forL _ K (pre.length + 1) (cs.map (·.name_)) s') = _
    rw [e]
    have ih := mre_in (K := K) hj cs (pre ++ [c]) (putF m c) (putF_srt hs c) (by rw [List.append_assoc]; exact he)
    rw [List.length_append] at ih
    exact ih
theorem mre_end {d : filesDisk} {ar : Ar} {n : Int} {m : Fm} (hs : Srt m) (hv : Ve ar m) (hf : ∀ y ∈ ar, Fine y) : forN (go_law04_Model_restart.b3 n) (fun s => (go_law04_copied m).bind fun y => some ((⟨y.1, y.2, [], [], (mo d).room_, (-1), false, (mo d).calls_⟩ : law04Model), s.2)) m.length m ([], ar.map cv) = some (mo ⟨m, m, [], d.room_, -1, false, d.calls_⟩, (restA n m ar).map cv) := by
  rw [mcopied_eq hs]
  rw [mre_done (K := fun A => (some (m, m)).bind fun y => some ((⟨y.1, y.2, [], [], (mo d).room_, (-1), false, (mo d).calls_⟩ : law04Model), A)) _ m [] ar rfl hs hv hf (fun i hi => by cases hi)]
  rfl
theorem mre_loop {d : filesDisk} {ar : Ar} {B : Nat} {k n : Int} (h : Okd d ar B) (hB : B ≤ 900000) : ∀ (r j : Nat) (m : Fm) (f : Nat), j + r = (max 0 (min k (d.wait_.length : Int))).toNat → Srt m → Ve ar m → loopF (go_law04_Model_restart.b1 (mo d) k n (ar.map cv)) (f + r + 1) ((j : Int), m) = some (mo ⟨((d.wait_.drop j).take r).foldl (fun m cs => cs.foldl putF m) m, ((d.wait_.drop j).take r).foldl (fun m cs => cs.foldl putF m) m, [], d.room_, -1, false, d.calls_⟩, (restA n (((d.wait_.drop j).take r).foldl (fun m cs => cs.foldl putF m) m) ar).map cv)
  | 0, j, m, f, hj, hs, hv => by
    show go_law04_Model_restart.b1 _ _ _ _ _ _ = _
    unfold go_law04_Model_restart.b1
    simp only [List.take_zero, List.foldl_nil]
    have hl : (mo d).wait_.length = d.wait_.length := by simp [mo, nms]
    have hf := h.fine (by omega)
    have e4 : go_law04_Model_restart.b4 n = go_law04_Model_restart.b3 n := rfl
    by_cases h1 : (j : Int) < (d.wait_.length : Int)
    · rw [hl, if_pos h1, if_neg (show ¬ (j : Int) < k by omega)]
      exact mre_end hs hv hf
    · rw [hl, if_neg h1, e4]
      exact mre_end hs hv hf
  | r + 1, j, m, f, hj, hs, hv => by
    show go_law04_Model_restart.b1 _ _ _ _ _ (loopF (go_law04_Model_restart.b1 (mo d) k n (ar.map cv)) (f + r + 1)) = _
    have hw := h.w2
    have hjl : j < d.wait_.length := by omega
    have hm := fold_ok (ar := ar) (cs := d.wait_[j]) hs hv (h.w1 _ (List.getElem_mem _))
    have ih := mre_loop (k := k) (n := n) h hB r (j + 1) (d.wait_[j].foldl putF m) f (by omega) hm.1 hm.2
    generalize loopF (go_law04_Model_restart.b1 (mo d) k n (ar.map cv)) (f + r + 1) = L at ih ⊢
    unfold go_law04_Model_restart.b1
    simp only []
    have hl : (mo d).wait_.length = d.wait_.length := by simp [mo, nms]
    rw [hl, if_pos (show (j : Int) < (d.wait_.length : Int) by omega), if_pos (show (j : Int) < k by omega)]
    have h1 : atI (mo d).wait_ (j : Int) = some (d.wait_[j].map (·.name_)) := by
      unfold mo nms
      simp only []
      rw [at_ok (by simpa using hjl)]
      simp
    have h2 := mre_in (d := d) (K := fun mp => L (wr ((j : Int) + 1), mp)) hjl d.wait_[j] [] m hs rfl
    rw [h1, Option.bind_some]
    refine (h2.trans ?_)
    rw [wr_in (by omega) (by omega)]
    refine (ih.trans ?_)
    rw [List.drop_eq_getElem_cons hjl, List.take_succ_cons, List.foldl_cons]
theorem mrestart_eq {d : filesDisk} {ar : Ar} {B : Nat} (k n : Int) (h : Okd d ar B) (hB : B ≤ 900000) : go_law04_Model_restart (mo d) k n (ar.map cv) = (go_files_Disk_Restart d k n ar).bind fun y => some (mo y.1, y.2.map cv) := by
  have hk := kept_ok h k
  have hw := h.w2
  rw [restart_eq k n hk.1 hk.2 (h.fine (by omega)), Option.bind_some]
  unfold go_law04_Model_restart
  obtain ⟨f, hf⟩ : ∃ f, fuel = f + (max 0 (min k (d.wait_.length : Int))).toNat + 1 := ⟨1099511627775 - (max 0 (min k (d.wait_.length : Int))).toNat, by rw [fuel_eq]; omega⟩
  rw [hf]
  exact mre_loop h hB _ 0 d.safe_ f (by omega) h.n2 h.v2
end Go.Proofs.Ytbonfgnmipmmbaa.Fi
