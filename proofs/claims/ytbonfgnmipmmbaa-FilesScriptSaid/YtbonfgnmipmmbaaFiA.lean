/- The disk's operations, in plain words. -/
import Derived.Test.YtbonfgnmipmmbaaF4
namespace Go.Proofs.Ytbonfgnmipmmbaa.Fi
open Go Go.Proofs Go.Proofs.Ytbonfgnmipmmbaa.Sx Go.Proofs.Ytbonfgnmipmmbaa.F1 Go.Proofs.Ytbonfgnmipmmbaa.F2 Go.Proofs.Ytbonfgnmipmmbaa.F3 Go.Proofs.Ytbonfgnmipmmbaa.F4
set_option linter.unusedVariables false
set_option linter.unusedSimpArgs false
/-! ### Words of the functions -/
theorem wr_mod (x : Int) : (wr x) % 18446744073709551616 = x % 18446744073709551616 := by
  simp [wr, IntKind.wrap, IntKind.bits, IntKind.signed]
  split <;> omega
theorem wr_rng (x : Int) : -9223372036854775808 ≤ wr x ∧ wr x ≤ 9223372036854775807 := by
  simp [wr, IntKind.wrap, IntKind.bits, IntKind.signed]
  split <;> omega
theorem wr_eq {x y : Int} (h : x % 18446744073709551616 = y % 18446744073709551616) : wr x = wr y := by
  have h1 := wr_mod x
  have h2 := wr_mod y
  have h3 := wr_rng x
  have h4 := wr_rng y
  omega
theorem wr_in {x : Int} (h : -9223372036854775808 ≤ x) (h' : x ≤ 9223372036854775807) : wr x = x := by
  have h1 := wr_mod x
  have h3 := wr_rng x
  omega
theorem apB_ok {α : Type} {b : Nat} {xs ys : List α} (h : (xs.length + ys.length) * b ≤ 140737488355328) : apB b xs ys = some (xs ++ ys) := by
  unfold apB
  rw [if_pos h]
theorem cutI_ok {α : Type} {xs : List α} {i j : Nat} (h : i ≤ j) (h' : j ≤ xs.length) : cutI xs (i : Int) (j : Int) = some ((xs.take j).drop i) := by
  unfold cutI
  rw [if_pos (by omega)]
  simp
theorem cut0 {α : Type} {xs : List α} {j : Int} (h : 0 ≤ j) (h' : j ≤ xs.length) : cutI xs 0 j = some (xs.take j.toNat) := by
  unfold cutI
  rw [if_pos (by omega)]
  simp
theorem cut_min {α : Type} (xs : List α) (n : Nat) : cutI xs 0 (min (xs.length : Int) (n : Int)) = some (xs.take n) := by
  rw [cut0 (by omega) (by omega)]
  congr 1
  rcases Nat.le_total xs.length n with h | h
  · rw [List.take_of_length_le (by omega), List.take_of_length_le h]
  · congr 1; omega
theorem at_ok {α : Type} {xs : List α} {i : Nat} (h : i < xs.length) : atI xs (i : Int) = some xs[i] := by
  unfold atI
  rw [if_pos (by omega)]
  simp
theorem put_ok {α : Type} {xs : List α} {i : Nat} (x : α) (h : i < xs.length) : putI xs (i : Int) x = some (xs.set i x) := by
  unfold putI
  rw [if_pos (by omega)]
  simp
theorem forL_or {α S R : Type} {body : Nat → α → S → (S → Option R) → Option R} {k : S → Option R} (I : Nat → S → Prop) (Q : Option R → Prop) : ∀ (xs : List α) (i : Nat) (s : S), I i s →
    (∀ (j : Nat) (a : α) (s : S) (nx : S → Option R), i ≤ j → j < i + xs.length → a ∈ xs → I j s → Q (body j a s nx) ∨ ∃ s', body j a s nx = nx s' ∧ I (j + 1) s') → (∀ s, I (i + xs.length) s → Q (k s)) → Q (forL body k i xs s)
  | [], i, s, h, _, hk => hk s h
  | x :: xs, i, s, h, hb, hk => by
    show Q (body i x s (fun s' => forL body k (i + 1) xs s'))
    rcases hb i x s (fun s' => forL body k (i + 1) xs s') (Nat.le_refl _) (by simp) (List.mem_cons_self ..) h with h1 | ⟨s', h1, h2⟩
    · exact h1
    · rw [h1]
      exact forL_or I Q xs (i + 1) s' h2 (fun j a s nx hj hj' ha hs => hb j a s nx (by omega) (by simp; omega) (List.mem_cons_of_mem _ ha) hs) (fun s hs => hk s (by rw [List.length_cons, show i + (xs.length + 1) = i + 1 + xs.length by omega]; exact hs))
theorem forL_fold {α S R : Type} {K : S → Option R} {body : Nat → α → S → (S → Option R) → Option R} (f : S → α → S) (hb : ∀ i a s nx, body i a s nx = nx (f s a)) : ∀ (xs : List α) (i : Nat) (s : S), forL body K i xs s = K (xs.foldl f s)
  | [], _, _ => rfl
  | a :: xs, i, s => by unfold forL; rw [hb, forL_fold f hb xs]; rfl
theorem forN_eq {V S R : Type} {b : Str × V → S → (S → Option R) → Option R} {K : S → Option R} {n : Nat} {m : Mp V} {s : S} {o : Option R} (hne : m ≠ []) (h : ∀ a ∈ m, b a s (fun s' => forN b K n (mdel m a.1) s') = o) : forN b K (n + 1) m s = o := by
  cases o with
  | some r => exact forN_mk hne h
  | none =>
    obtain ⟨a, ha⟩ := List.exists_mem_of_ne_nil m hne
    unfold forN
    rw [dif_neg]
    rintro ⟨r, hr⟩
    have h1 := h a ha
    rw [hr a ha] at h1
    cases h1
/-! ### The disk -/
abbrev Fm := Mp (Option Nat)
abbrev Ar := List filesfile
def putF (m : Fm) (c : fileschange) : Fm := if c.f_ = none then mdel m c.name_ else mput m c.name_ c.f_
theorem put_eq (m : Fm) (c : fileschange) : go_files_put m c = some (putF m c) := by
  unfold go_files_put putF
  split <;> rfl
def callF (d : filesDisk) : filesDisk := ⟨d.now_, d.safe_, d.wait_, d.room_, max (-1) (wr (d.left_ - 1)), decide (d.left_ = 0), wr (d.calls_ + 1)⟩
theorem call_eq (d : filesDisk) : go_files_Disk_call d = some (!decide (d.left_ = 0), callF d) := rfl
def setF (d : filesDisk) (cs : List fileschange) : filesDisk := ⟨cs.foldl putF d.now_, d.safe_, d.wait_ ++ [cs], d.room_, d.left_, d.down_, d.calls_⟩
theorem set_eq {d : filesDisk} {cs : List fileschange} (h : d.wait_.length ≤ 1000000000) : go_files_Disk_set d cs = some (setF d cs) := by
  unfold go_files_Disk_set
  rw [forL_fold (body := go_files_Disk_set.b1) putF (fun i a s nx => by unfold go_files_Disk_set.b1; rw [put_eq]; rfl), apB_ok (by simp; omega)]
  rfl
/-- All names have files. -/
def Ve (ar : Ar) (m : Fm) : Prop := ∀ e ∈ m, ∃ i, e.2 = some i ∧ i < ar.length
theorem Ve.del {ar : Ar} {m : Fm} (h : Ve ar m) (s : Str) : Ve ar (mdel m s) := fun e he => h e (mem_mdel.1 he).1
theorem Ve.put {ar : Ar} {m : Fm} (h : Ve ar m) (hs : Srt m) {s : Str} {i : Nat} (hi : i < ar.length) : Ve ar (mput m s (some i)) := fun e he => by
  rcases (mem_mput hs).1 he with rfl | ⟨he, _⟩
  · exact ⟨i, rfl, hi⟩
  · exact h e he
theorem Ve.more {ar ar' : Ar} {m : Fm} (h : Ve ar m) (hl : ar.length ≤ ar'.length) : Ve ar' m := fun e he => by
  obtain ⟨i, h1, h2⟩ := h e he
  exact ⟨i, h1, by omega⟩
theorem look {ar : Ar} {m : Fm} (h : Ve ar m) (hs : Srt m) {s : Str} (hg : (mget m s).isSome = true) : ∃ (i : Nat) (hi : i < ar.length), mget m s = some (some i) := by
  obtain ⟨v, hv⟩ := Option.isSome_iff_exists.1 hg
  obtain ⟨i, h1, h2⟩ := h _ ((mget_some hs).1 hv)
  simp only at h1
  exact ⟨i, h2, by rw [hv, h1]⟩
/-- How many bytes a name's file has. -/
def lenE (ar : Ar) (v : Option Nat) : Int := match v.bind (ar[·]?) with
  | some y => (y.b_.length : Int)
  | none => 0
def sumL (ar : Ar) (m : Fm) : Int := (m.map fun e => lenE ar e.2).sum
theorem sum_del {ar : Ar} : ∀ {m : Fm}, Srt m → ∀ {a : Str × Option Nat}, a ∈ m → sumL ar m = lenE ar a.2 + sumL ar (mdel m a.1)
  | [], _, a, ha => by cases ha
  | c :: m, hs, a, ha => by
    have h1 := List.pairwise_cons.1 hs
    by_cases hc : c.1 = a.1
    · have hca : c = a := hs.inj (List.mem_cons_self ..) ha hc
      subst hca
      have hf : mdel (c :: m) c.1 = m := by
        unfold mdel
        rw [List.filter_cons, if_neg (by simp), List.filter_eq_self]
        intro y hy
        have hl := h1.1 y hy
        have : y.1 ≠ c.1 := fun he => by rw [he, lt_irr] at hl; cases hl
        simp [this]
      rw [hf]
      simp [sumL]
    · rcases List.mem_cons.1 ha with rfl | ha
      · exact absurd rfl hc
      · have ih := sum_del (ar := ar) h1.2 ha
        have hf : mdel (c :: m) a.1 = c :: mdel m a.1 := by
          unfold mdel
          rw [List.filter_cons, if_pos (by simp [hc])]
        rw [hf]
        simp only [sumL, List.map_cons, List.sum_cons] at ih ⊢
        omega
theorem used_loop {ar : Ar} {K : Int → Option Int} : ∀ (n : Nat) (m : Fm) (x : Int), m.length = n → Srt m → Ve ar m → wr x = x → forN (go_files_Disk_Used.b1 ar) K n m x = K (wr (x + sumL ar m))
  | 0, m, x, hl, hs, hv, hx => by
    have h0 : m = [] := List.eq_nil_of_length_eq_zero hl
    subst h0
    show K x = _
    simp [sumL, hx]
  | n + 1, m, x, hl, hs, hv, hx => by
    have hne : m ≠ [] := by intro h; rw [h] at hl; simp at hl
    refine forN_eq hne (fun a ha => ?_)
    have hl2 := mdel_len hs ha
    obtain ⟨i, h1, h2⟩ := hv a ha
    unfold go_files_Disk_Used.b1
    simp only []
    rw [h1, Option.bind_some, List.getElem?_eq_getElem h2, Option.bind_some]
    have ih := used_loop (K := K) n (mdel m a.1) (wr (x + (ar[i].b_.length : Int))) (by omega) (hs.del _) (hv.del _) (wr_eq (wr_mod _))
    unfold go_files_Disk_Used.b1 at ih
    rw [ih]
    congr 1
    apply wr_eq
    have h3 := wr_mod (x + (ar[i].b_.length : Int))
    have h4 := sum_del (ar := ar) hs ha
    have h5 : lenE ar a.2 = (ar[i].b_.length : Int) := by
      rw [h1]
      simp [lenE, List.getElem?_eq_getElem h2]
    omega
theorem used_eq {d : filesDisk} {ar : Ar} (hs : Srt d.now_) (hv : Ve ar d.now_) : go_files_Disk_Used d ar = some (wr (sumL ar d.now_)) := by
  unfold go_files_Disk_Used
  rw [used_loop _ _ _ rfl hs hv rfl, Int.zero_add]
/-! ### The operations -/
theorem clone_eq {l : List UInt8} (h : l.length ≤ 1000000000) : go_slices_Clone_byte_byte l = some (l, l) := by
  unfold go_slices_Clone_byte_byte
  rw [apB_ok (by simp; omega)]
  rfl
theorem clip_eq (l : List UInt8) : go_slices_Clip_byte_byte l = some l := by
  unfold go_slices_Clip_byte_byte cap3
  rw [cut0 (by omega) (by omega), Option.bind_some, if_pos (by omega), Option.bind_some]
  simp
theorem set_self {ar : Ar} {i : Nat} (hi : i < ar.length) : ar.set i ⟨ar[i].b_, ar[i].safe_⟩ = ar := by
  have : (⟨ar[i].b_, ar[i].safe_⟩ : filesfile) = ar[i] := rfl
  rw [this, List.set_getElem_self]
theorem create_eq {d : filesDisk} {ar : Ar} (p : Str) (hw : d.wait_.length ≤ 1000000000) : go_files_Disk_Create d p ar = some (if d.down_ = true then (7, d, ar) else if (mget d.now_ p).isSome = true then (5, d, ar) else if 64 ≤ (d.now_.length : Int) then (4, d, ar) else if d.left_ = 0 then (7, callF d, ar) else (0, setF (callF d) [⟨p, some ar.length⟩], ar ++ [⟨[], 0⟩])) := by
  unfold go_files_Disk_Create
  by_cases h1 : d.down_ = true
  · rw [if_pos h1, if_pos h1]
  rw [if_neg h1, if_neg h1]
  by_cases h2 : (mget d.now_ p).isSome = true
  · rw [if_pos h2, if_pos h2]
  rw [if_neg h2, if_neg h2]
  by_cases h3 : 64 ≤ (d.now_.length : Int)
  · rw [if_pos h3, if_pos h3]
  rw [if_neg h3, if_neg h3, call_eq, Option.bind_some]
  by_cases h4 : d.left_ = 0
  · rw [if_pos h4, if_neg (by simp [h4])]
  · rw [if_neg h4, if_pos (by simp [h4]), Option.bind_some, set_eq (by exact hw)]
    rfl
theorem append_eq {d : filesDisk} {ar : Ar} (p : Str) (l : List UInt8) (hs : Srt d.now_) (hv : Ve ar d.now_) (ha : ∀ y ∈ ar, y.b_.length + l.length ≤ 1000000000) : go_files_Disk_Append d p l ar = some (α := Int × filesDisk × List filesfile) (if d.down_ = true then (7, d, ar) else match mget d.now_ p with
    | some (some i) => if d.room_ < wr (wr (sumL ar d.now_) + (l.length : Int)) then (4, d, ar) else (if d.left_ = 0 then 7 else 0, callF d, match ar[i]? with | some y => ar.set i ⟨y.b_ ++ l, y.safe_⟩ | none => ar)
    | _ => (6, d, ar)) := by
  unfold go_files_Disk_Append
  by_cases h1 : d.down_ = true
  · rw [if_pos h1, if_pos h1]
  rw [if_neg h1, if_neg h1]
  by_cases h2 : (mget d.now_ p).isSome = true
  · obtain ⟨i, hi, hg⟩ := look hv hs h2
    rw [if_pos h2, used_eq hs hv, Option.bind_some, hg]
    simp only []
    by_cases h3 : d.room_ < wr (wr (sumL ar d.now_) + (l.length : Int))
    · rw [if_pos h3, if_pos h3]
    · rw [if_neg h3, if_neg h3, call_eq, Option.bind_some]
      simp only [Option.getD_some, Option.bind_some, List.getElem?_eq_getElem hi]
      have := ha ar[i] (List.getElem_mem _)
      rw [apB_ok (by omega), Option.bind_some]
      by_cases h4 : d.left_ = 0 <;> simp [h4]
  · rw [if_neg h2]
    have : mget d.now_ p = none := by simpa using h2
    rw [this]
theorem read_eq {d : filesDisk} {ar : Ar} (p : Str) (hs : Srt d.now_) (hv : Ve ar d.now_) (ha : ∀ y ∈ ar, y.b_.length ≤ 1000000000) : go_files_Disk_Read d p ar = some (α := List UInt8 × Int × List filesfile) (if d.down_ = true then ([], 7, ar) else match mget d.now_ p with
    | some (some i) => (match ar[i]? with | some y => y.b_ | none => [], 0, ar)
    | _ => ([], 6, ar)) := by
  unfold go_files_Disk_Read
  by_cases h1 : d.down_ = true
  · rw [if_pos h1, if_pos h1]
  rw [if_neg h1, if_neg h1]
  by_cases h2 : (mget d.now_ p).isSome = true
  · obtain ⟨i, hi, hg⟩ := look hv hs h2
    rw [if_pos h2, hg]
    simp only [Option.getD_some, Option.bind_some, List.getElem?_eq_getElem hi]
    rw [clone_eq (ha ar[i] (List.getElem_mem _)), Option.bind_some]
    simp only []
    rw [set_self hi]
  · rw [if_neg h2]
    have : mget d.now_ p = none := by simpa using h2
    rw [this]
theorem sync_eq {d : filesDisk} {ar : Ar} (p : Str) (hs : Srt d.now_) (hv : Ve ar d.now_) : go_files_Disk_Sync d p ar = some (α := Int × filesDisk × List filesfile) (if d.down_ = true then (7, d, ar) else match mget d.now_ p with
    | some (some i) => if d.left_ = 0 then (7, callF d, ar) else (0, callF d, match ar[i]? with | some y => ar.set i ⟨y.b_, (y.b_.length : Int)⟩ | none => ar)
    | _ => (6, d, ar)) := by
  unfold go_files_Disk_Sync
  by_cases h1 : d.down_ = true
  · rw [if_pos h1, if_pos h1]
  rw [if_neg h1, if_neg h1]
  by_cases h2 : (mget d.now_ p).isSome = true
  · obtain ⟨i, hi, hg⟩ := look hv hs h2
    rw [if_pos h2, hg, call_eq, Option.bind_some]
    simp only [Option.getD_some, Option.bind_some, List.getElem?_eq_getElem hi]
    by_cases h4 : d.left_ = 0 <;> simp [h4]
  · rw [if_neg h2]
    have : mget d.now_ p = none := by simpa using h2
    rw [this]
theorem syncDir_eq (d : filesDisk) : go_files_Disk_SyncDir d = some (if d.down_ = true then (7, d) else if d.left_ = 0 then (7, callF d) else (0, ⟨d.now_, d.now_, [], d.room_, (callF d).left_, (callF d).down_, (callF d).calls_⟩)) := by
  unfold go_files_Disk_SyncDir
  by_cases h1 : d.down_ = true
  · rw [if_pos h1, if_pos h1]
  rw [if_neg h1, if_neg h1, call_eq, Option.bind_some]
  by_cases h4 : d.left_ = 0
  · rw [if_pos h4, if_neg (by simp [h4])]
  · rw [if_neg h4, if_pos (by simp [h4])]
    rfl
theorem cutd_eq {d : filesDisk} {ar : Ar} (p : Str) (n : Int) (hs : Srt d.now_) (hv : Ve ar d.now_) : go_files_Disk_Cut d p n ar = some (α := Int × filesDisk × List filesfile) (if d.down_ = true then (7, d, ar) else match mget d.now_ p with
    | some (some i) => (match ar[i]? with
      | some y => if n < 0 ∨ (y.b_.length : Int) < n then (14, d, ar) else if d.left_ = 0 then (7, callF d, ar) else (0, callF d, ar.set i ⟨y.b_.take n.toNat, min y.safe_ n⟩)
      | none => (14, d, ar))
    | _ => (6, d, ar)) := by
  unfold go_files_Disk_Cut
  by_cases h1 : d.down_ = true
  · rw [if_pos h1, if_pos h1]
  rw [if_neg h1, if_neg h1]
  by_cases h2 : (mget d.now_ p).isSome = true
  · obtain ⟨i, hi, hg⟩ := look hv hs h2
    rw [if_pos h2]
    unfold go_files_Disk_Cut.j1
    rw [hg]
    simp only [Option.getD_some, Option.bind_some, List.getElem?_eq_getElem hi]
    by_cases h3 : n < 0
    · simp [h3]
    by_cases h4 : (ar[i].b_.length : Int) < n
    · simp [h3, h4]
    rw [if_neg h3, if_neg (by simpa using h4), if_neg (by omega), call_eq, Option.bind_some]
    by_cases h5 : d.left_ = 0
    · simp [h5]
    · rw [if_pos (by simp [h5]), if_neg h5, cut0 (by omega) (by omega), Option.bind_some, clip_eq, Option.bind_some]
      simp [hi]
  · rw [if_neg h2]
    have : mget d.now_ p = none := by simpa using h2
    rw [this]
theorem remove_eq {d : filesDisk} (p : Str) (hw : d.wait_.length ≤ 1000000000) : go_files_Disk_Remove d p = some (if d.down_ = true then (7, d) else if (mget d.now_ p).isSome = true then (if d.left_ = 0 then (7, callF d) else (0, setF (callF d) [⟨p, none⟩])) else (6, d)) := by
  unfold go_files_Disk_Remove
  by_cases h1 : d.down_ = true
  · rw [if_pos h1, if_pos h1]
  rw [if_neg h1, if_neg h1]
  by_cases h2 : (mget d.now_ p).isSome = true
  · rw [if_pos h2, if_pos h2, call_eq, Option.bind_some]
    by_cases h4 : d.left_ = 0
    · rw [if_pos h4, if_neg (by simp [h4])]
    · rw [if_neg h4, if_pos (by simp [h4]), set_eq (by exact hw)]
      rfl
  · rw [if_neg h2, if_neg h2]
theorem rename_eq {d : filesDisk} (p q : Str) (hw : d.wait_.length ≤ 1000000000) : go_files_Disk_Rename d p q = some (if d.down_ = true then (7, d) else if (mget d.now_ p).isSome = true then (if p = q then (14, d) else if d.left_ = 0 then (7, callF d) else (0, setF (callF d) [⟨p, none⟩, ⟨q, (mget d.now_ p).getD none⟩])) else (6, d)) := by
  unfold go_files_Disk_Rename
  by_cases h1 : d.down_ = true
  · rw [if_pos h1, if_pos h1]
  rw [if_neg h1, if_neg h1]
  by_cases h2 : (mget d.now_ p).isSome = true
  · rw [if_pos h2, if_pos h2]
    by_cases h3 : p = q
    · rw [if_pos h3, if_pos h3]
    rw [if_neg h3, if_neg h3, call_eq, Option.bind_some]
    by_cases h4 : d.left_ = 0
    · rw [if_pos h4, if_neg (by simp [h4])]
    · rw [if_neg h4, if_pos (by simp [h4]), set_eq (by exact hw)]
      rfl
  · rw [if_neg h2, if_neg h2]
/-! ### The restart -/
/-- What is left of a file. -/
def cutY (n : Int) (y : filesfile) : filesfile := ⟨y.b_.take (min (y.b_.length : Int) (y.safe_ + max 0 (min n (y.b_.length : Int)))).toNat, min (y.b_.length : Int) (y.safe_ + max 0 (min n (y.b_.length : Int)))⟩
def Fine (y : filesfile) : Prop := 0 ≤ y.safe_ ∧ y.safe_ ≤ y.b_.length ∧ y.b_.length ≤ 1000000000
theorem cutY_fine {n : Int} {y : filesfile} (h : Fine y) : Fine (cutY n y) := by
  obtain ⟨h1, h2, h3⟩ := h
  unfold Fine cutY
  simp only [List.length_take]
  omega
theorem cutY_twice {n : Int} {y : filesfile} (h : Fine y) : cutY n (cutY n y) = cutY n y := by
  obtain ⟨h1, h2, h3⟩ := h
  have e1 : ((cutY n y).b_.length : Int) = (cutY n y).safe_ := by
    unfold cutY
    simp only [List.length_take]
    omega
  have h0 : 0 ≤ (cutY n y).safe_ := by unfold cutY; simp only []; omega
  generalize cutY n y = z at e1 h0
  obtain ⟨b, s⟩ := z
  simp only at e1 h0
  unfold cutY
  simp only [filesfile.mk.injEq]
  have e2 : min (b.length : Int) (s + max 0 (min n (b.length : Int))) = s := by omega
  rw [e2]
  exact ⟨List.take_of_length_le (by omega), rfl⟩
def hit (m : Fm) (i : Nat) : Bool := m.any fun e => decide (e.2 = some i)
def restA (n : Int) (m : Fm) (ar : Ar) : Ar := ar.mapIdx fun i y => if hit m i then cutY n y else y
theorem restA_len (n : Int) (m : Fm) (ar : Ar) : (restA n m ar).length = ar.length := by simp [restA]
theorem rest_loop {n : Int} {K : Ar → Option (filesDisk × Ar)} : ∀ (c : Nat) (m : Fm) (ar : Ar), m.length = c → Srt m → Ve ar m → (∀ y ∈ ar, Fine y) → forN (go_files_Disk_Restart.b3 n) K c m ar = K (restA n m ar)
  | 0, m, ar, hl, hs, hv, hf => by
    have h0 : m = [] := List.eq_nil_of_length_eq_zero hl
    subst h0
    show K ar = _
    have : restA n [] ar = ar := by
      unfold restA hit
      apply List.ext_getElem <;> simp
    rw [this]
  | c + 1, m, ar, hl, hs, hv, hf => by
    have hne : m ≠ [] := by intro h; rw [h] at hl; simp at hl
    refine forN_eq hne (fun a ha => ?_)
    have hl2 := mdel_len hs ha
    obtain ⟨i, h1, h2⟩ := hv a ha
    obtain ⟨f1, f2, f3⟩ := hf ar[i] (List.getElem_mem _)
    have hstep : ∀ nx, go_files_Disk_Restart.b3 n a ar nx = nx (ar.set i (cutY n ar[i])) := by
      intro nx
      unfold go_files_Disk_Restart.b3
      rw [h1, Option.bind_some, List.getElem?_eq_getElem h2, Option.bind_some, wr_in (by omega) (by omega), cut0 (by omega) (by omega), Option.bind_some, clip_eq, Option.bind_some, Option.bind_some, Option.bind_some]
      rw [List.getElem?_eq_getElem (by simpa using h2), Option.bind_some, Option.bind_some]
      simp only [List.getElem_set_self, List.set_set]
      unfold cutY
      congr 2
      simp only [filesfile.mk.injEq, true_and, List.length_take]
      omega
    rw [hstep, rest_loop (K := K) c (mdel m a.1) (ar.set i (cutY n ar[i])) (by omega) (hs.del _) (fun e he => by rw [List.length_set]; exact hv.del _ e he) (fun y hy => by
      rcases List.mem_or_eq_of_mem_set hy with hy | rfl
      · exact hf y hy
      · exact cutY_fine ⟨f1, f2, f3⟩)]
    congr 1
    unfold restA
    apply List.ext_getElem
    · simp
    · intro j hj1 hj2
      simp only [List.length_mapIdx, List.length_set] at hj1 hj2
      simp only [List.getElem_mapIdx, List.getElem_set]
      by_cases hij : i = j
      · subst hij
        have hh : hit m i = true := by
          unfold hit
          rw [List.any_eq_true]
          exact ⟨a, ha, by simp [h1]⟩
        rw [if_pos rfl, hh, if_pos rfl]
        split
        · exact cutY_twice ⟨f1, f2, f3⟩
        · rfl
      · rw [if_neg hij]
        have hh : hit (mdel m a.1) j = hit m j := by
          unfold hit
          rw [Bool.eq_iff_iff, List.any_eq_true, List.any_eq_true]
          constructor
          · rintro ⟨e, he, h⟩; exact ⟨e, (mem_mdel.1 he).1, h⟩
          · rintro ⟨e, he, h⟩
            refine ⟨e, mem_mdel.2 ⟨he, fun hk => ?_⟩, h⟩
            have := hs.inj he ha hk
            subst this
            simp only [decide_eq_true_eq] at h
            rw [h1] at h
            exact hij (Option.some.inj h)
        rw [hh]
def kept (d : filesDisk) (k : Int) : Fm := (d.wait_.take (max 0 (min k (d.wait_.length : Int))).toNat).foldl (fun m cs => cs.foldl putF m) d.safe_
theorem restart_eq {d : filesDisk} {ar : Ar} (k n : Int) (hs : Srt (kept d k)) (hv : Ve ar (kept d k)) (hf : ∀ y ∈ ar, Fine y) : go_files_Disk_Restart d k n ar = some (⟨kept d k, kept d k, [], d.room_, -1, false, d.calls_⟩, restA n (kept d k) ar) := by
  unfold go_files_Disk_Restart
  rw [cut0 (by omega) (by omega), Option.bind_some]
  rw [forL_fold (body := go_files_Disk_Restart.b1) (fun m cs => cs.foldl putF m) (fun i a s nx => by
    unfold go_files_Disk_Restart.b1
    rw [forL_fold (body := go_files_Disk_Restart.b2) putF (fun i a s nx => by unfold go_files_Disk_Restart.b2; rw [put_eq]; rfl)])]
  show forN (go_files_Disk_Restart.b3 n) _ (kept d k).length (kept d k) ar = _
  rw [rest_loop _ _ _ rfl hs hv hf]
  rfl
end Go.Proofs.Ytbonfgnmipmmbaa.Fi
