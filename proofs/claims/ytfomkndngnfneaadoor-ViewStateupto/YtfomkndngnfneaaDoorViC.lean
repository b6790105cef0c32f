/- Plain texts quoted; a state's lines. -/
import Derived.Test.YtfomkndngnfneaaDoorStB
import Derived.Test.YtfomkndngnfneaaDoorViB
import Derived.Test.YtfomkndngnfneaaDoorV5
namespace Go.Proofs.YtfomkndngnfneaaDoor.Vi
open Go Go.Proofs Go.Proofs.YtfomkndngnfneaaDoor.Sx Go.Proofs.YtfomkndngnfneaaDoor.V1 Go.Proofs.YtfomkndngnfneaaDoor.V2 Go.Proofs.YtfomkndngnfneaaDoor.V3 Go.Proofs.YtfomkndngnfneaaDoor.V4 Go.Proofs.YtfomkndngnfneaaDoor.V5 Go.Proofs.YtfomkndngnfneaaDoor.St
set_option linter.unusedVariables false
set_option linter.unusedSimpArgs false
/-! ### Plain texts -/
def PlB (b : UInt8) : Prop := 32 ≤ b.toNat ∧ b.toNat ≤ 126 ∧ b.toNat ≠ 34 ∧ b.toNat ≠ 92
def PlT (s : Str) : Prop := ∀ b ∈ s, PlB b
theorem get0 (b : UInt8) (s : Str) : (⟨(b :: s).toArray⟩ : ByteArray).get! 0 = b := by
  have h : 0 < (b :: s).toArray.size := by simp
  show (b :: s).toArray[0]! = b
  rw [getElem!_pos _ 0 h]
  rfl
theorem dec_plain (b : UInt8) (s : Str) (h : PlB b) : Utf8.decode ⟨(b :: s).toArray⟩ 0 = (b.toNat, 1) := by
  rw [Lib.decode_at, get0]
  unfold Lib.decodeN
  rw [if_pos (by have := h.2.1; omega)]
theorem esc_plain (T : Lib.PrintTabs) (b : UInt8) (h : PlB b) : Lib.escRune T (b.toNat : Int) = [(b.toNat : Int)] := by
  obtain ⟨h1, h2, h3, h4⟩ := h
  unfold Lib.escRune
  rw [if_neg (by omega)]
  have hp : Lib.isPrintR T (b.toNat : Int) = true := by
    unfold Lib.isPrintR
    rw [if_pos (by omega)]
    unfold Lib.isPrintLatin
    simp
    omega
  rw [if_pos hp]
  unfold Lib.encodeRuneZ
  rw [if_pos (by omega)]
theorem ext1 (b : UInt8) (s : Str) : (⟨(b :: s).toArray⟩ : ByteArray).extract 1 (⟨(b :: s).toArray⟩ : ByteArray).size = ⟨s.toArray⟩ := by
  apply ByteArray.ext
  rw [ByteArray.data_extract]
  show (b :: s).toArray.extract 1 (b :: s).toArray.size = s.toArray
  apply Array.toList_inj.1
  simp
theorem qf_plain (T : Lib.PrintTabs) : ∀ (s : Str) (f : Nat), s.length ≤ f → PlT s → Lib.quoteFrom T f ⟨s.toArray⟩ = s.map fun b => (b.toNat : Int)
  | [], f, _, _ => by
    rw [Lib.quoteFrom_end _ _ _ (by simp [ByteArray.size])]
    rfl
  | b :: s, f, hf, h => by
    have hb := h b (List.mem_cons_self ..)
    rw [Lib.quoteFrom_step _ _ _ (by simp [ByteArray.size]) (by simpa [ByteArray.size] using hf), dec_plain b s hb, ext1,
      qf_plain T s (f - 1) (by simp at hf; omega) (fun x hx => h x (List.mem_cons_of_mem _ hx))]
    rw [Lib.quoteStep_good _ _ (by rw [dec_plain b s hb]; rintro ⟨_, h2⟩; simp only at h2; have := hb.2.1; omega), dec_plain b s hb, esc_plain T b hb]
    rfl
def quF (s : Str) : Str := 34 :: (s ++ [34])
theorem quote_plain {s : Str} (h : PlT s) (hl : s.length ≤ 1000000000) : VM.quote s = some (quF s) := by
  unfold VM.quote
  rw [if_pos (by omega)]
  unfold VM.quoteF Lib.quoteZ
  rw [qf_plain _ s _ (by simp [ByteArray.size]) h]
  unfold strOfNums quF
  congr 1
  simp only [List.map_cons, List.map_append, List.map_nil]
  rw [List.map_map]
  have : s.map ((fun n : Int => UInt8.ofNat n.toNat) ∘ fun b : UInt8 => (b.toNat : Int)) = s := by
    conv => rhs; rw [← List.map_id s]
    exact List.map_congr_left fun x _ => by simp
  rw [this]
  rfl
/-! ### A state's lines -/
def lineF (p : apiPair) : Str := 34 :: (p.Key ++ ([34, 32, 61, 32, 34] ++ (p.Value ++ [34, 10])))
def headF (s : apiState) : Str := rowF [[115, 116, 97, 116, 101], Lib.itoa s.Index, Lib.itoa s.Term]
def stF (s : apiState) : Str := headF s ++ (s.Pairs.map lineF).flatten
structure PlS (s : apiState) : Prop where
  i : In64 s.Index
  t : In64 s.Term
  n : s.Pairs.length ≤ 1000
  p : ∀ p ∈ s.Pairs, PlT p.Key ∧ PlT p.Value ∧ p.Key.length ≤ 10000000 ∧ p.Value.length ≤ 10000000
theorem head_le {s : apiState} (h : PlS s) : (headF s).length ≤ 100 := by
  have a1 := ito_le h.i
  have a2 := ito_le h.t
  unfold headF rowF
  simp [Lib.join_cons, Lib.joinTail]
  omega
theorem head_eq {s : apiState} (h : PlS s) : go_view_row [[115, 116, 97, 116, 101], Lib.itoa s.Index, Lib.itoa s.Term] = some (headF s) := by
  have a1 := ito_le h.i
  have a2 := ito_le h.t
  rw [row_eq (by simp) (by simp [Lib.join_cons, Lib.joinTail]; omega)]
  rfl
theorem line_row {p : apiPair} (h : PlT p.Key ∧ PlT p.Value ∧ p.Key.length ≤ 10000000 ∧ p.Value.length ≤ 10000000) : go_view_row [quF p.Key, [61], quF p.Value] = some (lineF p) := by
  obtain ⟨h1, h2, h3, h4⟩ := h
  rw [row_eq (by simp) (by simp [Lib.join_cons, Lib.joinTail, quF]; omega)]
  unfold rowF lineF quF
  simp [Lib.join_cons, Lib.joinTail]
theorem lineF_len (p : apiPair) : (lineF p).length = p.Key.length + p.Value.length + 8 := by
  unfold lineF
  simp
  omega
theorem wsO_ok {l s : Str} (h : l.length + s.length ≤ 140737488355328) : VM.wsO l s = some (l ++ s) := by
  unfold VM.wsO apB
  rw [if_pos (by omega)]
theorem st_loop : ∀ (ps : List apiPair) (i : Nat) (l : Str), (∀ p ∈ ps, PlT p.Key ∧ PlT p.Value ∧ p.Key.length ≤ 10000000 ∧ p.Value.length ≤ 10000000) → l.length + ps.length * 20000008 ≤ 100000000000 → forL (go_view_Pairs_c1.b1 (yw go_view_State.z1)) (fun ys => some ys) i ps (l, 0) = some (l ++ (ps.map lineF).flatten, 0)
  | [], i, l, _, _ => by simp [forL]
  | p :: ps, i, l, h, hl => by
    have hp := h p (List.mem_cons_self ..)
    have hn := lineF_len p
    simp only [List.length_cons] at hl
    show go_view_Pairs_c1.b1 (yw go_view_State.z1) i p (l, 0) _ = _
    unfold go_view_Pairs_c1.b1
    rw [quote_plain hp.1 (by omega), Option.bind_some, quote_plain hp.2.1 (by omega), Option.bind_some, line_row hp, Option.bind_some]
    have e : yw go_view_State.z1 (lineF p) (l, 0) = some (true, (l ++ lineF p, 0)) := by
      show go_view_State.z1 (lineF p) l = _
      unfold go_view_State.z1
      rw [wsO_ok (by omega)]
      rfl
    rw [e, Option.bind_some, if_pos rfl]
    refine (st_loop ps (i + 1) _ (fun q hq => h q (List.mem_cons_of_mem _ hq)) (by rw [List.length_append]; omega)).trans ?_
    simp
theorem head_ne (s : apiState) : headF s ≠ [] := by
  unfold headF rowF
  simp [Lib.join_cons]
theorem view_eq {s : apiState} (h : PlS s) : go_view_State s = some (stF s) := by
  unfold go_view_State
  have a1 := head_le h
  have hn := h.n
  rw [ito_eq h.i, Option.bind_some, ito_eq h.t, Option.bind_some, head_eq h, Option.bind_some, wsO_ok (by simp; omega), Option.bind_some, List.nil_append]
  unfold go_view_Pairs go_view_Pairs_c1
  rw [Option.bind_some, st_loop s.Pairs 0 _ h.p (by omega), Option.bind_some]
  show (if 0 = 0 then _ else _) = _
  rw [if_pos rfl]
  unfold VM.bsO
  rw [if_neg (by
    intro he
    exact head_ne s (List.append_eq_nil_iff.1 he).1)]
  rfl
/-! ### Numbers are told apart -/
theorem dec_inj : ∀ (a b : Nat), Lib.decDigits a = Lib.decDigits b → a = b := by
  intro a
  induction a using Nat.strongRecOn with
  | ind a ih =>
    intro b h
    by_cases ha : a < 10
    · by_cases hb : b < 10
      · rw [Lib.decDigits_one ha, Lib.decDigits_one hb] at h
        have h3 := congrArg UInt8.toNat (List.cons.inj h).1
        simp at h3
        omega
      · rw [Lib.decDigits_one ha, dec_succ hb] at h
        have hl := congrArg List.length h
        have := Lib.nDigits_pos (b / 10)
        rw [List.length_append, Lib.decDigits_length] at hl
        simp at hl
        omega
    · by_cases hb : b < 10
      · rw [Lib.decDigits_one hb, dec_succ ha] at h
        have hl := congrArg List.length h
        have := Lib.nDigits_pos (a / 10)
        rw [List.length_append, Lib.decDigits_length] at hl
        simp at hl
        omega
      · rw [dec_succ ha, dec_succ hb] at h
        have h3 := List.append_inj' h rfl
        have h4 := congrArg UInt8.toNat (List.cons.inj h3.2).1
        have h5 := ih (a / 10) (by omega) (b / 10) h3.1
        simp at h4
        omega
theorem dec_mem : ∀ (a : Nat), ∀ c ∈ Lib.decDigits a, 48 ≤ c.toNat := by
  intro a
  induction a using Nat.strongRecOn with
  | ind a ih =>
    intro c hc
    by_cases ha : a < 10
    · rw [Lib.decDigits_one ha] at hc
      rw [List.mem_singleton.1 hc]
      simp
      omega
    · rw [dec_succ ha] at hc
      rcases List.mem_append.1 hc with hc | hc
      · exact ih (a / 10) (by omega) c hc
      · rw [List.mem_singleton.1 hc]
        simp
        omega
theorem sep_inj {x : UInt8} : ∀ {a b r r' : Str}, x ∉ a → x ∉ b → a ++ x :: r = b ++ x :: r' → a = b ∧ r = r'
  | [], [], r, r', _, _, h => ⟨rfl, (List.cons.inj h).2⟩
  | [], y :: b, r, r', _, hb, h => absurd (List.cons.inj h).1 (fun e => hb (by rw [e]; exact List.mem_cons_self ..))
  | y :: a, [], r, r', ha, _, h => absurd (List.cons.inj h).1.symm (fun e => ha (by rw [e]; exact List.mem_cons_self ..))
  | y :: a, z :: b, r, r', ha, hb, h => by
    have h1 := List.cons.inj h
    have h2 := sep_inj (fun hm => ha (List.mem_cons_of_mem _ hm)) (fun hm => hb (List.mem_cons_of_mem _ hm)) h1.2
    exact ⟨by rw [h1.1, h2.1], h2.2⟩
theorem itoa_nat (u : Nat) : Lib.itoa (u : Int) = Lib.decDigits u := by
  unfold Lib.itoa
  rw [if_neg (by omega)]
  rfl
theorem st_index {s t : apiState} (h0 : 0 ≤ s.Index) (h1 : 0 ≤ t.Index) (h : stF s = stF t) : s.Index = t.Index := by
  have e1 : s.Index = (s.Index.toNat : Int) := by omega
  have e2 : t.Index = (t.Index.toNat : Int) := by omega
  have no : ∀ u : Nat, (32 : UInt8) ∉ Lib.decDigits u := fun u hm => by
    have := dec_mem u 32 hm
    simp at this
  unfold stF headF rowF at h
  rw [e1, e2, itoa_nat, itoa_nat] at h
  simp only [Lib.join_cons, Lib.joinTail, List.map_cons, List.map_nil, List.flatten_cons, List.flatten_nil, List.append_nil, List.cons_append, List.append_assoc, List.nil_append, List.cons.injEq, true_and] at h
  have h2 := dec_inj _ _ (sep_inj (no _) (no _) h).1
  omega
/-! ### Says are plain -/
def PlC (c : apiCmd) : Prop := (PlT c.Key ∧ c.Key.length ≤ 8) ∧ (PlT c.Value ∧ c.Value.length ≤ 16)
theorem pl_nil : PlT [] := fun _ h => absurd h List.not_mem_nil
theorem pl_app {a b : Str} (ha : PlT a) (hb : PlT b) : PlT (a ++ b) := fun x hx => (List.mem_append.1 hx).elim (ha x) (hb x)
theorem key_cut : ∀ k : Fin 8, cutI ([97, 98, 99, 100, 101, 102, 103, 104] : Str) (k.val : Int) ((k.val + 1 : Nat) : Int) = some [UInt8.ofNat (97 + k.val)] := by decide +kernel
theorem dig_cut : ∀ k : Fin 10, cutI ([48, 49, 50, 51, 52, 53, 54, 55, 56, 57] : Str) (k.val : Int) ((k.val + 1 : Nat) : Int) = some [UInt8.ofNat (48 + k.val)] := by decide +kernel
theorem v_cut : ∀ k : Fin 2, cutI ([118] : Str) 0 (k.val : Int) = some (if k.val = 0 then [] else [118]) := by decide +kernel
theorem u8mod (x : UInt8) (m : UInt8) (n : Nat) (hm : m.toNat = n) (h0 : 0 < n) : (x % m).toNat = x.toNat % n := by
  rw [UInt8.toNat_mod, hm]
theorem u8suc (x : UInt8) (m : UInt8) (n : Nat) (hm : m.toNat = n) (h0 : 0 < n) (h1 : n ≤ 200) : ((x % m) + 1).toNat = x.toNat % n + 1 := by
  rw [UInt8.toNat_add, u8mod x m n hm h0]
  have := Nat.mod_lt x.toNat h0
  simp
  omega
def keyF (x : UInt8) : Str := [107, UInt8.ofNat (97 + x.toNat % 8)]
def valF (x : UInt8) : Str := (if x.toNat % 2 = 0 then [] else [118]) ++ [UInt8.ofNat (48 + x.toNat % 10)]
theorem keyF_eq (x : UInt8) : (cutI ([97, 98, 99, 100, 101, 102, 103, 104] : Str) ((x % 8).toNat : Int) (((x % 8) + 1).toNat : Int)).bind (fun s10 => catI [107] s10) = some (keyF x) := by
  rw [u8mod x 8 8 rfl (by decide), u8suc x 8 8 rfl (by decide) (by decide), key_cut ⟨x.toNat % 8, Nat.mod_lt _ (by decide)⟩, Option.bind_some, catI_ok (by simp)]
  rfl
theorem valF_eq {R : Type} (x : UInt8) (k : Str → Option R) : (cutI ([118] : Str) 0 ((x % 2).toNat : Int)).bind (fun s12 => (cutI ([48, 49, 50, 51, 52, 53, 54, 55, 56, 57] : Str) ((x % 10).toNat : Int) (((x % 10) + 1).toNat : Int)).bind fun s13 => (catI s12 s13).bind k) = k (valF x) := by
  rw [u8mod x 2 2 rfl (by decide), v_cut ⟨x.toNat % 2, Nat.mod_lt _ (by decide)⟩, Option.bind_some, u8mod x 10 10 rfl (by decide), u8suc x 10 10 rfl (by decide) (by decide), dig_cut ⟨x.toNat % 10, Nat.mod_lt _ (by decide)⟩, Option.bind_some, catI_ok (by split <;> simp), Option.bind_some]
  rfl
theorem pl_key (x : UInt8) : PlT (keyF x) := by
  intro b hb
  unfold keyF at hb
  have h8 := Nat.mod_lt x.toNat (show 0 < 8 by decide)
  simp only [List.mem_cons, List.not_mem_nil, or_false] at hb
  rcases hb with rfl | rfl
  · exact ⟨by decide, by decide, by decide, by decide⟩
  · refine ⟨?_, ?_, ?_, ?_⟩ <;> simp <;> omega
theorem pl_val (x : UInt8) : PlT (valF x) := by
  unfold valF
  have h8 := Nat.mod_lt x.toNat (show 0 < 10 by decide)
  refine pl_app ?_ ?_
  · split
    · exact pl_nil
    · intro b hb
      rw [List.mem_singleton.1 hb]
      exact ⟨by decide, by decide, by decide, by decide⟩
  · intro b hb
    rw [List.mem_singleton.1 hb]
    refine ⟨?_, ?_, ?_, ?_⟩ <;> simp <;> omega
theorem val_len (x : UInt8) : (valF x).length ≤ 2 := by
  unfold valF
  split <;> simp
theorem say_cmd (p : law06Say) : ∃ c, go_law06_Say_Cmd p = some c ∧ PlC c := by
  have hk := keyF_eq p.Key
  have hj : ∀ s11 s21, (PlT s11 ∧ s11.length ≤ 8) → (PlT s21 ∧ s21.length ≤ 16) → ∃ c, go_law06_Say_Cmd.j1 p s11 s21 = some c ∧ PlC c := fun s11 s21 h1 h2 => by
    unfold go_law06_Say_Cmd.j1
    rw [valF_eq]
    split
    · exact ⟨_, rfl, h1, h2⟩
    · exact ⟨_, rfl, h1, h2⟩
  have hv := val_len p.Value
  have hk2 : PlT (keyF p.Key) ∧ (keyF p.Key).length ≤ 8 := ⟨pl_key _, by simp [keyF]⟩
  have hv2 : PlT (valF p.Value) ∧ (valF p.Value).length ≤ 16 := ⟨pl_val _, by omega⟩
  have hn : PlT [] ∧ ([] : Str).length ≤ 16 := ⟨pl_nil, by simp⟩
  have e : go_law06_Say_Cmd p = ((cutI ([97, 98, 99, 100, 101, 102, 103, 104] : Str) ((p.Key % 8).toNat : Int) (((p.Key % 8) + 1).toNat : Int)).bind (fun s10 => catI [107] s10)).bind fun s11 => (cutI [118] 0 ((p.Value % 2).toNat : Int)).bind fun s12 => (cutI [48, 49, 50, 51, 52, 53, 54, 55, 56, 57] ((p.Value % 10).toNat : Int) (((p.Value % 10) + 1).toNat : Int)).bind fun s13 => (catI s12 s13).bind fun s14 => if ((p.Op % 4).toNat : Int) = 0 then (some (⟨0, 0, 0, [], [], []⟩ : apiCmd)) else (if ((p.Op % 4).toNat : Int) = 2 then (go_law06_Say_Cmd.j1 p s11 []) else (go_law06_Say_Cmd.j1 p s11 s14)) := by
    rw [Option.bind_assoc]
    rfl
  rw [e, hk, Option.bind_some, valF_eq]
  split
  · exact ⟨_, rfl, ⟨pl_nil, by simp⟩, pl_nil, by simp⟩
  · split
    · exact hj _ _ hk2 hn
    · exact hj _ _ hk2 hv2
theorem ent_loop : ∀ (l : List law06Say) (i : Nat) (x : Int) (es : List apiEntry), es.length + l.length ≤ 1000000 → (∀ e ∈ es, PlC e.Cmd) → ∃ es', forL (go_law06_Entries.b1 1) (fun (x65, l66) => some l66) i l (x, es) = some es' ∧ ∀ e ∈ es', PlC e.Cmd
  | [], i, x, es, _, h => ⟨es, rfl, h⟩
  | a :: l, i, x, es, hl, h => by
    obtain ⟨c, hc, hp⟩ := say_cmd a
    simp only [List.length_cons] at hl
    have hj : ∀ x82, ∃ es', go_law06_Entries.j1 1 es i a (fun s' => forL (go_law06_Entries.b1 1) (fun (x65, l66) => some l66) (i + 1) l s') x82 = some es' ∧ ∀ e ∈ es', PlC e.Cmd := fun x82 => by
      unfold go_law06_Entries.j1
      rw [hc, Option.bind_some, apB_ok (by simp; omega), Option.bind_some]
      exact ent_loop l (i + 1) x82 _ (by simp; omega) fun e he => by
        rcases List.mem_append.1 he with he | he
        · exact h e he
        · rw [List.mem_singleton.1 he]
          exact hp
    show ∃ es', go_law06_Entries.b1 1 i a (x, es) _ = some es' ∧ _
    unfold go_law06_Entries.b1
    simp only
    split
    · exact hj _
    · exact hj _
theorem do_pl {m : List (Str × Str)} {c : apiCmd} (hm : KS m) (h : ∀ x ∈ m, PlT x.1 ∧ PlT x.2) (hc : PlC c) : ∀ x ∈ (doF m c).2, PlT x.1 ∧ PlT x.2 := by
  have hput : ∀ x ∈ kput m c.Key c.Value, PlT x.1 ∧ PlT x.2 := fun x hx => by
    rcases mem_kput hm hx with rfl | hx
    · exact ⟨hc.1.1, hc.2.1⟩
    · exact h x hx
  unfold doF
  cases kget m c.Key with
  | none =>
    simp only
    split
    · split
      · exact h
      · exact hput
    · exact h
  | some old =>
    simp only
    split
    · exact h
    · split
      · exact fun x hx => h x (List.mem_filter.1 hx).1
      · exact hput
theorem apply_pl {s : apiState} {e : apiEntry} (hs : StOk s) (h : ∀ p ∈ s.Pairs, PlT p.Key ∧ PlT p.Value) (he : PlC e.Cmd) : ∀ p ∈ (applyF s e).1.Pairs, PlT p.Key ∧ PlT p.Value := by
  have hl : ∀ p ∈ (laidF s e).1.Pairs, PlT p.Key ∧ PlT p.Value := fun p hp => by
    obtain ⟨x, hx, rfl⟩ := List.mem_map.1 hp
    exact do_pl hs.ks (fun y hy => by
      obtain ⟨q, hq, rfl⟩ := List.mem_map.1 hy
      exact h q hq) he x hx
  unfold applyF
  split
  · split
    · split
      · exact h
      · split
        · split
          · split
            · exact h
            · exact h
          · exact hl
        · exact hl
    · exact h
  · exact h
theorem fold_pl : ∀ (es : List apiEntry) (s : apiState), StOk s → (∀ p ∈ s.Pairs, PlT p.Key ∧ PlT p.Value) → (∀ e ∈ es, PlC e.Cmd) → ∀ p ∈ (foldF s es).Pairs, PlT p.Key ∧ PlT p.Value
  | [], s, _, h, _ => h
  | e :: es, s, hs, h, he => fold_pl es _ (apply_ok hs e) (apply_pl hs h (he e (List.mem_cons_self ..))) (fun x hx => he x (List.mem_cons_of_mem _ hx))
theorem some_eq (p : List law06Say) : ∃ s, go_law07_Some p = some s ∧ StOk s ∧ PlS s := by
  unfold go_law07_Some go_law06_Entries
  have c : cutI p 0 (min (p.length : Int) 80) = some (p.take 80) := cut_min p 80
  rw [c, Option.bind_some]
  obtain ⟨es, h1, h2⟩ := ent_loop (p.take 80) 0 0 [] (by simp; omega) (fun e he => absurd he List.not_mem_nil)
  rw [h1, Option.bind_some, fold_eq st0, Option.bind_some]
  have hok := fold_ok (es := es) st0
  refine ⟨_, rfl, hok, ?_, ?_, ?_, ?_⟩
  · have := hok.i0; have := hok.i1
    exact ⟨by omega, by omega⟩
  · have := hok.t0; have := hok.t1
    exact ⟨by omega, by omega⟩
  · have := hok.kl; omega
  · intro q hq
    have h3 := fold_pl es _ st0 (fun _ h => absurd h List.not_mem_nil) h2 q hq
    have h4 := hok.kb q hq
    exact ⟨h3.1, h3.2, by omega, by omega⟩
theorem viewApart (p0 : List law06Say) (p1 : UInt8) : go_law20_ViewApart p0 p1 = some true := by
  unfold go_law20_ViewApart
  rw [awake, Option.bind_some, if_pos rfl]
  obtain ⟨s, hs, hok, hp⟩ := some_eq p0
  have hn := hok.kl
  have hi := hok.i0
  have hi1 := hok.i1
  have h1 := p1.toNat_lt
  rw [hs, Option.bind_some, apB_ok (by simp; omega), Option.bind_some, apB_ok (by simp; omega), Option.bind_some, List.nil_append]
  have ew : wr (s.Index + wr (1 + (p1.toNat : Int))) = s.Index + (1 + (p1.toNat : Int)) := by
    rw [wr_in (x := 1 + (p1.toNat : Int)) (by omega) (by omega), wr_in (by omega) (by omega)]
  rw [ew]
  have ht : PlS ⟨s.Index + (1 + (p1.toNat : Int)), s.Term, s.Pairs, s.Sessions⟩ := ⟨⟨by simp only []; omega, by simp only []; omega⟩, hp.t, hp.n, hp.p⟩
  have hu : PlS ⟨s.Index, s.Term, s.Pairs ++ [⟨[122], [], false⟩], s.Sessions⟩ := ⟨hp.i, hp.t, by simp; omega, fun q hq => by
    rcases List.mem_append.1 hq with hq | hq
    · exact hp.p q hq
    · rw [List.mem_singleton.1 hq]
      refine ⟨fun b hb => ?_, pl_nil, by simp, by simp⟩
      rw [List.mem_singleton.1 hb]
      exact ⟨by decide, by decide, by decide, by decide⟩⟩
  have n1 : ¬ stF s = stF ⟨s.Index + (1 + (p1.toNat : Int)), s.Term, s.Pairs, s.Sessions⟩ := fun h => by
    have := st_index hi (by simp only []; omega) h
    simp only [] at this
    omega
  have n2 : ¬ stF s = stF ⟨s.Index, s.Term, s.Pairs ++ [⟨[122], [], false⟩], s.Sessions⟩ := fun h => by
    have := congrArg List.length h
    unfold stF at this
    rw [show headF ⟨s.Index, s.Term, s.Pairs ++ [⟨[122], [], false⟩], s.Sessions⟩ = headF s from rfl] at this
    simp [lineF] at this
  simp only [view_eq hp, view_eq ht, view_eq hu, Option.bind_some]
  rw [if_neg n1, if_neg n2]
  simp
end Go.Proofs.YtfomkndngnfneaaDoor.Vi
