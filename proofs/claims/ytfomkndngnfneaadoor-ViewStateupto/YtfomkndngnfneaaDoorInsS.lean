/- slices.Insert of one element into a row of one's own. -/
import Derived.Test.YtfomkndngnfneaaDoorV3
import Derived.Test.YtfomkndngnfneaaDoorGnY
namespace Go.Proofs.YtfomkndngnfneaaDoor.InsS
open Go Go.RowKit Go.Proofs Go.Proofs.YtfomkndngnfneaaDoor.Sx Go.Proofs.YtfomkndngnfneaaDoor.V3
set_option linter.unusedVariables false
set_option linter.unusedSimpArgs false
theorem szE : (Tryd.prog.info? 153).map (·.size) = some 2 := by kernel_rfl
theorem infE : (Tryd.prog.info? 153).map (fun i => (i.zero, i.size, i.bytes)) = some (some (.agg #[.string ⟨#[]⟩, .string ⟨#[]⟩]), 2, 32) := by kernel_rfl
def insS (p0 : List sorteditemstringstring) (p1 : Int) (p2 : List sorteditemstringstring) : Option (List sorteditemstringstring) :=
  match p2 with
  | [x] => if 0 ≤ p1 ∧ p1 ≤ (p0.length : Int) ∧ p0.length ≤ 1000000000 then some (p0.take p1.toNat ++ x :: p0.drop p1.toNat) else none
  | _ => none
theorem Cs.ins {α : Type} {τ : Ty α} {ζ : Zp} {d dx : List Value} {l : List α} {x : α} (h : Cs τ ζ d l) (hx : Cs τ ζ dx [x]) (i : Nat) : Cs τ ζ (d.take (i * τ.sz) ++ dx ++ d.drop (i * τ.sz)) (l.take i ++ x :: l.drop i) := by
  have h1 := (h.take i).append (hx.append (h.drop i))
  rw [List.append_assoc]
  exact h1
set_option maxRecDepth 100000 in
set_option maxHeartbeats 4000000 in
theorem insS.walk {w0 w : World} {X : List Res} {z0 : Zp} {p0 : List sorteditemstringstring} {p1 : Int} {p2 : List sorteditemstringstring} {A0 A2 : Option Addr} {c0 c2 : Nat} {d0 d2 : List Value} {r : List sorteditemstringstring}
    (hst : Ht w0 (frz z0 :: orow 153 2 (.slice A0 p0.length c0) p0.length d0 :: orow 153 2 (.slice A2 p2.length c2) p2.length d2 :: X) w) (f0 : Cs tsorteditemstringstring z0 d0 p0) (f2 : Cs tsorteditemstringstring z0 d2 p2) (hf : insS p0 p1 p2 = some r) :
    Calls Tryd.prog 72 #[.slice A0 p0.length c0, vi p1, .slice A2 p2.length c2] w fun e w' => ∃ (z' : Zp) (A' : Option Addr) (c' : Nat) (d' : List Value), e = .returned (.slice A' r.length c') ∧ Le z0 z' ∧ Cs tsorteditemstringstring z' d' r ∧ Ht w0 (frz z' :: orow 153 2 (.slice A' r.length c') r.length d' :: X) w' := by
  unfold insS at hf
  split at hf
  rotate_left
  · cases hf
  rename_i x
  split at hf
  rotate_left
  · cases hf
  rename_i hb
  cases hf
  obtain ⟨hb1, hb2, hb3⟩ := hb
  obtain ⟨i, rfl⟩ : ∃ i : Nat, p1 = (i : Int) := ⟨p1.toNat, by omega⟩
  have hin : i ≤ p0.length := by omega
  have hcap := own_cap (hst.get (i := 1) rfl)
  have hrl : (p0.take ((i : Int)).toNat ++ x :: p0.drop ((i : Int)).toNat).length = p0.length + 1 := by simp; omega
  have hin' : ((i : Int)).toNat = i := by omega
  have hd0 : d0.length = p0.length * 2 := f0.len
  have hd2 : d2.length = 1 * 2 := f2.len
  have hins := Cs.ins f0 f2 i
  refine calls_np Tryd.func72 rfl rfl ?_
  repeat refine Run.seq ?_
  refine Run.region ?_
  refine Ops.ex (Ex.assign rfl) rfl rfl rfl ?_
  refine Ops.nil ?_
  repeat refine Run.seq ?_
  refine Run.region ?_
  refine Ops.ex (Ex.move rfl) rfl rfl rfl ?_
  refine Ops.ex (Ex.move rfl) rfl rfl rfl ?_
  refine Ops.ex (Ex.cut (i := (i : Int)) (j := (p0.length : Int)) rfl Tryd.underlying126 szE rfl rfl (by omega) (by omega) (by omega)) rfl rfl rfl ?_
  refine Ops.nil ?_
  repeat refine Run.seq ?_
  refine Run.region ?_
  refine Ops.ex (Ex.move rfl) rfl rfl rfl ?_
  refine Ops.ex (Ex.len rfl rfl rfl Tryd.underlying126) rfl rfl rfl ?_
  refine Ops.ex (Ex.assign rfl) rfl rfl rfl ?_
  refine Ops.nil ?_
  repeat refine Run.seq ?_
  refine Run.region ?_
  refine Ops.ex (Ex.move rfl) rfl rfl rfl ?_
  refine Ops.ex (Ex.eqlI rfl rfl) rfl rfl rfl ?_
  refine Ops.nil ?_
  repeat refine Run.seq ?_
  refine Run.condF rfl (by simp) ?_
  refine Run.skip ?_
  repeat refine Run.seq ?_
  refine Run.region ?_
  refine Ops.ex (Ex.move rfl) rfl rfl rfl ?_
  refine Ops.ex (Ex.len rfl rfl rfl Tryd.underlying126) rfl rfl rfl ?_
  refine Ops.ex (Ex.assign rfl) rfl rfl rfl ?_
  refine Ops.nil ?_
  repeat refine Run.seq ?_
  refine Run.region ?_
  refine Ops.ex (Ex.move rfl) rfl rfl rfl ?_
  refine Ops.ex (Ex.move rfl) rfl rfl rfl ?_
  refine Ops.ex (Ex.eqlI rfl rfl) rfl rfl rfl ?_
  refine Ops.nil ?_
  repeat refine Run.seq ?_
  refine Run.cond rfl (fun hc => ?_) (fun hc => ?_)
  · -- at the end
    have hi : i = p0.length := by have := of_decide_eq_true hc; omega
    repeat refine Run.seq ?_
    refine Run.region ?_
    refine Ops.ex (Ex.move rfl) rfl rfl rfl ?_
    refine Ops.ex (Ex.move rfl) rfl rfl rfl ?_
    have hap : apB 32 p0 [x] = some (p0 ++ [x]) := by
      unfold apB
      rw [if_pos (by simp; omega)]
    refine Ops.app 1 hst rfl f0 rfl (own_slh f2 rfl (hst.get (i := 2) rfl)) rfl hap rfl rfl rfl rfl Tryd.underlying126 infE rfl (by decide) (by decide) rfl (fun A5 c5 d5 w5 f5 hst5 => ?_)
    refine Ops.ex (Ex.assign rfl) rfl rfl rfl ?_
    refine Ops.nil ?_
    have he : p0.take ((i : Int)).toNat ++ x :: p0.drop ((i : Int)).toNat = p0 ++ [x] := by
      rw [hin', hi]
      simp
    rw [he]
    exact Run.retV [.slice A5 (p0 ++ [x]).length c5] rfl ⟨rfl, trivial⟩ ⟨z0, A5, c5, d5, rfl, Le.refl _, f5, hst5.sub (List.Sublist.cons_cons _ (List.Sublist.cons_cons _ (List.Sublist.cons _ (List.Sublist.refl _))))⟩
  · have hi : i < p0.length := by have := of_decide_eq_false hc; omega
    have hw1 : wr ((p0.length : Int) + 1) = ((p0.length + 1 : Nat) : Int) := by
      have := (IntKind.wrap_i64 ((p0.length : Int) + 1)); unfold wr; rw [this]; omega
    have hwi : wr ((i : Int) + 1) = ((i + 1 : Nat) : Int) := by
      have := (IntKind.wrap_i64 ((i : Int) + 1)); unfold wr; rw [this]; omega
    obtain ⟨g, o, cs, rfl, hlc, hcm, ho, hdd, hdl, hd1, hst1⟩ := hst.toBlk 1 rfl (by omega)
    obtain ⟨g2, o2, cs2, rfl, hlc2, hcm2, ho2, hdd2, hdl2, hd12, hst2⟩ := hst1.toBlk 2 rfl (by simp)
    have hld : ∀ j v, (d0.drop (i * 2))[j]? = some v → cs[o + i * 2 + j]? = some v := fun j v hj => by
      rw [List.getElem?_drop] at hj
      have hjl : i * 2 + j < d0.length := (List.getElem?_eq_some_iff.1 hj).1
      rw [← hdd, List.getElem?_take_of_lt (by omega), List.getElem?_drop] at hj
      rw [Nat.add_assoc]
      exact hj
    have hlv : ∀ j v, d2[j]? = some v → cs2[o2 + j]? = some v := fun j v hj => by
      have hjl : j < d2.length := (List.getElem?_eq_some_iff.1 hj).1
      rw [← hdd2, List.getElem?_take_of_lt (by omega), List.getElem?_drop] at hj
      exact hj
    refine Run.skip ?_
    repeat refine Run.seq ?_
    refine Run.region ?_
    refine Ops.ex (Ex.move rfl) rfl rfl rfl ?_
    refine Ops.ex (Ex.move rfl) rfl rfl rfl ?_
    refine Ops.ex (Ex.eq (Ex.add rfl rfl) (congrArg (Value.int .i64) hw1)) rfl rfl rfl ?_
    refine Ops.ex (Ex.move rfl) rfl rfl rfl ?_
    refine Ops.ex (Ex.cap rfl rfl rfl Tryd.underlying126) rfl rfl rfl ?_
    refine Ops.ex (Ex.gtr rfl rfl) rfl rfl rfl ?_
    refine Ops.nil ?_
    repeat refine Run.seq ?_
    refine Run.cond rfl (fun hc => ?_) (fun hc => ?_)
    · -- a new row
      have hroom : c0 < p0.length + 1 := by have := of_decide_eq_true hc; omega
      have hwk : wr (((p0.length + 1 : Nat) : Int) - (i : Int)) = ((p0.length + 1 - i : Nat) : Int) := by
        have := (IntKind.wrap_i64 (((p0.length + 1 : Nat) : Int) - (i : Int))); unfold wr; rw [this]; omega
      have hci : ¬ c0 = ((0 : Int)).toNat := by omega
      repeat refine Run.seq ?_
      refine Run.region ?_
      refine Ops.ex (Ex.move rfl) rfl rfl rfl ?_
      refine Ops.ex (Ex.move rfl) rfl rfl rfl ?_
      have e1 : (Value.slice (if c0 = ((0 : Int)).toNat then (some ⟨g, o, none⟩ : Option Addr) else (some ⟨g, o, none⟩ : Option Addr).map (·.add (((0 : Int)).toNat * 2))) (((i : Int)).toNat - ((0 : Int)).toNat) (c0 - ((0 : Int)).toNat)) = .slice (some ⟨g, o, none⟩) i c0 := by
        rw [if_neg hci]
        simp [addr_lit]
      refine Ops.ex (Ex.eq (Ex.cut (i := 0) (j := (i : Int)) rfl Tryd.underlying126 szE rfl rfl (by omega) (by omega) (by omega)) e1) rfl rfl rfl ?_
      refine Ops.ex (Ex.move rfl) rfl rfl rfl ?_
      refine Ops.ex (Ex.move rfl) rfl rfl rfl ?_
      refine Ops.ex (Ex.eq (Ex.add rfl rfl) (congrArg (Value.int .i64) hw1)) rfl rfl rfl ?_
      refine Ops.ex (Ex.move rfl) rfl rfl rfl ?_
      refine Ops.ex (Ex.eq (Ex.sub rfl rfl) (congrArg (Value.int .i64) hwk)) rfl rfl rfl ?_
      have hol : (d0.take (i * 2)).length = i * 2 := by rw [List.length_take]; omega
      refine Ops.appZ (olds := d0.take (i * 2)) hst2 rfl rfl rfl rfl Tryd.underlying126 Tryd.underlying3 infE rfl (by decide) (by decide) hol (fun j v hj => ?_) (by omega) (by omega) (by omega) rfl (fun g' c' zs w5 hge hcm' hzs hst5 => ?_)
      · have hjl : j < i * 2 := by have := (List.getElem?_eq_some_iff.1 hj).1; omega
        rw [List.getElem?_take_of_lt hjl, ← hdd, List.getElem?_take_of_lt (by omega), List.getElem?_drop] at hj
        rw [addr_lit rfl]
        exact hst2.cell (i := 1) rfl hj
      have hin1 : i + (p0.length + 1 - i) = p0.length + 1 := by omega
      rw [hin1]
      refine Ops.ex (Ex.assign rfl) rfl rfl rfl ?_
      refine Ops.nil ?_
      have hnl : (d0.take (i * 2) ++ zs).length = c' * 2 := by rw [List.length_append]; omega
      replace hst5 : Ht w0 (blk g' (d0.take (i * 2) ++ zs) 153 :: frz z0 :: blk g cs 153 :: blk g2 cs2 153 :: X) w5 := hst5.perm (List.perm_append_singleton _ _)
      have hc'i : ¬ c' = ((i : Int)).toNat := by omega
      have hc'j : ¬ c' = (((i + 1 : Nat) : Int)).toNat := by omega
      have e2 : ∀ L : Int, (Value.slice (if c' = ((i : Int)).toNat then (some ⟨g', 0, none⟩ : Option Addr) else (some ⟨g', 0, none⟩ : Option Addr).map (·.add (((i : Int)).toNat * 2))) (L.toNat - ((i : Int)).toNat) (c' - ((i : Int)).toNat)) = .slice (some ⟨g', i * 2, none⟩) (L.toNat - i) (c' - i) := fun L => by
        rw [if_neg hc'i]
        simp [addr_lit]
      repeat refine Run.seq ?_
      refine Run.region ?_
      refine Ops.ex (Ex.move rfl) rfl rfl rfl ?_
      refine Ops.ex (Ex.move rfl) rfl rfl rfl ?_
      refine Ops.ex (Ex.eq (Ex.cut (i := (i : Int)) (j := ((p0.length + 1 : Nat) : Int)) rfl Tryd.underlying126 szE rfl rfl (by omega) (by omega) (by omega)) (e2 _)) rfl rfl rfl ?_
      refine Ops.ex (Ex.move rfl) rfl rfl rfl ?_
      refine Ops.copyB (m := 1) (news := d2) 0 hst5 rfl rfl rfl rfl rfl Tryd.underlying126 szE (by show Nat.min 1 _ = 1; exact Nat.min_eq_left (by omega)) hd2 (fun j v hj => by rw [addr_lit rfl]; exact hst5.cell (i := 3) rfl (hlv j v hj)) (by omega) hd12 rfl (fun w6 hst6 => ?_)
      refine Ops.nil ?_
      repeat refine Run.seq ?_
      refine Run.drawH [] (by kernel_rfl) hst6 (fun w7 hst7 => ?_)
      have e3 : (Value.slice (if c' = (((i + 1 : Nat) : Int)).toNat then (some ⟨g', 0, none⟩ : Option Addr) else (some ⟨g', 0, none⟩ : Option Addr).map (·.add ((((i + 1 : Nat) : Int)).toNat * 2))) ((((p0.length + 1 : Nat) : Int)).toNat - (((i + 1 : Nat) : Int)).toNat) (c' - (((i + 1 : Nat) : Int)).toNat)) = .slice (some ⟨g', (i + 1) * 2, none⟩) (p0.length - i) (c' - (i + 1)) := by
        rw [if_neg hc'j]
        simp [addr_lit]
      have hc0i : ¬ c0 = ((i : Int)).toNat := by omega
      have e4 : (Value.slice (if c0 = ((i : Int)).toNat then (some ⟨g, o, none⟩ : Option Addr) else (some ⟨g, o, none⟩ : Option Addr).map (·.add (((i : Int)).toNat * 2))) (((p0.length : Int)).toNat - ((i : Int)).toNat) (c0 - ((i : Int)).toNat)) = .slice (some ⟨g, o + i * 2, none⟩) (p0.length - i) (c0 - i) := by
        rw [if_neg hc0i]
        simp [addr_lit]
      refine Any.takeE 0 rfl rfl rfl rfl (by kernel_rfl) (fun _ _ _ _ _ h => h) ((Ex.move rfl).s) ?_
      refine Any.takeE 1 rfl rfl rfl rfl (by kernel_rfl) (fun _ _ _ _ _ h => h) ((Ex.move rfl).s) ?_
      refine Any.takeE 2 rfl rfl rfl rfl (by kernel_rfl) (fun _ _ _ _ _ h => h) ((Ex.move rfl).s) ?_
      refine Any.takeE 3 rfl rfl rfl rfl (by kernel_rfl) (fun _ _ _ _ _ h => h) ((Ex.eq (Ex.add rfl rfl) (congrArg (Value.int .i64) hwi)).s) ?_
      refine Any.takeE 4 rfl rfl rfl rfl (by kernel_rfl) (fun _ _ _ _ _ h => h) ((Ex.eq (Ex.cut (i := ((i + 1 : Nat) : Int)) (j := ((p0.length + 1 : Nat) : Int)) rfl Tryd.underlying126 szE rfl rfl (by omega) (by omega) (by omega)) e3).s) ?_
      refine Any.takeE 5 rfl rfl rfl rfl (by kernel_rfl) (fun _ _ _ _ _ h => h) ((Ex.move rfl).s) ?_
      refine Any.takeE 6 rfl rfl rfl rfl (by kernel_rfl) (fun _ _ _ _ _ h => h) ((Ex.move rfl).s) ?_
      refine Any.takeE 7 rfl rfl rfl rfl (by kernel_rfl) (fun _ _ _ _ _ h => h) ((Ex.eq (Ex.cut (i := (i : Int)) (j := (p0.length : Int)) rfl Tryd.underlying126 szE rfl rfl (by omega) (by omega) (by omega)) e4).s) ?_
      refine Any.one 8 (by kernel_rfl) rfl rfl (One.of_ops rfl ?_)
      have hnd : (d0.drop (i * 2)).length = (p0.length - i) * 2 := by rw [List.length_drop, Nat.sub_mul]; omega
      have hci2 : (d0.take (i * 2) ++ zs).length = ((d0.take (i * 2) ++ zs).take (i * 2) ++ d2 ++ (d0.take (i * 2) ++ zs).drop (i * 2 + d2.length)).length := by
        simp only [List.length_append, List.length_take, List.length_drop]
        omega
      refine Ops.copyB (m := p0.length - i) (news := d0.drop (i * 2)) 0 hst7 rfl rfl rfl rfl rfl Tryd.underlying126 szE (Nat.min_self _) hnd (fun j v hj => by rw [addr_lit rfl]; exact hst7.cell (i := 2) rfl (hld j v hj)) (by omega) (fun v hv => hd1 v (List.mem_of_mem_drop hv)) rfl (fun w8 hst8 => ?_)
      refine Ops.stop ?_
      refine ⟨trivial, ?_⟩
      refine Any.done (by kernel_rfl) ?_
      repeat refine Run.seq ?_
      refine Run.region ?_
      refine Ops.ex (Ex.move rfl) rfl rfl rfl ?_
      refine Ops.ex (Ex.assign rfl) rfl rfl rfl ?_
      refine Ops.nil ?_
      have hal : (d0.take (i * 2)).length = i * 2 := hol
      have hD : (d0.drop (i * 2)).length = (p0.length - i) * 2 := hnd
      have hlay := lay3 (d0.take (i * 2)) d2 (d0.drop (i * 2)) zs
      rw [hal, hd2] at hlay
      have hs1 : i * 2 + 1 * 2 = (i + 1) * 2 := by omega
      have hs2 : (i + 1) * 2 + (d0.drop (i * 2)).length = (p0.length + 1) * 2 := by rw [hD, Nat.sub_mul]; omega
      rw [hs1, hs2] at hlay
      have h8 := hst8
      have hfit8 : 0 + c' * 2 ≤ (((d0.take (i * 2) ++ zs).take (i * 2) ++ d2 ++ (d0.take (i * 2) ++ zs).drop (i * 2 + d2.length)).take ((i + 1) * 2) ++ d0.drop (i * 2) ++ ((d0.take (i * 2) ++ zs).take (i * 2) ++ d2 ++ (d0.take (i * 2) ++ zs).drop (i * 2 + d2.length)).drop ((i + 1) * 2 + (d0.drop (i * 2)).length)).length := by
        simp only [List.length_append, List.length_take, List.length_drop]
        omega
      have hone : ∀ u ∈ d0.take (i * 2) ++ d2 ++ d0.drop (i * 2), u.oneCell' = true := fun u hu => by
        rcases List.mem_append.1 hu with hu | hu
        · rcases List.mem_append.1 hu with hu | hu
          · exact hd1 u (List.mem_of_mem_take hu)
          · exact hd12 u hu
        · exact hd1 u (List.mem_of_mem_drop hu)
      have hdd9 : (d0.take (i * 2) ++ d2 ++ d0.drop (i * 2)).length = (p0.length + 1) * 2 := by
        simp only [List.length_append]
        omega
      have hst9 := St.toRow (l := p0.length + 1) (sz := 2) (c := c') (o := 0) (g := g') (dd := d0.take (i * 2) ++ d2 ++ d0.drop (i * 2)) h8 0 rfl (by omega) hcm' hfit8 (by rw [List.drop_zero, hs2, hd2, hs1]; exact hlay) hdd9 hone
      have hst10 : Ht w0 (orow 153 2 (.slice (some ⟨g', 0, none⟩) (p0.length + 1) c') (p0.length + 1) (d0.take (i * 2) ++ d2 ++ d0.drop (i * 2)) :: frz z0 :: X) w8 := hst9.sub (List.Sublist.cons_cons _ (List.Sublist.cons_cons _ (List.Sublist.cons _ (List.Sublist.cons _ (List.Sublist.refl _)))))
      have hst11 := hst10.perm (List.Perm.swap _ _ _)
      rw [hin']
      have hrl' : (p0.take i ++ x :: p0.drop i).length = p0.length + 1 := by rw [← hin']; exact hrl
      rw [hrl']
      exact Run.retV [.slice (some ⟨g', 0, none⟩) (p0.length + 1) c'] rfl ⟨rfl, trivial⟩ ⟨z0, _, _, _, rfl, Le.refl _, hins, hst11⟩
    · -- there is room
      have hroom : p0.length + 1 ≤ c0 := by have := of_decide_eq_false hc; omega
      have hc00 : ¬ c0 = ((0 : Int)).toNat := by omega
      have hc01 : ¬ c0 = (((i + 1 : Nat) : Int)).toNat := by omega
      have hc0i : ¬ c0 = ((i : Int)).toNat := by omega
      have hgg : ¬ g2 = g := by
        intro he
        have h1 := (List.pairwise_cons.1 (List.pairwise_cons.1 hst2.dis).2).1 (blk g2 cs2 153) (by simp) g rfl
        exact h1 he.symm
      refine Run.skip ?_
      repeat refine Run.seq ?_
      refine Run.region ?_
      refine Ops.ex (Ex.move rfl) rfl rfl rfl ?_
      refine Ops.ex (Ex.move rfl) rfl rfl rfl ?_
      refine Ops.ex (Ex.move rfl) rfl rfl rfl ?_
      refine Ops.ex (Ex.eq (Ex.add rfl rfl) (congrArg (Value.int .i64) hw1)) rfl rfl rfl ?_
      have e1 : (Value.slice (if c0 = ((0 : Int)).toNat then (some ⟨g, o, none⟩ : Option Addr) else (some ⟨g, o, none⟩ : Option Addr).map (·.add (((0 : Int)).toNat * 2))) ((((p0.length + 1 : Nat) : Int)).toNat - ((0 : Int)).toNat) (c0 - ((0 : Int)).toNat)) = .slice (some ⟨g, o, none⟩) (p0.length + 1) c0 := by
        rw [if_neg hc00]
        simp [addr_lit]
      refine Ops.ex (Ex.eq (Ex.cut (i := 0) (j := ((p0.length + 1 : Nat) : Int)) rfl Tryd.underlying126 szE rfl rfl (by omega) (by omega) (by omega)) e1) rfl rfl rfl ?_
      refine Ops.ex (Ex.assign rfl) rfl rfl rfl ?_
      refine Ops.nil ?_
      have e2 : (Value.slice (if c0 = (((i + 1 : Nat) : Int)).toNat then (some ⟨g, o, none⟩ : Option Addr) else (some ⟨g, o, none⟩ : Option Addr).map (·.add ((((i + 1 : Nat) : Int)).toNat * 2))) ((((p0.length + 1 : Nat) : Int)).toNat - (((i + 1 : Nat) : Int)).toNat) (c0 - (((i + 1 : Nat) : Int)).toNat)) = .slice (some ⟨g, o + (i + 1) * 2, none⟩) (p0.length - i) (c0 - (i + 1)) := by
        rw [if_neg hc01]
        simp [addr_lit]
      have e3 : (Value.slice (if c0 = ((i : Int)).toNat then (some ⟨g, o, none⟩ : Option Addr) else (some ⟨g, o, none⟩ : Option Addr).map (·.add (((i : Int)).toNat * 2))) ((((p0.length + 1 : Nat) : Int)).toNat - ((i : Int)).toNat) (c0 - ((i : Int)).toNat)) = .slice (some ⟨g, o + i * 2, none⟩) (p0.length + 1 - i) (c0 - i) := by
        rw [if_neg hc0i]
        simp [addr_lit]
      have hbg : w.heap[g]? = some (.cells cs.toArray 153 (0, 0)) := hst2.get (i := 1) rfl
      have hbg2 : w.heap[g2]? = some (.cells cs2.toArray 153 (0, 0)) := hst2.get (i := 2) rfl
      have hov : (callFunc 88 #[.slice (some ⟨g2, o2, none⟩) 1 c2, .slice (some ⟨g, o + (i + 1) * 2, none⟩) (p0.length - i) (c0 - (i + 1))]).run Tryd.prog w = .ok (.value (.bool false)) w := by
        rw [run_callFunc_extern Tryd.func88 (by kernel_rfl) (by kernel_rfl) (by kernel_rfl) (e := Extern.SlicesOverlaps.overlaps #[126, 126] #[4]) (by kernel_rfl),
          Lib.run_overlaps_apart w 126 4 153 Tryd.underlying126 2 (fun w => Go.Proofs.YtfomkndngnfneaaDoor.Sx.run_sizeOf szE w) ⟨g2, o2, none⟩ ⟨g, o + (i + 1) * 2, none⟩ 1 c2 (p0.length - i) (c0 - (i + 1)) hgg 153 153 cs2.length cs.length (by simp [World.shape?, hbg2]) (by simp [World.shape?, hbg]) (by omega) (Lib.frozen_of_heap hbg2 _) (Lib.frozen_of_heap hbg2 _)]
        rfl
      repeat refine Run.seq ?_
      refine Run.region ?_
      refine Ops.ex (Ex.move rfl) rfl rfl rfl ?_
      refine Ops.ex (Ex.move rfl) rfl rfl rfl ?_
      refine Ops.ex (Ex.move rfl) rfl rfl rfl ?_
      refine Ops.ex (Ex.move rfl) rfl rfl rfl ?_
      refine Ops.ex (Ex.eq (Ex.add rfl rfl) (congrArg (Value.int .i64) hwi)) rfl rfl rfl ?_
      refine Ops.ex (Ex.eq (Ex.cut (i := ((i + 1 : Nat) : Int)) (j := ((p0.length + 1 : Nat) : Int)) rfl Tryd.underlying126 szE rfl rfl (by omega) (by omega) (by omega)) e2) rfl rfl rfl ?_
      refine Ops.callX rfl rfl hov rfl ?_
      refine Ops.ex (Ex.not rfl) rfl rfl rfl ?_
      refine Ops.nil ?_
      repeat refine Run.seq ?_
      refine Run.condT rfl rfl ?_
      repeat refine Run.seq ?_
      refine Run.drawH [] (by kernel_rfl) hst2 (fun w7 hst7 => ?_)
      refine Any.takeE 0 rfl rfl rfl rfl (by kernel_rfl) (fun _ _ _ _ _ h => h) ((Ex.move rfl).s) ?_
      refine Any.takeE 1 rfl rfl rfl rfl (by kernel_rfl) (fun _ _ _ _ _ h => h) ((Ex.move rfl).s) ?_
      refine Any.takeE 2 rfl rfl rfl rfl (by kernel_rfl) (fun _ _ _ _ _ h => h) ((Ex.move rfl).s) ?_
      refine Any.takeE 3 rfl rfl rfl rfl (by kernel_rfl) (fun _ _ _ _ _ h => h) ((Ex.eq (Ex.add rfl rfl) (congrArg (Value.int .i64) hwi)).s) ?_
      refine Any.takeE 4 rfl rfl rfl rfl (by kernel_rfl) (fun _ _ _ _ _ h => h) ((Ex.eq (Ex.cut (i := ((i + 1 : Nat) : Int)) (j := ((p0.length + 1 : Nat) : Int)) rfl Tryd.underlying126 szE rfl rfl (by omega) (by omega) (by omega)) e2).s) ?_
      refine Any.takeE 5 rfl rfl rfl rfl (by kernel_rfl) (fun _ _ _ _ _ h => h) ((Ex.move rfl).s) ?_
      refine Any.takeE 6 rfl rfl rfl rfl (by kernel_rfl) (fun _ _ _ _ _ h => h) ((Ex.move rfl).s) ?_
      refine Any.takeE 7 rfl rfl rfl rfl (by kernel_rfl) (fun _ _ _ _ _ h => h) ((Ex.eq (Ex.cut (i := (i : Int)) (j := ((p0.length + 1 : Nat) : Int)) rfl Tryd.underlying126 szE rfl rfl (by omega) (by omega) (by omega)) e3).s) ?_
      refine Any.one 8 (by kernel_rfl) rfl rfl (One.of_ops rfl ?_)
      have hnd : (d0.drop (i * 2)).length = (p0.length - i) * 2 := by rw [List.length_drop, Nat.sub_mul]; omega
      have hlc0 : (p0.length + 1) * 2 ≤ c0 * 2 := Nat.mul_le_mul_right _ hroom
      have hni : (p0.length - i) * 2 = p0.length * 2 - i * 2 := Nat.sub_mul _ _ _
      refine Ops.copyB (m := p0.length - i) (news := d0.drop (i * 2)) 1 hst7 rfl rfl rfl rfl rfl Tryd.underlying126 szE (Nat.min_eq_right (by omega)) hnd (fun j v hj => by rw [addr_lit rfl]; exact hst7.cell (i := 1) rfl (hld j v hj)) (by omega) (fun v hv => hd1 v (List.mem_of_mem_drop hv)) rfl (fun w8 hst8 => ?_)
      refine Ops.stop ?_
      refine ⟨trivial, ?_⟩
      refine Any.done (by kernel_rfl) ?_
      repeat refine Run.seq ?_
      refine Run.region ?_
      refine Ops.ex (Ex.move rfl) rfl rfl rfl ?_
      refine Ops.ex (Ex.move rfl) rfl rfl rfl ?_
      refine Ops.ex (Ex.eq (Ex.cut (i := (i : Int)) (j := ((p0.length + 1 : Nat) : Int)) rfl Tryd.underlying126 szE rfl rfl (by omega) (by omega) (by omega)) e3) rfl rfl rfl ?_
      refine Ops.ex (Ex.move rfl) rfl rfl rfl ?_
      have hl8 : (cs.take (o + (i + 1) * 2) ++ d0.drop (i * 2) ++ cs.drop (o + (i + 1) * 2 + (d0.drop (i * 2)).length)).length = cs.length := by
        simp only [List.length_append, List.length_take, List.length_drop]
        omega
      refine Ops.copyB (m := 1) (news := d2) 1 hst8 rfl rfl rfl rfl rfl Tryd.underlying126 szE (by show Nat.min 1 _ = 1; exact Nat.min_eq_left (by omega)) hd2 (fun j v hj => by rw [addr_lit rfl]; exact hst8.cell (i := 2) rfl (hlv j v hj)) (by omega) hd12 rfl (fun w9 hst9 => ?_)
      refine Ops.nil ?_
      repeat refine Run.seq ?_
      refine Run.region ?_
      refine Ops.ex (Ex.move rfl) rfl rfl rfl ?_
      refine Ops.ex (Ex.assign rfl) rfl rfl rfl ?_
      refine Ops.nil ?_
      have hdt : (cs.drop o).take (i * 2) = d0.take (i * 2) := by
        rw [← hdd, List.take_take]
        congr 1
        omega
      have hal : (d0.take (i * 2)).length = i * 2 := by rw [List.length_take]; omega
      have hlay := lay4 (D := d0.drop (i * 2)) (k := 1 * 2) hdt hal hd2 (by omega)
      have hs1 : o + i * 2 + 1 * 2 = o + (i + 1) * 2 := by omega
      have hs2 : i * 2 + 1 * 2 + (d0.drop (i * 2)).length = (p0.length + 1) * 2 := by rw [hnd, hni]; omega
      rw [hs1, hs2] at hlay
      have hone : ∀ u ∈ d0.take (i * 2) ++ d2 ++ d0.drop (i * 2), u.oneCell' = true := fun u hu => by
        rcases List.mem_append.1 hu with hu | hu
        · rcases List.mem_append.1 hu with hu | hu
          · exact hd1 u (List.mem_of_mem_take hu)
          · exact hd12 u hu
        · exact hd1 u (List.mem_of_mem_drop hu)
      have hdd9 : (d0.take (i * 2) ++ d2 ++ d0.drop (i * 2)).length = (p0.length + 1) * 2 := by
        simp only [List.length_append]
        omega
      have hst10 := St.toRow (l := p0.length + 1) (sz := 2) (c := c0) (o := o) (g := g) (dd := d0.take (i * 2) ++ d2 ++ d0.drop (i * 2)) hst9 1 rfl hroom hcm (by simp only [List.length_append, List.length_take, List.length_drop]; omega) hlay hdd9 hone
      have hst11 : Ht w0 (frz z0 :: orow 153 2 (.slice (some ⟨g, o, none⟩) (p0.length + 1) c0) (p0.length + 1) (d0.take (i * 2) ++ d2 ++ d0.drop (i * 2)) :: X) w9 := hst10.sub (List.Sublist.cons_cons _ (List.Sublist.cons_cons _ (List.Sublist.cons _ (List.Sublist.refl _))))
      rw [hin']
      have hrl' : (p0.take i ++ x :: p0.drop i).length = p0.length + 1 := by rw [← hin']; exact hrl
      rw [hrl']
      exact Run.retV [.slice (some ⟨g, o, none⟩) (p0.length + 1) c0] rfl ⟨rfl, trivial⟩ ⟨z0, _, _, _, rfl, Le.refl _, hins, hst11⟩
end Go.Proofs.YtfomkndngnfneaaDoor.InsS
