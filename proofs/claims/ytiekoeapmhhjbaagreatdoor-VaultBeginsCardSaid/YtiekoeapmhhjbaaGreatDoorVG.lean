/- VaultBegins: whatever the four bytes. -/
import Derived.Test.YtiekoeapmhhjbaaGreatDoorVB
import Derived.Test.YtiekoeapmhhjbaaGreatDoorVC
import Derived.Test.YtiekoeapmhhjbaaGreatDoorVD
import Derived.Test.YtiekoeapmhhjbaaGreatDoorVE
import Derived.Test.YtiekoeapmhhjbaaGreatDoorVF
namespace Go.Proofs.YtiekoeapmhhjbaaGreatDoor.X
open Go Go.RowKit
set_option linter.unusedVariables false
set_option linter.unusedSimpArgs false
set_option maxRecDepth 100000
set_option maxHeartbeats 0
section
variable {c : Ctx} {Γ Γ0 : Gm} {m : M} {w : World} {e : En} {ds : List Nat} {a : Act} {sz : Nat}
theorem end_okE {E : Ending → World → Prop} (hR : Rel c Γ m w) (ha : HasE c.ν Γ sz e ds a) {fn : Func} {K : Kt} (hE : ∀ x w', Ends c Γ K x w' → E x w') (hy : Yes (endF fn.results.toList K e ds m)) : LeavesInM (Fw none) 0 P fn a.tmps E a.defers .returning w := by
  have hy' : Yes (oc (shut ds m) none fun m => oc (resL e m fn.results.toList) none fun l => K (tupV l) m) := hy
  obtain ⟨m1, h1, h2⟩ := yes_oc hy'
  obtain ⟨l, h3, h4⟩ := yes_oc h2
  obtain ⟨L, hL, hM⟩ := ha.defers
  obtain ⟨w1, hR1, hS⟩ := shut_ok hR hM h1
  obtain ⟨x, hx, hr⟩ := results_ok hR1 ha h3
  rw [hL]
  exact Sx.leaves_of_shut hS hr (hE _ _ ⟨_, x, m1, Γ, rfl, LeG.refl _, hR1, hx, h4⟩)
end
/-- What is to be shown of the whole is so where the law ends. -/
def EndsQ (W : World) (Q : Exit → Act → World → Prop) : Prop := ∀ (N : Nm) (r : Nat → Blk) (Γ : Gm) (m : M) (w : World) (e : En) (ds : List Nat) (a : Act), Rel (ctxC N W r) Γ m w → HasE (N.ν W) Γ sz3 e ds a → Yes (endF Tryz.f3.results.toList finK e ds m) → Q .normal a w ∧ Q .ret a w
theorem rest_ok {W : World} {I : In4} {S : Cn} (hS : Yes (st3 S)) {Q : Exit → Act → World → Prop} (hQ : EndsQ W Q) {a : Act} {w : World} (hA : AtC W I S a w) : (tl 10).wpIn (Fw none) 0 P Q a w := by
  obtain ⟨Γ, z, hz, H⟩ := hA
  obtain ⟨hR, hE⟩ := H 0 ⟨0, by decide⟩
  unfold st3 xx at hS
  refine code_ok facts (drawOK facts) hk_ok (exec_ok facts (drawOK facts) hk_ok 1000000) (tl 10) _ sz3 none none _ [] _ _ _ Γ a w Q rfl hR hE ?_ ?_ hS
  · intro Γ' e' ds' m' a' w' hl hR' hE' hy'
    exact (hQ _ _ Γ' m' w' e' ds' a' hR' hE' hy').1
  · intro r Γ' e' ds' m' a' w' hne hl hR' hE' hy'
    cases r with
    | normal => exact absurd rfl hne
    | exit id => exact (yes_none hy').elim
    | ret => exact (hQ _ _ Γ' m' w' e' ds' a' hR' hE' hy').2
theorem env3 : gE 3 (mkE envC) = .opq 2903 := by kernel_rfl
theorem two_ok {W : World} (h6 : Start W) {I : In4} {S : Cn} (hS : ∀ s, s < 16 → Yes (st2 tab2 S s)) {Q : Exit → Act → World → Prop} {a : Act} {w : World} (hA : AtC W I S a w)
    (hC : ∀ S ∈ tab2, ∀ a' w', AtC W I S a' w' → (tl 10).wpIn (Fw none) 0 P Q a' w') : (tl 7).wpIn (Fw none) 0 P Q a w := by
  obtain ⟨Γ, z, hz, H⟩ := hA
  obtain ⟨hR, hE⟩ := H (I.bytes / 2) ⟨I.again, I.h3⟩
  have hy := hS (I.again % 16) (Nat.mod_lt _ (by decide))
  unfold st2 at hy
  have k3 := hE.at_ 3
  rw [env3, DV] at k3
  have e3 := mu_2903 (((nmOf I z hz (I.bytes / 2) ⟨I.again, I.h3⟩).mu W (by decide)).1 k3.1)
  have hE2 : HasE (ctxC (nmOf I z hz (I.bytes / 2) ⟨I.again, I.h3⟩) W (mkM S.n S.bs).get).ν Γ sz3 (uE 3 (.opq (2000 + I.again % 16)) (mkE envC)) [] a := by
    refine hasE_sub hE ?_
    rw [e3, DV]
    exact ⟨((nmOf I z hz (I.bytes / 2) ⟨I.again, I.h3⟩).mu W (by omega)).2 (.inl ⟨rfl, rfl⟩), rfl⟩
  rw [tl7]
  refine seqR_ok hk_ok hR hE2 hy fun Γ1 e1 ds1 m1 a1 w1 hR1 hE1 hy1 => ?_
  rw [tl8]
  refine seqR_ok hk_ok hR1 hE1 hy1 fun Γ2 e2 ds2 m2 a2 w2 hR2 hE2 hy2 => ?_
  rw [tl9]
  refine varR_ok hk_ok h6 (ns2_ok I.h1) (fun k hk hb => ?_) (fun x hx => mu_s hx) (Nat.le_add_right _ _) hR2 hE2 hy2 hC
  have e1 : f2 k = 12 + k := rfl
  rw [e1]
  refine ⟨by omega, ?_, ?_⟩
  · rw [show (12 + k) / 4 = 3 from by omega]; exact bc_three _ _
  · rw [show (12 + k) % 4 = k from by omega]; exact hb
theorem one_ok {W : World} (h6 : Start W) {I : In4} (hS : ∀ s, s < 16 → Yes (st1 tab1 s)) {Q : Exit → Act → World → Prop} {a : Act} {Γ : Gm} {m : M} {w : World}
    (hR : Rel (ctxC (nmOf I 0 (by decide) I.bytes ⟨I.stop, I.h0⟩) W fun _ => .dead) startG nilM w)
    (hE : HasE ((nmOf I 0 (by decide) I.bytes ⟨I.stop, I.h0⟩).ν W) startG sz3 (argT [.opq (2000 + I.stop % 16), .opq 2901, .opq 2902, .opq 2903]) [] a)
    (hC : ∀ S ∈ tab1, ∀ a' w', AtC W I S a' w' → (tl 7).wpIn (Fw none) 0 P Q a' w') : q3.wpIn (Fw none) 0 P Q a w := by
  have hy := hS (I.stop % 16) (Nat.mod_lt _ (by decide))
  unfold st1 at hy
  rw [tl0]
  refine seqR_ok hk_ok hR hE hy fun Γ1 e1 ds1 m1 a1 w1 hR1 hE1 hy1 => ?_
  rw [tl1]
  refine seqR_ok hk_ok hR1 hE1 hy1 fun Γ2 e2 ds2 m2 a2 w2 hR2 hE2 hy2 => ?_
  rw [tl2]
  refine seqR_ok hk_ok hR2 hE2 hy2 fun Γ3 e3 ds3 m3 a3 w3 hR3 hE3 hy3 => ?_
  rw [tl3]
  refine seqR_ok hk_ok hR3 hE3 hy3 fun Γ4 e4 ds4 m4 a4 w4 hR4 hE4 hy4 => ?_
  rw [tl4]
  refine seqR_ok hk_ok hR4 hE4 hy4 fun Γ5 e5 ds5 m5 a5 w5 hR5 hE5 hy5 => ?_
  rw [tl5]
  refine seqR_ok hk_ok hR5 hE5 hy5 fun Γ6 e6 ds6 m6 a6 w6 hR6 hE6 hy6 => ?_
  rw [tl6]
  refine varR_ok hk_ok h6 (ns1_ok I.h1) (fun k hk hb => ?_) (fun x hx => mu_2903 hx) (by decide) hR6 hE6 hy6 hC
  have e1 : f1 k = k * 4 + 3 := rfl
  rw [e1]
  refine ⟨by omega, ?_, ?_⟩
  · rw [show (k * 4 + 3) / 4 = k from by omega]; exact hb
  · rw [show (k * 4 + 3) % 4 = 3 from by omega]; exact bc_three _ _
theorem four {p : Nat → Bool} (h0 : allF p 4 0 = true) (h1 : allF p 4 4 = true) (h2 : allF p 4 8 = true) (h3 : allF p 4 12 = true) (s : Nat) (h : s < 16) : p s = true := by
  rcases Nat.lt_or_ge s 4 with a | a
  · exact allF_spec h0 s (by omega) (by omega)
  rcases Nat.lt_or_ge s 8 with b | b
  · exact allF_spec h1 s (by omega) (by omega)
  rcases Nat.lt_or_ge s 12 with d | d
  · exact allF_spec h2 s (by omega) (by omega)
  · exact allF_spec h3 s (by omega) (by omega)
theorem all1 (s : Nat) (h : s < 16) : Yes (st1 tab1 s) := okA_yes (four (p := fun s => okA (st1 tab1 s)) s1_0 s1_1 s1_2 s1_3 s h)
theorem all2 (S : Cn) (hS : S ∈ tab1) (s : Nat) (h : s < 16) : Yes (st2 tab2 S s) := by
  have hS : S ∈ [cnE 100 0, cnT 100 0 1, cnP 100 1 2, cnPT 100 1 2 3, cnPJ 100 1 3 4] := hS
  simp only [List.mem_cons, List.not_mem_nil, or_false] at hS
  rcases hS with rfl | rfl | rfl | rfl | rfl
  · exact okA_yes (four (p := fun s => okA (st2 tab2 (cnE 100 0) s)) s2_0_0 s2_0_1 s2_0_2 s2_0_3 s h)
  · exact okA_yes (four (p := fun s => okA (st2 tab2 (cnT 100 0 1) s)) s2_1_0 s2_1_1 s2_1_2 s2_1_3 s h)
  · exact okA_yes (four (p := fun s => okA (st2 tab2 (cnP 100 1 2) s)) s2_2_0 s2_2_1 s2_2_2 s2_2_3 s h)
  · exact okA_yes (four (p := fun s => okA (st2 tab2 (cnPT 100 1 2 3) s)) s2_3_0 s2_3_1 s2_3_2 s2_3_3 s h)
  · exact okA_yes (four (p := fun s => okA (st2 tab2 (cnPJ 100 1 3 4) s)) s2_4_0 s2_4_1 s2_4_2 s2_4_3 s h)
theorem all3 (S : Cn) (hS : S ∈ tab2) : Yes (st3 S) := by
  have hS : S ∈ cns 1000 0 ++ (cns 1000 1 ++ (cns 1000 2 ++ cns 1000 3)) := by
    have e : tab2 = cns 1000 0 ++ (cns 1000 1 ++ (cns 1000 2 ++ cns 1000 3)) := by
      unfold tab2
      rw [lapp_eq, lapp_eq, lapp_eq]
    rw [← e]
    exact hS
  simp only [List.mem_append] at hS
  refine okA_yes ?_
  rcases hS with h | h | h | h
  · exact allB_spec s3_0 S h
  · exact allB_spec s3_1 S h
  · exact allB_spec s3_2 S h
  · exact allB_spec s3_3 S h
theorem vaultBegins_calls {W : World} (h6 : Start W) (x0 x1 x2 x3 : Int) (a0 : 0 ≤ x0) (b0 : x0 < 256) (a1 : 0 ≤ x1) (b1 : x1 < 256) (a2 : 0 ≤ x2) (b2 : x2 < 256) (a3 : 0 ≤ x3) (b3 : x3 < 256) :
    Calls P 3 #[.int .u8 x0, .int .u8 x1, .int .u8 x2, .int .u8 x3] W fun x W' => x = .returned (.bool true) ∧ Below W.heap.size W W' := by
  obtain ⟨n0, rfl⟩ : ∃ n : Nat, x0 = n := ⟨x0.toNat, by omega⟩
  obtain ⟨n1, rfl⟩ : ∃ n : Nat, x1 = n := ⟨x1.toNat, by omega⟩
  obtain ⟨n2, rfl⟩ : ∃ n : Nat, x2 = n := ⟨x2.toNat, by omega⟩
  obtain ⟨n3, rfl⟩ : ∃ n : Nat, x3 = n := ⟨x3.toNat, by omega⟩
  obtain ⟨I, hI⟩ : ∃ I : In4, I = ⟨n0, n1, n2, n3, by omega, by omega, by omega, by omega⟩ := ⟨_, rfl⟩
  obtain ⟨N, hN⟩ : ∃ N : Nm, N = nmOf I 0 (by decide) I.bytes ⟨I.stop, I.h0⟩ := ⟨_, rfl⟩
  have hR : Rel (ctxC N W fun _ => .dead) startG nilM W := start_rel N h6
  have op : ∀ i x, 2000 ≤ i → x.oneCell' = true → N.μ i x → DV (N.ν W) startG (.opq i) x := fun i x hi h1 hm => by
    rw [DV]
    exact ⟨(N.mu W hi).2 hm, h1⟩
  have hv : DVL (N.ν W) startG [.opq (2000 + I.stop % 16), .opq 2901, .opq 2902, .opq 2903] [u8v n0, u8v n1, u8v n2, u8v n3] := by
    refine DVL.cons (op _ _ (by omega) rfl ?_) (DVL.cons (op _ _ (by decide) rfl ?_) (DVL.cons (op _ _ (by decide) rfl ?_) (DVL.cons (op _ _ (by decide) rfl ?_) DVL.nil)))
    · rw [hN, hI]; exact .inl ⟨rfl, rfl⟩
    · rw [hN, hI]; exact .inr (.inr (.inr (.inr (.inl ⟨rfl, rfl⟩))))
    · rw [hN, hI]; exact .inr (.inr (.inr (.inr (.inr (.inl ⟨rfl, rfl⟩)))))
    · rw [hN, hI]; exact .inr (.inr (.inr (.inr (.inr (.inr ⟨rfl, rfl⟩)))))
  have hf : P.funcs[3]? = some Tryz.f3 := by kernel_rfl
  have hnt : (4 : Nat) ≤ Tryz.f3.ntmps := Nat.le_of_ble_eq_true (by kernel_rfl)
  have ha := hasE_args (ν := N.ν W) hv (n := Tryz.f3.ntmps) hnt
  show Calls P 3 [u8v n0, u8v n1, u8v n2, u8v n3].toArray W _
  refine (callsIn_wide (n := 0)).1 (callsIn_of_wp_marks (F := Fw none) hf q3_body trivial ?_ rfl)
  subst hN
  refine one_ok (Γ := startG) (m := nilM) h6 all1 hR ha fun S hS a' w' hA => two_ok h6 (all2 S hS) hA fun S' hS' a'' w'' hA' => rest_ok (all3 S' hS') ?_ hA'
  intro N' r Γ' m' w1 e' ds' b hR' hE' hy'
  have hE : ∀ x w', Ends (ctxC N' W r) Γ' finK x w' → x = .returned (.bool true) ∧ Below W.heap.size W w' := fun x w' h => by
    obtain ⟨v, y, m2, Γ2, rfl, hl, hR2, hy2, hk2⟩ := h
    obtain ⟨h4, _⟩ := yes_bi hk2
    have := leV_ok h4 hy2
    rw [dv_bool (c := ctxC N' W r) this]
    exact ⟨rfl, end_below hR2 rfl fun _ => rfl⟩
  exact ⟨end_okE (c := ctxC N' W r) hR' hE' hE hy', end_okE (c := ctxC N' W r) hR' hE' hE hy'⟩
end Go.Proofs.YtiekoeapmhhjbaaGreatDoor.X
