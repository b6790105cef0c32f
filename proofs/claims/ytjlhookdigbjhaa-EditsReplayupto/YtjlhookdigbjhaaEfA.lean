/- Bytes of numbers, texts and edits: what the writer lays and the reader reads, in plain words. -/
import Derived.Test.YtjlhookdigbjhaaEdB
import Derived.Test.YtjlhookdigbjhaaE6
namespace Go.Proofs.Ytjlhookdigbjhaa.Ef
open Go Go.Proofs Go.Proofs.Ytjlhookdigbjhaa.Sx Go.Proofs.Ytjlhookdigbjhaa.E1 Go.Proofs.Ytjlhookdigbjhaa.S1 Go.Proofs.Ytjlhookdigbjhaa.E2 Go.Proofs.Ytjlhookdigbjhaa.E3 Go.Proofs.Ytjlhookdigbjhaa.E4 Go.Proofs.Ytjlhookdigbjhaa.E5 Go.Proofs.Ytjlhookdigbjhaa.E6 Go.Proofs.Ytjlhookdigbjhaa.Ed
set_option linter.unusedVariables false
set_option linter.unusedSimpArgs false
/-! ### Numbers -/
/-- A digit of base 256. -/
def dg (n : Int) (k : Nat) : UInt8 := toU8 (n / 256 ^ k)
def num8 (n : Int) : List UInt8 := [dg n 7, dg n 6, dg n 5, dg n 4, dg n 3, dg n 2, dg n 1, dg n 0]
theorem num8_len (n : Int) : (num8 n).length = 8 := rfl
/-- The number of bytes, the greatest first. -/
def ofB (l : List UInt8) : Int := l.foldl (fun n c => n * 256 + (c.toNat : Int)) 0
def dec8 (l : List UInt8) : Int := l.foldl (fun n c => orI (wr (n * 256)) (c.toNat : Int)) 0
theorem toU8_nat (x : Int) : ((toU8 x).toNat : Int) = x % 256 := by
  have := wrap_toU8 x
  simp [IntKind.wrap, IntKind.bits, IntKind.signed] at this
  omega
theorem toU8_eq {x : Int} {c : UInt8} (h : x % 256 = (c.toNat : Int)) : toU8 x = c := by
  apply UInt8.toNat_inj.1
  have := toU8_nat x
  omega
theorem wr_mod (x : Int) : (wr x) % 18446744073709551616 = x % 18446744073709551616 := by
  simp [wr, IntKind.wrap, IntKind.bits, IntKind.signed]
  split <;> omega
theorem wr_rng (x : Int) : -9223372036854775808 ≤ wr x ∧ wr x ≤ 9223372036854775807 := by
  simp [wr, IntKind.wrap, IntKind.bits, IntKind.signed]
  split <;> omega
theorem wr_eq {x y : Int} (h : x % 18446744073709551616 = y % 18446744073709551616) : wr x = wr y := by
  have h1 := wr_mod x
  have h2 := wr_mod y
  have h3 := wr_rng x
  have h4 := wr_rng y
  omega
theorem wr_in {x : Int} (h : -9223372036854775808 ≤ x) (h' : x ≤ 9223372036854775807) : wr x = x := by
  have h1 := wr_mod x
  have h3 := wr_rng x
  omega
theorem or_low (a : BitVec 64) (c : UInt8) (h : a.toNat % 256 = 0) : (a ||| BitVec.ofNat 64 c.toNat).toNat = a.toNat + c.toNat := by
  have hc : c.toNat < 256 := c.toNat_lt
  rw [BitVec.toNat_or, BitVec.toNat_ofNat, Nat.mod_eq_of_lt (by omega)]
  have h1 : a.toNat = 2 ^ 8 * (a.toNat / 256) := by omega
  rw [h1, ← Nat.two_pow_add_eq_or_of_lt (i := 8) (by simpa using hc)]
theorem orI_low (n : Int) (c : UInt8) : orI (wr (n * 256)) (c.toNat : Int) = wr (n * 256 + (c.toNat : Int)) := by
  have hc : c.toNat < 256 := c.toNat_lt
  unfold orI
  have e1 : BitVec.ofInt 64 (c.toNat : Int) = BitVec.ofNat 64 c.toNat := by simp [BitVec.ofInt_natCast]
  have e2 : (BitVec.ofInt 64 (wr (n * 256))).toNat = ((n * 256) % 18446744073709551616).toNat := by
    rw [BitVec.toNat_ofInt]
    have := wr_mod (n * 256)
    simp only [Nat.reducePow]
    omega
  rw [e1, or_low _ _ (by rw [e2]; omega), e2]
  apply wr_eq
  omega
theorem dec_of (l : List UInt8) : dec8 l = wr (ofB l) := by
  have key : ∀ (l : List UInt8) (m n : Int), m = wr n → l.foldl (fun n c => orI (wr (n * 256)) (c.toNat : Int)) m = wr (l.foldl (fun n c => n * 256 + (c.toNat : Int)) n) := by
    intro l
    induction l with
    | nil => intro m n h; exact h
    | cons c l ih =>
      intro m n h
      rw [List.foldl_cons, List.foldl_cons]
      apply ih
      rw [orI_low]
      apply wr_eq
      have := wr_mod n
      rw [h]
      omega
  exact key l 0 0 (by decide)
theorem dg_mod {m n : Int} (h : m % 18446744073709551616 = n % 18446744073709551616) (k : Nat) (hk : k < 8) : dg m k = dg n k := by
  apply toU8_eq
  have := toU8_nat (n / 256 ^ k)
  rw [show ((dg n k).toNat : Int) = n / 256 ^ k % 256 from this]
  match k, hk with
  | 0, _ => omega
  | 1, _ => omega
  | 2, _ => omega
  | 3, _ => omega
  | 4, _ => omega
  | 5, _ => omega
  | 6, _ => omega
  | 7, _ => omega
theorem num8_mod {m n : Int} (h : m % 18446744073709551616 = n % 18446744073709551616) : num8 m = num8 n := by
  unfold num8
  rw [dg_mod h 7 (by decide), dg_mod h 6 (by decide), dg_mod h 5 (by decide), dg_mod h 4 (by decide), dg_mod h 3 (by decide), dg_mod h 2 (by decide), dg_mod h 1 (by decide), dg_mod h 0 (by decide)]
theorem num8_ofB {l : List UInt8} (h : l.length = 8) : num8 (ofB l) = l := by
  match l, h with
  | [a, b, c, d, e, f, g, i], _ =>
    have ha := a.toNat_lt; have hb := b.toNat_lt; have hc := c.toNat_lt; have hd := d.toNat_lt
    have he := e.toNat_lt; have hf := f.toNat_lt; have hg := g.toNat_lt; have hi := i.toNat_lt
    simp only [num8, dg, ofB, List.foldl_cons, List.foldl_nil]
    congr 1
    · apply toU8_eq; omega
    congr 1
    · apply toU8_eq; omega
    congr 1
    · apply toU8_eq; omega
    congr 1
    · apply toU8_eq; omega
    congr 1
    · apply toU8_eq; omega
    congr 1
    · apply toU8_eq; omega
    congr 1
    · apply toU8_eq; omega
    congr 1
    apply toU8_eq; omega
theorem num8_dec {l : List UInt8} (h : l.length = 8) : num8 (dec8 l) = l := by
  rw [dec_of, num8_mod (wr_mod _), num8_ofB h]
theorem ofB_num8 (n : Int) : ofB (num8 n) = n % 18446744073709551616 := by
  have h : ∀ k, ((dg n k).toNat : Int) = n / 256 ^ k % 256 := fun k => toU8_nat _
  simp only [num8, ofB, List.foldl_cons, List.foldl_nil, h]
  omega
theorem dec_num8 (n : Int) : dec8 (num8 n) = wr n := by
  rw [dec_of, ofB_num8]
  apply wr_eq
  omega
theorem dec_num8_nat {n : Nat} (h : n < 9223372036854775807) : dec8 (num8 (n : Int)) = n := by
  rw [dec_num8, wr_in] <;> omega
end Go.Proofs.Ytjlhookdigbjhaa.Ef
