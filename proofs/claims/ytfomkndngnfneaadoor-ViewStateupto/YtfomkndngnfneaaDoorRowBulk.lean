/- What the bound of an '..UptoSaid' gives: the length of a slice of integers. -/
import Derived.Test.YtfomkndngnfneaaDoorRows
import Derived.Test.YtfomkndngnfneaaDoorSxR
namespace Go.Proofs.YtfomkndngnfneaaDoor.Bulk
open Go Go.ChangeShapes
theorem one_le {H : Type} (d : DataW H) : 1 ≤ Rows.uptoBulk d := by
  cases d with
  | lit l => cases l <;> simp [Rows.uptoBulk]
  | nil => simp [Rows.uptoBulk]
  | ptr d => simp [Rows.uptoBulk]
  | slice elems spare => simp [Rows.uptoBulk]
  | agg parts => simp [Rows.uptoBulk]
  | iface t d => simp [Rows.uptoBulk]
  | map entries => simp [Rows.uptoBulk]
  | held h => simp [Rows.uptoBulk]
theorem part_le {H : Type} {d : DataW H} : ∀ {l : List (DataW H)}, d ∈ l → Rows.uptoBulk d ≤ Rows.uptoBulkAll l
  | x :: r, h => by
    simp only [Rows.uptoBulkAll]
    rcases List.mem_cons.1 h with e | e
    · subst e; omega
    · have := part_le e; omega
theorem length_le {H : Type} : ∀ l : List (DataW H), l.length ≤ Rows.uptoBulkAll l
  | [] => Nat.zero_le _
  | x :: r => by
    have h1 := one_le x
    have h2 := length_le r
    simp only [Rows.uptoBulkAll, List.length_cons]
    omega
theorem bound {H : Type} {l : List (DataW H)} (hk : Rows.uptoSmall H l = true) : Rows.uptoBulkAll l ≤ 1048576 := by
  simpa [Rows.uptoSmall] using hk
theorem len_of {H : Type} {k : IntKind} {d : DataW H} {bs : List Int} {ds : List (DataW H)} (hd : d = .nil ∧ bs = [] ∨ ∃ rest, d = .slice (lits k bs) (lits k rest)) (hm : d ∈ ds) (hk : Rows.uptoSmall H ds = true) : bs.length ≤ 1048576 := by
  rcases hd with ⟨_, rfl⟩ | ⟨rest, rfl⟩
  · exact Nat.zero_le _
  · have h1 := part_le hm
    have h2 := bound hk
    have h3 := length_le (lits (H := H) k bs)
    simp only [Rows.uptoBulk] at h1
    have h4 : (lits (H := H) k bs).length = bs.length := by simp [lits]
    omega
end Go.Proofs.YtfomkndngnfneaaDoor.Bulk
