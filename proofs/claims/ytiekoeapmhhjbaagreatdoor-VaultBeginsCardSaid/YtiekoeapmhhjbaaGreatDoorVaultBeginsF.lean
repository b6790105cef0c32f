/- The closed facts of the row of VaultBegins. -/
import Derived.Test.YtiekoeapmhhjbaaGreatDoorCards
import Derived.JoinedCond
import Derived.KernelRfl
namespace Go.Proofs.YtiekoeapmhhjbaaGreatDoor.vaultBegins.F
open Go
set_option maxRecDepth 100000
set_option maxHeartbeats 0
theorem f_inPlace : (Rows.vaultBeginsRow.inPlace == Tryz.pinned.checked.prog.inPlace 3) = true := by kernel_rfl
theorem f_unfollowed : (Rows.vaultBeginsRow.unfollowed == Tryz.pinned.checked.prog.unfollowed 3) = true := by kernel_rfl
theorem f_recurses : (Rows.vaultBeginsRow.recurses == Tryz.pinned.checked.prog.recurses 3) = true := by kernel_rfl
theorem f_varsNamed : (Rows.vaultBeginsRow.named == Tryz.pinned.checked.prog.varsNamed 3) = true := by kernel_rfl
theorem closed : joinedFacts Tryz.pinned.checked.prog 3 Tryz.f3 (OpenSpec.ofChange Rows.vaultBeginsSpec).bare Rows.vaultBeginsRow = true := by
  unfold joinedFacts
  rw [f_inPlace, f_unfollowed, f_recurses, f_varsNamed]
  kernel_rfl
end Go.Proofs.YtiekoeapmhhjbaaGreatDoor.vaultBegins.F
