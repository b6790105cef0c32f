/- The closed facts of the row of WorldSmall. -/
import Derived.Test.YtiekoeapmhhjbaaGreatDoorCards
import Derived.JoinedCond
import Derived.KernelRfl
namespace Go.Proofs.YtiekoeapmhhjbaaGreatDoor.worldSmall.F
open Go
set_option maxRecDepth 100000
set_option maxHeartbeats 0
theorem f_inPlace : (Rows.worldSmallRow.inPlace == Tryz.pinned.checked.prog.inPlace 5) = true := by kernel_rfl
theorem f_unfollowed : (Rows.worldSmallRow.unfollowed == Tryz.pinned.checked.prog.unfollowed 5) = true := by kernel_rfl
theorem f_recurses : (Rows.worldSmallRow.recurses == Tryz.pinned.checked.prog.recurses 5) = true := by kernel_rfl
theorem f_varsNamed : (Rows.worldSmallRow.named == Tryz.pinned.checked.prog.varsNamed 5) = true := by kernel_rfl
theorem closed : joinedFacts Tryz.pinned.checked.prog 5 Tryz.f5 (OpenSpec.ofChange Rows.worldSmallSpec).bare Rows.worldSmallRow = true := by
  unfold joinedFacts
  rw [f_inPlace, f_unfollowed, f_recurses, f_varsNamed]
  kernel_rfl
end Go.Proofs.YtiekoeapmhhjbaaGreatDoor.worldSmall.F
