/- The closed facts of the row of ClusterNot. -/
import Derived.Test.YtiekoeapmhhjbaaGreatDoorCards
import Derived.JoinedCond
import Derived.KernelRfl
namespace Go.Proofs.YtiekoeapmhhjbaaGreatDoor.clusterNot.F
open Go
set_option maxRecDepth 100000
set_option maxHeartbeats 0
theorem f_inPlace : (Rows.clusterNotRow.inPlace == Tryz.pinned.checked.prog.inPlace 4) = true := by kernel_rfl
theorem f_unfollowed : (Rows.clusterNotRow.unfollowed == Tryz.pinned.checked.prog.unfollowed 4) = true := by kernel_rfl
theorem f_recurses : (Rows.clusterNotRow.recurses == Tryz.pinned.checked.prog.recurses 4) = true := by kernel_rfl
theorem f_varsNamed : (Rows.clusterNotRow.named == Tryz.pinned.checked.prog.varsNamed 4) = true := by kernel_rfl
theorem closed : joinedFacts Tryz.pinned.checked.prog 4 Tryz.f4 (OpenSpec.ofChange Rows.clusterNotSpec).bare Rows.clusterNotRow = true := by
  unfold joinedFacts
  rw [f_inPlace, f_unfollowed, f_recurses, f_varsNamed]
  kernel_rfl
end Go.Proofs.YtiekoeapmhhjbaaGreatDoor.clusterNot.F
