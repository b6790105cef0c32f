/- VaultBegins: the second stage, from a disk with a part. -/
import Derived.Test.YtiekoeapmhhjbaaGreatDoorVA
import Derived.KernelRfl
namespace Go.Proofs.YtiekoeapmhhjbaaGreatDoor.X
open Go
set_option maxRecDepth 100000
set_option maxHeartbeats 0
theorem s2_2_0 : allF (fun s => okA (st2 tab2 (cnP 100 1 2) s)) 4 0 = true := by kernel_rfl
theorem s2_2_1 : allF (fun s => okA (st2 tab2 (cnP 100 1 2) s)) 4 4 = true := by kernel_rfl
theorem s2_2_2 : allF (fun s => okA (st2 tab2 (cnP 100 1 2) s)) 4 8 = true := by kernel_rfl
theorem s2_2_3 : allF (fun s => okA (st2 tab2 (cnP 100 1 2) s)) 4 12 = true := by kernel_rfl
theorem s2_3_0 : allF (fun s => okA (st2 tab2 (cnPT 100 1 2 3) s)) 4 0 = true := by kernel_rfl
theorem s2_3_1 : allF (fun s => okA (st2 tab2 (cnPT 100 1 2 3) s)) 4 4 = true := by kernel_rfl
theorem s2_3_2 : allF (fun s => okA (st2 tab2 (cnPT 100 1 2 3) s)) 4 8 = true := by kernel_rfl
theorem s2_3_3 : allF (fun s => okA (st2 tab2 (cnPT 100 1 2 3) s)) 4 12 = true := by kernel_rfl
end Go.Proofs.YtiekoeapmhhjbaaGreatDoor.X
