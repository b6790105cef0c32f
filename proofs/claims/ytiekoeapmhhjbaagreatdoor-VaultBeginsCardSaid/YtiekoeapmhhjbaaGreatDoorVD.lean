/- VaultBegins: the second stage, from an empty disk, or one with a torn file. -/
import Derived.Test.YtiekoeapmhhjbaaGreatDoorVA
import Derived.KernelRfl
namespace Go.Proofs.YtiekoeapmhhjbaaGreatDoor.X
open Go
set_option maxRecDepth 100000
set_option maxHeartbeats 0
theorem s2_0_0 : allF (fun s => okA (st2 tab2 (cnE 100 0) s)) 4 0 = true := by kernel_rfl
theorem s2_0_1 : allF (fun s => okA (st2 tab2 (cnE 100 0) s)) 4 4 = true := by kernel_rfl
theorem s2_0_2 : allF (fun s => okA (st2 tab2 (cnE 100 0) s)) 4 8 = true := by kernel_rfl
theorem s2_0_3 : allF (fun s => okA (st2 tab2 (cnE 100 0) s)) 4 12 = true := by kernel_rfl
theorem s2_1_0 : allF (fun s => okA (st2 tab2 (cnT 100 0 1) s)) 4 0 = true := by kernel_rfl
theorem s2_1_1 : allF (fun s => okA (st2 tab2 (cnT 100 0 1) s)) 4 4 = true := by kernel_rfl
theorem s2_1_2 : allF (fun s => okA (st2 tab2 (cnT 100 0 1) s)) 4 8 = true := by kernel_rfl
theorem s2_1_3 : allF (fun s => okA (st2 tab2 (cnT 100 0 1) s)) 4 12 = true := by kernel_rfl
end Go.Proofs.YtiekoeapmhhjbaaGreatDoor.X
