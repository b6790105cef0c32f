/- VaultBegins: the first stage. -/
import Derived.Test.YtiekoeapmhhjbaaGreatDoorVA
import Derived.KernelRfl
namespace Go.Proofs.YtiekoeapmhhjbaaGreatDoor.X
open Go
set_option maxRecDepth 100000
set_option maxHeartbeats 0
theorem s1_0 : allF (fun s => okA (st1 tab1 s)) 4 0 = true := by kernel_rfl
theorem s1_1 : allF (fun s => okA (st1 tab1 s)) 4 4 = true := by kernel_rfl
theorem s1_2 : allF (fun s => okA (st1 tab1 s)) 4 8 = true := by kernel_rfl
theorem s1_3 : allF (fun s => okA (st1 tab1 s)) 4 12 = true := by kernel_rfl
theorem s2_4_0 : allF (fun s => okA (st2 tab2 (cnPJ 100 1 3 4) s)) 4 0 = true := by kernel_rfl
theorem s2_4_1 : allF (fun s => okA (st2 tab2 (cnPJ 100 1 3 4) s)) 4 4 = true := by kernel_rfl
theorem s2_4_2 : allF (fun s => okA (st2 tab2 (cnPJ 100 1 3 4) s)) 4 8 = true := by kernel_rfl
theorem s2_4_3 : allF (fun s => okA (st2 tab2 (cnPJ 100 1 3 4) s)) 4 12 = true := by kernel_rfl
end Go.Proofs.YtiekoeapmhhjbaaGreatDoor.X
