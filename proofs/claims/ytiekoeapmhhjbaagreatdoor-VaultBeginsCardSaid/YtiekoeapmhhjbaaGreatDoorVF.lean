/- VaultBegins: the rest. -/
import Derived.Test.YtiekoeapmhhjbaaGreatDoorVA
import Derived.KernelRfl
namespace Go.Proofs.YtiekoeapmhhjbaaGreatDoor.X
open Go
set_option maxRecDepth 100000
set_option maxHeartbeats 0
theorem s3_0 : allB (fun S => okA (st3 S)) (cns 1000 0) = true := by kernel_rfl
theorem s3_1 : allB (fun S => okA (st3 S)) (cns 1000 1) = true := by kernel_rfl
theorem s3_2 : allB (fun S => okA (st3 S)) (cns 1000 2) = true := by kernel_rfl
theorem s3_3 : allB (fun S => okA (st3 S)) (cns 1000 3) = true := by kernel_rfl
end Go.Proofs.YtiekoeapmhhjbaaGreatDoor.X
