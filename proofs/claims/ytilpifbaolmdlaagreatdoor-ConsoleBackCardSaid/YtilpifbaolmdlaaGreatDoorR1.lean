/-
  Calls of one run, carried out by the kernel: each record is true. No condition.
-/
import Derived.Test.YtilpifbaolmdlaaGreatDoorK0
namespace Go.Proofs.YtilpifbaolmdlaaGreatDoor
open Go AE
set_option maxRecDepth 100000
theorem r0_ok : rcdOk P2 X0 K 60 r0 = true := by kernel_rfl
theorem r2_ok : rcdOk P2 X0 K 127 r2 = true := by kernel_rfl
end Go.Proofs.YtilpifbaolmdlaaGreatDoor
