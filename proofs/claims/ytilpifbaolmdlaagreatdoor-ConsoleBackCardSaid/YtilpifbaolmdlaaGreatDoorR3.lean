/-
  Calls of one run, carried out by the kernel: each record is true. No condition.
-/
import Derived.Test.YtilpifbaolmdlaaGreatDoorK0
namespace Go.Proofs.YtilpifbaolmdlaaGreatDoor
open Go AE
set_option maxRecDepth 100000
theorem r5_ok : rcdOk P2 X0 K 159 r5 = true := by kernel_rfl
theorem r6_ok : rcdOk P2 X0 K 122 r6 = true := by kernel_rfl
end Go.Proofs.YtilpifbaolmdlaaGreatDoor
