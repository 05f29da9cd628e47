/-
  Calls of one run, carried out by the kernel: each record is true. No condition.
-/
import Derived.Test.YtilpifbaolmdlaaGreatDoorK0
namespace Go.Proofs.YtilpifbaolmdlaaGreatDoor
open Go AE
set_option maxRecDepth 100000
theorem r3_ok : rcdOk P2 X0 K 159 r3 = true := by kernel_rfl
theorem r4_ok : rcdOk P2 X0 K 137 r4 = true := by kernel_rfl
end Go.Proofs.YtilpifbaolmdlaaGreatDoor
