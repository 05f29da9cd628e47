/-
  Calls of one run, carried out by the kernel: each record is true. No condition.
-/
import Derived.Test.YtilpifbaolmdlaaGreatDoorK0
namespace Go.Proofs.YtilpifbaolmdlaaGreatDoor
open Go AE
set_option maxRecDepth 100000
theorem r1_ok : rcdOk P2 X1 K 40 r1 = true := by kernel_rfl
theorem r8_ok : rcdOk P2 X1 K 98 r8 = true := by kernel_rfl
end Go.Proofs.YtilpifbaolmdlaaGreatDoor
