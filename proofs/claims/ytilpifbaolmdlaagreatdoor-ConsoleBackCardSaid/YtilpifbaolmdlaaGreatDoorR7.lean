/-
  Calls of one run, carried out by the kernel: each record is true. No condition.
-/
import Derived.Test.YtilpifbaolmdlaaGreatDoorK0
namespace Go.Proofs.YtilpifbaolmdlaaGreatDoor
open Go AE
set_option maxRecDepth 100000
theorem r12_ok : rcdOk P2 X2 K 7 r12 = true := by kernel_rfl
theorem r13_ok : rcdOk P2 X2 K 10 r13 = true := by kernel_rfl
end Go.Proofs.YtilpifbaolmdlaaGreatDoor
