/-
  Calls of one run, carried out by the kernel: each record is true. No condition.
-/
import Derived.Test.YtilpifbaolmdlaaGreatDoorK0
namespace Go.Proofs.YtilpifbaolmdlaaGreatDoor
open Go AE
set_option maxRecDepth 100000
theorem r10_ok : rcdOk P2 X1 K 99 r10 = true := by kernel_rfl
theorem r11_ok : rcdOk P2 X2 K 12 r11 = true := by kernel_rfl
end Go.Proofs.YtilpifbaolmdlaaGreatDoor
