/-
  Calls of one run, carried out by the kernel: each record is true. No condition.
-/
import Derived.Test.YtkmkllpfhopikaaGreatDoorK0
namespace Go.Proofs.YtkmkllpfhopikaaGreatDoor
open Go AE
set_option maxRecDepth 100000
theorem r11_ok : rcdOk P2 X0 K 209 r11 = true := by kernel_rfl
theorem r12_ok : rcdOk P2 X0 K 158 r12 = true := by kernel_rfl
theorem r13_ok : rcdOk P2 X0 K 50 r13 = true := by kernel_rfl
end Go.Proofs.YtkmkllpfhopikaaGreatDoor
