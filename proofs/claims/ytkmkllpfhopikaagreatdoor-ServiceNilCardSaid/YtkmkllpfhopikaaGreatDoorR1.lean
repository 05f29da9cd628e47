/-
  Calls of one run, carried out by the kernel: each record is true. No condition.
-/
import Derived.Test.YtkmkllpfhopikaaGreatDoorK0
namespace Go.Proofs.YtkmkllpfhopikaaGreatDoor
open Go AE
set_option maxRecDepth 100000
theorem r0_ok : rcdOk P2 X0 K 27 r0 = true := by kernel_rfl
theorem r2_ok : rcdOk P2 X0 K 39 r2 = true := by kernel_rfl
theorem r3_ok : rcdOk P2 X0 K 88 r3 = true := by kernel_rfl
theorem r4_ok : rcdOk P2 X0 K 19 r4 = true := by kernel_rfl
end Go.Proofs.YtkmkllpfhopikaaGreatDoor
