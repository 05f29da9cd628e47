/-
  Calls of one run, carried out by the kernel: each record is true. No condition.
-/
import Derived.Test.YtkmkllpfhopikaaGreatDoorK0
namespace Go.Proofs.YtkmkllpfhopikaaGreatDoor
open Go AE
set_option maxRecDepth 100000
theorem r5_ok : rcdOk P2 X0 K 88 r5 = true := by kernel_rfl
theorem r6_ok : rcdOk P2 X0 K 50 r6 = true := by kernel_rfl
theorem r7_ok : rcdOk P2 X0 K 49 r7 = true := by kernel_rfl
theorem r9_ok : rcdOk P2 X0 K 39 r9 = true := by kernel_rfl
theorem r10_ok : rcdOk P2 X0 K 19 r10 = true := by kernel_rfl
end Go.Proofs.YtkmkllpfhopikaaGreatDoor
