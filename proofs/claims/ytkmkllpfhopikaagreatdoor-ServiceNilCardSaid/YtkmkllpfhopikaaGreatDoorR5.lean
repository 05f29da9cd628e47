/-
  Calls of one run, carried out by the kernel: each record is true. No condition.
-/
import Derived.Test.YtkmkllpfhopikaaGreatDoorK0
namespace Go.Proofs.YtkmkllpfhopikaaGreatDoor
open Go AE
set_option maxRecDepth 100000
theorem r24_ok : rcdOk P2 X0 K 50 r24 = true := by kernel_rfl
theorem r25_ok : rcdOk P2 X0 K 49 r25 = true := by kernel_rfl
theorem r27_ok : rcdOk P2 X0 K 19 r27 = true := by kernel_rfl
theorem r29_ok : rcdOk P2 X0 K 50 r29 = true := by kernel_rfl
theorem r30_ok : rcdOk P2 X0 K 50 r30 = true := by kernel_rfl
theorem r31_ok : rcdOk P2 X0 K 50 r31 = true := by kernel_rfl
theorem r32_ok : rcdOk P2 X0 K 50 r32 = true := by kernel_rfl
theorem r22_ok : rcdOk P2 X1 K 161 r22 = true := by kernel_rfl
theorem r23_ok : rcdOk P2 X1 K 162 r23 = true := by kernel_rfl
end Go.Proofs.YtkmkllpfhopikaaGreatDoor
