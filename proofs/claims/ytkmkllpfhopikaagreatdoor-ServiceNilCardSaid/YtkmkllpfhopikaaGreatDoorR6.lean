/-
  Calls of one run, carried out by the kernel: each record is true. No condition.
-/
import Derived.Test.YtkmkllpfhopikaaGreatDoorK0
namespace Go.Proofs.YtkmkllpfhopikaaGreatDoor
open Go AE
set_option maxRecDepth 100000
theorem r1_ok : rcdOk P2 X2 K 12 r1 = true := by kernel_rfl
theorem r8_ok : rcdOk P2 X2 K 6 r8 = true := by kernel_rfl
theorem r15_ok : rcdOk P2 X2 K 6 r15 = true := by kernel_rfl
theorem r16_ok : rcdOk P2 X2 K 6 r16 = true := by kernel_rfl
theorem r18_ok : rcdOk P2 X2 K 6 r18 = true := by kernel_rfl
theorem r26_ok : rcdOk P2 X2 K 6 r26 = true := by kernel_rfl
theorem r28_ok : rcdOk P2 X2 K 7 r28 = true := by kernel_rfl
end Go.Proofs.YtkmkllpfhopikaaGreatDoor
