/-
  Calls of one run, carried out by the kernel: each record is true. No condition.
-/
import Derived.Test.YtkmkllpfhopikaaGreatDoorK0
namespace Go.Proofs.YtkmkllpfhopikaaGreatDoor
open Go AE
set_option maxRecDepth 100000
theorem r14_ok : rcdOk P2 X0 K 49 r14 = true := by kernel_rfl
theorem r17_ok : rcdOk P2 X0 K 39 r17 = true := by kernel_rfl
theorem r19_ok : rcdOk P2 X0 K 39 r19 = true := by kernel_rfl
theorem r20_ok : rcdOk P2 X0 K 19 r20 = true := by kernel_rfl
theorem r21_ok : rcdOk P2 X0 K 217 r21 = true := by kernel_rfl
end Go.Proofs.YtkmkllpfhopikaaGreatDoor
