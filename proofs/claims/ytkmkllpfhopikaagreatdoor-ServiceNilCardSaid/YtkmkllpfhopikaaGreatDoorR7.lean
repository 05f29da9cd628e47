/-
  Calls of one run, carried out by the kernel: each record is true. No condition.
-/
import Derived.Test.YtkmkllpfhopikaaGreatDoorK0
namespace Go.Proofs.YtkmkllpfhopikaaGreatDoor
open Go AE
set_option maxRecDepth 100000
theorem r33_ok : rcdOk P2 X2 K 8 r33 = true := by kernel_rfl
theorem r34_ok : rcdOk P2 X2 K 10 r34 = true := by kernel_rfl
theorem r35_ok : rcdOk P2 X2 K 11 r35 = true := by kernel_rfl
theorem r36_ok : rcdOk P2 X2 K 6 r36 = true := by kernel_rfl
theorem r37_ok : rcdOk P2 X2 K 7 r37 = true := by kernel_rfl
theorem r38_ok : rcdOk P2 X2 K 8 r38 = true := by kernel_rfl
theorem r39_ok : rcdOk P2 X2 K 10 r39 = true := by kernel_rfl
theorem r40_ok : rcdOk P2 X2 K 11 r40 = true := by kernel_rfl
end Go.Proofs.YtkmkllpfhopikaaGreatDoor
