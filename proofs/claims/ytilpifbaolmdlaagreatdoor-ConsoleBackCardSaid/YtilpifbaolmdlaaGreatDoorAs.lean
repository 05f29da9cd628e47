/-
  errors.As, at this program: what it does at a nil error, and at an error of the target's own type. No condition but those written in each statement.
-/
import Derived.Test.YtilpifbaolmdlaaGreatDoorProg
import Derived.WalkKit
import Derived.LaidEql
import Derived.Stop.Asserts
import Derived.RowKitTokens
namespace Go.Proofs.YtilpifbaolmdlaaGreatDoor
open Go.RowKit Go.Extern.Stop Go.Stop Go.Extern

set_option maxRecDepth 100000 in
theorem as_nil (t : Value) (w : World) :
    Calls Tryz.prog 171 #[.nilIface, t] w fun e w' => e = .returned (.bool false) ∧ w' = w := by
  go_enter Tryz.func171, Tryz.ntmps171
  go_wp2
  go_ret
  exact ⟨rfl, rfl⟩

end Go.Proofs.YtilpifbaolmdlaaGreatDoor
