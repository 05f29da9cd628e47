/-
  The closed facts that the row asks, one by one. No condition.
-/
import Derived.Test.YtkmkllpfhopikaaGreatDoorK0
import Derived.Test.YtkmkllpfhopikaaGreatDoorRows
import Derived.JoinedOf
namespace Go.Proofs.YtkmkllpfhopikaaGreatDoor
open Go
set_option maxRecDepth 100000
theorem and_tt {a b : Bool} (ha : a = true) (hb : b = true) : (a && b) = true := by rw [ha, hb]; rfl
theorem fact0 : (Rows.serviceNilRow.wf (OpenSpec.ofChange Rows.serviceNilSpec)) = true := by kernel_rfl
theorem fact1 : (laidOutB P2) = true := by kernel_rfl
theorem fact2 : (mapsRowed P2) = true := by kernel_rfl
theorem fact3 : (Tryz.f3.params.all (P2.readableRec ·)) = true := by kernel_rfl
theorem fact4 : (namedTie P2 Rows.serviceNilRow.named Rows.serviceNilSpec.vars) = true := by kernel_rfl
theorem fact5 : ((Rows.serviceNilRow.stops == [])) = true := by kernel_rfl
theorem fact6 : ((P2.stops == [])) = true := by kernel_rfl
theorem fact7 : ((Rows.serviceNilRow.knobs == [])) = true := by kernel_rfl
theorem fact8 : ((P2.stopKnobs == [])) = true := by kernel_rfl
theorem fact9 : ((Rows.serviceNilRow.inPlace == P2.inPlace 3)) = true := by kernel_rfl
theorem fact10 : ((Rows.serviceNilRow.unfollowed == P2.unfollowed 3)) = true := by kernel_rfl
theorem fact11 : ((Rows.serviceNilRow.recurses == P2.recurses 3)) = true := by kernel_rfl
theorem fact12 : ((Rows.serviceNilRow.named == P2.varsNamed 3)) = true := by kernel_rfl
theorem fact13 : ((Rows.serviceNilRow.maps == (Tryz.f3.params.toList ++ Rows.serviceNilSpec.plain.varTypes P2).any (P2.mapsRec ·))) = true := by kernel_rfl
theorem fact14 : ((Rows.serviceNilRow.ifaces == (Tryz.f3.params.toList ++ Rows.serviceNilSpec.plain.varTypes P2).any (P2.ifacesRec ·))) = true := by kernel_rfl
theorem fact15 : ((Rows.serviceNilRow.mapsOut == P2.mapsAmong Tryz.f3.resultTypes.toList)) = true := by kernel_rfl
theorem fact16 : ((Rows.serviceNilRow.loops == (Tryz.f3.params.toList ++ Rows.serviceNilSpec.plain.varTypes P2).any (P2.loopsFrom ·))) = true := by kernel_rfl
theorem fact17 : ((Rows.serviceNilRow.wideKeys == (Tryz.f3.params.toList ++ Rows.serviceNilSpec.plain.varTypes P2 ++ Tryz.f3.resultTypes.toList).any (P2.wideKeysFrom ·))) = true := by kernel_rfl
theorem fact18 : (Rows.serviceNilSpec.vars.all (P2.varReadable ·)) = true := by kernel_rfl
theorem fact19 : (Tryz.f3.resultTypes.all (fun t => P2.readableRec t && decide (t < P2.types.size))) = true := by kernel_rfl
theorem fact20 : ((Rows.serviceNilRow.ifacesOut == Tryz.f3.resultTypes.toList.any (P2.ifacesRec ·))) = true := by kernel_rfl
theorem fact21 : ((Rows.serviceNilRow.loopsOut == Tryz.f3.resultTypes.toList.any (P2.loopsFrom ·))) = true := by kernel_rfl
theorem fact22 : ((Rows.serviceNilRow.plainKeys == P2.plainKeys)) = true := by kernel_rfl
theorem fact23 : (Rows.serviceNilRow.shortTexts.isNone) = true := by kernel_rfl
theorem fact24 : (P2.stopsHeard) = true := by kernel_rfl
theorem fact25 : (P2.mayEnter) = true := by kernel_rfl
theorem fact26 : ((Rows.serviceNilRow.lifted == P2.liftsFinal)) = true := by kernel_rfl
theorem fact27 : ((P2.make == some Rows.serviceNilRow.make)) = true := by kernel_rfl
theorem fact28 : ((Rows.serviceNilRow.kinds == (if Rows.serviceNilRow.domain.isEmpty then [] else Tryz.f3.params.toList.map fun t => match P2.underlying t with | some (.int k) => some k | _ => none))) = true := by kernel_rfl
theorem fact29 : ((Rows.serviceNilRow.pinned == Rows.serviceNilRow.pinnedBy)) = true := by kernel_rfl
theorem fact30 : ((Rows.serviceNilRow.veiled == (Tryz.f3.params.toList ++ Rows.serviceNilSpec.plain.varTypes P2 ++ Tryz.f3.resultTypes.toList).any (P2.veiledRec ·))) = true := by kernel_rfl
theorem fact31 : (Rows.serviceNilRow.veiledFits P2 Tryz.f3.params.toList (Tryz.f3.params.toList ++ Rows.serviceNilSpec.plain.varTypes P2 ++ Tryz.f3.resultTypes.toList)) = true := by kernel_rfl
theorem facts2 : joinedFacts P2 3 Tryz.f3 Rows.serviceNilSpec Rows.serviceNilRow = true := (and_tt (and_tt (and_tt (and_tt (and_tt (and_tt (and_tt (and_tt (and_tt (and_tt (and_tt (and_tt (and_tt (and_tt (and_tt (and_tt (and_tt (and_tt (and_tt (and_tt (and_tt (and_tt (and_tt (and_tt (and_tt (and_tt (and_tt (and_tt (and_tt (and_tt (and_tt fact0 fact1) fact2) fact3) fact4) fact5) fact6) fact7) fact8) fact9) fact10) fact11) fact12) fact13) fact14) fact15) fact16) fact17) fact18) fact19) fact20) fact21) fact22) fact23) fact24) fact25) fact26) fact27) fact28) fact29) fact30) fact31)
end Go.Proofs.YtkmkllpfhopikaaGreatDoor
