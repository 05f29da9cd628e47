/-
  The closed facts that the row asks, one by one. No condition.
-/
import Derived.Test.YtilpifbaolmdlaaGreatDoorK0
import Derived.Test.YtilpifbaolmdlaaGreatDoorRows
import Derived.JoinedOf
namespace Go.Proofs.YtilpifbaolmdlaaGreatDoor
open Go
set_option maxRecDepth 100000
theorem and_tt {a b : Bool} (ha : a = true) (hb : b = true) : (a && b) = true := by rw [ha, hb]; rfl
theorem fact0 : (Rows.consoleWritesRow.wf (OpenSpec.ofChange Rows.consoleWritesSpec)) = true := by kernel_rfl
theorem fact1 : (laidOutB P2) = true := by kernel_rfl
theorem fact2 : (mapsRowed P2) = true := by kernel_rfl
theorem fact3 : (Tryz.f4.params.all (P2.readableRec ·)) = true := by kernel_rfl
theorem fact4 : (namedTie P2 Rows.consoleWritesRow.named Rows.consoleWritesSpec.vars) = true := by kernel_rfl
theorem fact5 : ((Rows.consoleWritesRow.stops == [])) = true := by kernel_rfl
theorem fact6 : ((P2.stops == [])) = true := by kernel_rfl
theorem fact7 : ((Rows.consoleWritesRow.knobs == [])) = true := by kernel_rfl
theorem fact8 : ((P2.stopKnobs == [])) = true := by kernel_rfl
theorem fact9 : ((Rows.consoleWritesRow.inPlace == P2.inPlace 4)) = true := by kernel_rfl
theorem fact10 : ((Rows.consoleWritesRow.unfollowed == P2.unfollowed 4)) = true := by kernel_rfl
theorem fact11 : ((Rows.consoleWritesRow.recurses == P2.recurses 4)) = true := by kernel_rfl
theorem fact12 : ((Rows.consoleWritesRow.named == P2.varsNamed 4)) = true := by kernel_rfl
theorem fact13 : ((Rows.consoleWritesRow.maps == (Tryz.f4.params.toList ++ Rows.consoleWritesSpec.plain.varTypes P2).any (P2.mapsRec ·))) = true := by kernel_rfl
theorem fact14 : ((Rows.consoleWritesRow.ifaces == (Tryz.f4.params.toList ++ Rows.consoleWritesSpec.plain.varTypes P2).any (P2.ifacesRec ·))) = true := by kernel_rfl
theorem fact15 : ((Rows.consoleWritesRow.mapsOut == P2.mapsAmong Tryz.f4.resultTypes.toList)) = true := by kernel_rfl
theorem fact16 : ((Rows.consoleWritesRow.loops == (Tryz.f4.params.toList ++ Rows.consoleWritesSpec.plain.varTypes P2).any (P2.loopsFrom ·))) = true := by kernel_rfl
theorem fact17 : ((Rows.consoleWritesRow.wideKeys == (Tryz.f4.params.toList ++ Rows.consoleWritesSpec.plain.varTypes P2 ++ Tryz.f4.resultTypes.toList).any (P2.wideKeysFrom ·))) = true := by kernel_rfl
theorem fact18 : (Rows.consoleWritesSpec.vars.all (P2.varReadable ·)) = true := by kernel_rfl
theorem fact19 : (Tryz.f4.resultTypes.all (fun t => P2.readableRec t && decide (t < P2.types.size))) = true := by kernel_rfl
theorem fact20 : ((Rows.consoleWritesRow.ifacesOut == Tryz.f4.resultTypes.toList.any (P2.ifacesRec ·))) = true := by kernel_rfl
theorem fact21 : ((Rows.consoleWritesRow.loopsOut == Tryz.f4.resultTypes.toList.any (P2.loopsFrom ·))) = true := by kernel_rfl
theorem fact22 : ((Rows.consoleWritesRow.plainKeys == P2.plainKeys)) = true := by kernel_rfl
theorem fact23 : (Rows.consoleWritesRow.shortTexts.isNone) = true := by kernel_rfl
theorem fact24 : (P2.stopsHeard) = true := by kernel_rfl
theorem fact25 : (P2.mayEnter) = true := by kernel_rfl
theorem fact26 : ((Rows.consoleWritesRow.lifted == P2.liftsFinal)) = true := by kernel_rfl
theorem fact27 : ((P2.make == some Rows.consoleWritesRow.make)) = true := by kernel_rfl
theorem fact28 : ((Rows.consoleWritesRow.kinds == (if Rows.consoleWritesRow.domain.isEmpty then [] else Tryz.f4.params.toList.map fun t => match P2.underlying t with | some (.int k) => some k | _ => none))) = true := by kernel_rfl
theorem fact29 : ((Rows.consoleWritesRow.pinned == Rows.consoleWritesRow.pinnedBy)) = true := by kernel_rfl
theorem fact30 : ((Rows.consoleWritesRow.veiled == (Tryz.f4.params.toList ++ Rows.consoleWritesSpec.plain.varTypes P2 ++ Tryz.f4.resultTypes.toList).any (P2.veiledRec ·))) = true := by kernel_rfl
theorem fact31 : (Rows.consoleWritesRow.veiledFits P2 Tryz.f4.params.toList (Tryz.f4.params.toList ++ Rows.consoleWritesSpec.plain.varTypes P2 ++ Tryz.f4.resultTypes.toList)) = true := by kernel_rfl
theorem facts2 : joinedFacts P2 4 Tryz.f4 Rows.consoleWritesSpec Rows.consoleWritesRow = true := (and_tt (and_tt (and_tt (and_tt (and_tt (and_tt (and_tt (and_tt (and_tt (and_tt (and_tt (and_tt (and_tt (and_tt (and_tt (and_tt (and_tt (and_tt (and_tt (and_tt (and_tt (and_tt (and_tt (and_tt (and_tt (and_tt (and_tt (and_tt (and_tt (and_tt (and_tt fact0 fact1) fact2) fact3) fact4) fact5) fact6) fact7) fact8) fact9) fact10) fact11) fact12) fact13) fact14) fact15) fact16) fact17) fact18) fact19) fact20) fact21) fact22) fact23) fact24) fact25) fact26) fact27) fact28) fact29) fact30) fact31)
end Go.Proofs.YtilpifbaolmdlaaGreatDoor
