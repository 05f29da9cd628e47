/-
  The closed facts that the row asks, one by one. No condition.
-/
import Derived.Test.YtilpifbaolmdlaaGreatDoorK0
import Derived.Test.YtilpifbaolmdlaaGreatDoorRows
import Derived.JoinedOf
namespace Go.Proofs.YtilpifbaolmdlaaGreatDoor
open Go
set_option maxRecDepth 100000
theorem and_tt {a b : Bool} (ha : a = true) (hb : b = true) : (a && b) = true := by rw [ha, hb]; rfl
theorem fact0 : (Rows.consoleBackRow.wf (OpenSpec.ofChange Rows.consoleBackSpec)) = true := by kernel_rfl
theorem fact1 : (laidOutB P2) = true := by kernel_rfl
theorem fact2 : (mapsRowed P2) = true := by kernel_rfl
theorem fact3 : (Tryz.f5.params.all (P2.readableRec ·)) = true := by kernel_rfl
theorem fact4 : (namedTie P2 Rows.consoleBackRow.named Rows.consoleBackSpec.vars) = true := by kernel_rfl
theorem fact5 : ((Rows.consoleBackRow.stops == [])) = true := by kernel_rfl
theorem fact6 : ((P2.stops == [])) = true := by kernel_rfl
theorem fact7 : ((Rows.consoleBackRow.knobs == [])) = true := by kernel_rfl
theorem fact8 : ((P2.stopKnobs == [])) = true := by kernel_rfl
theorem fact9 : ((Rows.consoleBackRow.inPlace == P2.inPlace 5)) = true := by kernel_rfl
theorem fact10 : ((Rows.consoleBackRow.unfollowed == P2.unfollowed 5)) = true := by kernel_rfl
theorem fact11 : ((Rows.consoleBackRow.recurses == P2.recurses 5)) = true := by kernel_rfl
theorem fact12 : ((Rows.consoleBackRow.named == P2.varsNamed 5)) = true := by kernel_rfl
theorem fact13 : ((Rows.consoleBackRow.maps == (Tryz.f5.params.toList ++ Rows.consoleBackSpec.plain.varTypes P2).any (P2.mapsRec ·))) = true := by kernel_rfl
theorem fact14 : ((Rows.consoleBackRow.ifaces == (Tryz.f5.params.toList ++ Rows.consoleBackSpec.plain.varTypes P2).any (P2.ifacesRec ·))) = true := by kernel_rfl
theorem fact15 : ((Rows.consoleBackRow.mapsOut == P2.mapsAmong Tryz.f5.resultTypes.toList)) = true := by kernel_rfl
theorem fact16 : ((Rows.consoleBackRow.loops == (Tryz.f5.params.toList ++ Rows.consoleBackSpec.plain.varTypes P2).any (P2.loopsFrom ·))) = true := by kernel_rfl
theorem fact17 : ((Rows.consoleBackRow.wideKeys == (Tryz.f5.params.toList ++ Rows.consoleBackSpec.plain.varTypes P2 ++ Tryz.f5.resultTypes.toList).any (P2.wideKeysFrom ·))) = true := by kernel_rfl
theorem fact18 : (Rows.consoleBackSpec.vars.all (P2.varReadable ·)) = true := by kernel_rfl
theorem fact19 : (Tryz.f5.resultTypes.all (fun t => P2.readableRec t && decide (t < P2.types.size))) = true := by kernel_rfl
theorem fact20 : ((Rows.consoleBackRow.ifacesOut == Tryz.f5.resultTypes.toList.any (P2.ifacesRec ·))) = true := by kernel_rfl
theorem fact21 : ((Rows.consoleBackRow.loopsOut == Tryz.f5.resultTypes.toList.any (P2.loopsFrom ·))) = true := by kernel_rfl
theorem fact22 : ((Rows.consoleBackRow.plainKeys == P2.plainKeys)) = true := by kernel_rfl
theorem fact23 : (Rows.consoleBackRow.shortTexts.isNone) = true := by kernel_rfl
theorem fact24 : (P2.stopsHeard) = true := by kernel_rfl
theorem fact25 : (P2.mayEnter) = true := by kernel_rfl
theorem fact26 : ((Rows.consoleBackRow.lifted == P2.liftsFinal)) = true := by kernel_rfl
theorem fact27 : ((P2.make == some Rows.consoleBackRow.make)) = true := by kernel_rfl
theorem fact28 : ((Rows.consoleBackRow.kinds == (if Rows.consoleBackRow.domain.isEmpty then [] else Tryz.f5.params.toList.map fun t => match P2.underlying t with | some (.int k) => some k | _ => none))) = true := by kernel_rfl
theorem fact29 : ((Rows.consoleBackRow.pinned == Rows.consoleBackRow.pinnedBy)) = true := by kernel_rfl
theorem fact30 : ((Rows.consoleBackRow.veiled == (Tryz.f5.params.toList ++ Rows.consoleBackSpec.plain.varTypes P2 ++ Tryz.f5.resultTypes.toList).any (P2.veiledRec ·))) = true := by kernel_rfl
theorem fact31 : (Rows.consoleBackRow.veiledFits P2 Tryz.f5.params.toList (Tryz.f5.params.toList ++ Rows.consoleBackSpec.plain.varTypes P2 ++ Tryz.f5.resultTypes.toList)) = true := by kernel_rfl
theorem facts2 : joinedFacts P2 5 Tryz.f5 Rows.consoleBackSpec Rows.consoleBackRow = true := (and_tt (and_tt (and_tt (and_tt (and_tt (and_tt (and_tt (and_tt (and_tt (and_tt (and_tt (and_tt (and_tt (and_tt (and_tt (and_tt (and_tt (and_tt (and_tt (and_tt (and_tt (and_tt (and_tt (and_tt (and_tt (and_tt (and_tt (and_tt (and_tt (and_tt (and_tt fact0 fact1) fact2) fact3) fact4) fact5) fact6) fact7) fact8) fact9) fact10) fact11) fact12) fact13) fact14) fact15) fact16) fact17) fact18) fact19) fact20) fact21) fact22) fact23) fact24) fact25) fact26) fact27) fact28) fact29) fact30) fact31)
end Go.Proofs.YtilpifbaolmdlaaGreatDoor
