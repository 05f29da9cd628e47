/-
  The rows' ties: what the rows list is what the program's text lays; each closed fact by itself, over the flat program. No condition.
-/
import Derived.Test.YtilpifbaolmdlaaGreatDoorK0
import Derived.Test.YtilpifbaolmdlaaGreatDoorRows
import Derived.LaidByTextLater
import Derived.SevenTiedAt
namespace Go.Proofs.YtilpifbaolmdlaaGreatDoor
open Go
set_option maxRecDepth 100000
def laidL : List (String × DataW Unit) := [("unicode/utf8.acceptRanges", Rows.laid_unicode_utf8_acceptRanges), ("internal/strconv.uint64pow10", Rows.laid_internal_strconv_uint64pow10), ("math/bits.deBruijn32tab", Rows.laid_math_bits_deBruijn32tab), ("math/bits.deBruijn64tab", Rows.laid_math_bits_deBruijn64tab), ("errors.errorType", Rows.laid_errors_errorType)]
theorem tie_w1 : P2.worded (varsWordLater true) = true := by kernel_rfl
theorem tie_w2 : P2.worded (varsWordLater !true) = false := by kernel_rfl
theorem tie_w3 : P2.worded rootWordLater = true := by kernel_rfl
theorem tie_k : laidL.map (fun x => P2.kindOfLater x.1) = ([.data, .data, .data, .data, .handle] : List LaidKind).map some := by kernel_rfl
theorem tie_g : (P2.funcNamed "gosem.cut.vars").isSome = true := by kernel_rfl
theorem tie_n : varsNamedLaterB P2 (varsId P2) laidL = true := by kernel_rfl
theorem tie_d (os : Os) (tape : Tape) : varsDone P2 400 (varsId P2) os tape = true := by kernel_rfl
theorem tie_1 (os : Os) (tape : Tape) : (DataW.laidRun P2 (varsWorld P2 400 (varsId P2) os tape).memory 8 ((laidL.filter fun x => x.2.handleName?.isNone).map (·.1))).map (·.1) = some (laidL.filter fun x => x.2.handleName?.isNone) := by kernel_rfl
theorem tie_2 (os : Os) (tape : Tape) : (DataW.laidRun P2 (varsWorld P2 400 (varsId P2) os tape).memory 8 ((laidL.filter fun x => x.2.handleName?.isNone).map (·.1))).map (fun x => decide x.2.Nodup && laidRowsB P2 (varsWorld P2 400 (varsId P2) os tape).memory x.2) = some true := by kernel_rfl
theorem tie_3 (os : Os) (tape : Tape) : (laidL.filter fun x => x.2.handleName?.isSome).all (handleAtB P2 (varsWorld P2 400 (varsId P2) os tape).memory) = true := by kernel_rfl
theorem tie2 : P2.laidByTextLater laidL [.data, .data, .data, .data, .handle] true :=
  Program.laidByTextLater_by_run_h 400 8 tie_w1 tie_w2 tie_w3 tie_k tie_g tie_n tie_d tie_1 tie_2 tie_3
theorem tie : Tryz.prog.laidByTextLater laidL [.data, .data, .data, .data, .handle] true := by rw [← P2_eq]; exact tie2
theorem pin2 : P2.pinnedFits "unicode/utf8.first" = true := by kernel_rfl
theorem pin_first : Tryz.pinned.checked.prog.pinnedFits "unicode/utf8.first" = true := by show Tryz.prog.pinnedFits _ = true; rw [← P2_eq]; exact pin2
theorem noOwn2 : P2.headLifts.contains "ownunsafe" = false := by kernel_rfl
theorem fits2 : P2.listedFits [("unicode/utf8.first", Rows.laid_unicode_utf8_first), ("unicode/utf8.acceptRanges", Rows.laid_unicode_utf8_acceptRanges), ("internal/strconv.uint64pow10", Rows.laid_internal_strconv_uint64pow10), ("math/bits.deBruijn32tab", Rows.laid_math_bits_deBruijn32tab), ("math/bits.deBruijn64tab", Rows.laid_math_bits_deBruijn64tab), ("errors.errorType", Rows.laid_errors_errorType)] = true := by
  unfold Program.listedFits
  rw [noOwn2]
  kernel_rfl
theorem fits1 : Tryz.pinned.checked.prog.listedFits [("unicode/utf8.first", Rows.laid_unicode_utf8_first), ("unicode/utf8.acceptRanges", Rows.laid_unicode_utf8_acceptRanges), ("internal/strconv.uint64pow10", Rows.laid_internal_strconv_uint64pow10), ("math/bits.deBruijn32tab", Rows.laid_math_bits_deBruijn32tab), ("math/bits.deBruijn64tab", Rows.laid_math_bits_deBruijn64tab), ("errors.errorType", Rows.laid_errors_errorType)] = true := by show Tryz.prog.listedFits _ = true; rw [← P2_eq]; exact fits2
theorem consoleBack_row_tie : Rows.consoleBackRow.laidByTextAt .later Tryz.pinned [.pinned, .data, .data, .data, .data, .handle] true :=
  OpenClaim.laidByTextAt_pinned rfl rfl tie rfl rfl rfl rfl (fun y hy _e => by
    simp only [Rows.consoleBackRow, List.zip_cons_cons, List.zip_nil_right, List.mem_cons, List.mem_nil_iff, or_false] at hy
    rcases hy with rfl | rfl | rfl | rfl | rfl | rfl
    · exact ⟨pin_first, by kernel_rfl⟩
    · cases _e
    · cases _e
    · cases _e
    · cases _e
    · cases _e) fits1
end Go.Proofs.YtilpifbaolmdlaaGreatDoor
