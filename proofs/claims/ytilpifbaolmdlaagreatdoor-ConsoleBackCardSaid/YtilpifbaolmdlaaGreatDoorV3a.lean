/-
  strings.IndexAny at two signs and a text of at most two bytes. No condition but those written in each statement.
-/
import Derived.Test.YtilpifbaolmdlaaGreatDoorV3
import Derived.Laws.RangeAny
import Derived.Laws.Runes
import Derived.Deep.LoopGhost
import Derived.Deep.RegionWith
import Derived.Deep.RegionHeld3
import Derived.WalkMore
set_option linter.unusedVariables false
set_option linter.unusedSimpArgs false
set_option linter.unusedSectionVars false
namespace Go.Proofs.YtilpifbaolmdlaaGreatDoor
open Go Go.RowKit
set_option maxRecDepth 100000 in
set_option maxHeartbeats 4000000 in
theorem indexRune_err (w : World) :
    Calls Tryz.prog 51 #[.string ⟨#[58, 33]⟩, .int .i32 65533] w fun e w' => e = .returned (.int .i64 (-1)) ∧ ∃ pos, w' = w.iter ⟨#[58, 33]⟩ pos := by
  go_enter Tryz.func51, Tryz.ntmps51
  go_wp2
  go_loopg [5, 6] 2 (fun g _ _ wx => ∃ i : Nat, i + g = 2 ∧ wx = w.iter ⟨#[58, 33]⟩ i)
  case atStart => exact ⟨0, rfl, rfl⟩
  case round =>
    obtain ⟨i, hig, rfl⟩ := hrel
    cases gk with
    | zero =>
      obtain rfl : i = 2 := by omega
      have hnx := fun ty => run_next_end (P := Tryz.prog) w ⟨#[58, 33]⟩ 2 ty (by decide)
      go_wp2
      go_ret
      exact ⟨rfl, _, rfl⟩
    | succ g =>
      have hi : i = 0 ∨ i = 1 := by omega
      rcases hi with rfl | rfl
      · have hnx := fun ty => run_next_ascii (P := Tryz.prog) w ⟨#[58, 33]⟩ 0 ty (by decide) (by decide)
        go_wp2
        go_roundg g
        case measure => omega
        case rel => exact ⟨1, by omega, rfl⟩
      · have hnx := fun ty => run_next_ascii (P := Tryz.prog) w ⟨#[58, 33]⟩ 1 ty (by decide) (by decide)
        go_wp2
        go_roundg g
        case measure => omega
        case rel => exact ⟨2, by omega, rfl⟩
set_option maxRecDepth 100000 in
set_option maxHeartbeats 4000000 in
theorem indexRune_high (r : Int) (h0 : 128 ≤ r) (hne : r ≠ 65533) (w : World) :
    Calls Tryz.prog 51 #[.string ⟨#[58, 33]⟩, .int .i32 r] w fun e w' => e = .returned (.int .i64 (-1)) ∧ Below w.heap.size w w' := by
  have d1 : (r == 65533) = false := beq_eq_false_iff_ne.mpr hne
  have d2 : ¬ r < 128 := by omega
  have d3 : (0 : Int) ≤ r := by omega
  cases hv : Lib.validRune r with
  | false =>
    have HV := Aside.mk hv
    clear hv
    go_enter Tryz.func51, Tryz.ntmps51
    go_wp2_with (go_at_call 76; refine (Tryz.utf8_ValidRune _ _).mono ?_; rintro e w' ⟨rfl, rfl⟩; rw [HV.out])
    go_ret
    exact ⟨rfl, Below.refl _ _⟩
  | true =>
    have hval : Utf8.valid r = true := by
      unfold Lib.validRune at hv
      have := of_decide_eq_true hv
      unfold Utf8.valid
      simp only [Bool.or_eq_true, Bool.and_eq_true, decide_eq_true_eq]
      omega
    obtain ⟨f1, f2, f3⟩ := encode_facts r hval h0
    generalize hE : Utf8.encode r = E at f1 f2 f3
    have f4 := f3 (by omega)
    have HV := Aside.mk hv
    have HE := Aside.mk hE
    have hconv : ∀ (w : World), (convert 21 9 (.int .i32 r)).run Tryz.prog w = .ok (.string E) w := fun w => by
      rw [run_convert_int_string w 21 9 .i32 r (by rw [Tryz.underlying21]; rfl) Tryz.underlying9, HE.out]
    clear hv hE hval f3
    go_enter Tryz.func51, Tryz.ntmps51
    go_wp2_with (go_at_call 76; refine (Tryz.utf8_ValidRune _ _).mono ?_; rintro e w' ⟨rfl, rfl⟩; rw [HV.out])
    go_step3
    go_wp2
    go_loop [9] (fun i => i = .int .i64 ((E.size : Int) - 1)) (fun _ => 0)
    case atStart => rfl
    case round =>
      obtain rfl := hrel
      by_cases h2 : E.size = 2
      · have f5 : 128 ≤ (E[1]'(by omega)).toNat := by simpa [h2] using f4
        have d4 : ((33 : Int) != ((E[1]'(by omega)).toNat : Int)) = true := bne_iff_ne.mpr (by omega)
        have h3 : ((E.size : Int) - 1) = 1 := by omega
        have hnone : Lib.indexByte (([] : List UInt8)) ((((E[1]'(by omega)).toNat : Int)).toNat.toUInt8) = -1 := rfl
        have ix1 : ∀ w : World, (Instr.index 9 (.string ⟨#[58, 33]⟩) (.int .i64 1)).run Tryz.prog w = .ok (.int .u8 33) w := fun w => by
          rw [run_index_string w 9 _ .i64 1 Tryz.underlying9, dif_pos (by decide)]
          rfl
        have ix2 : ∀ w : World, (Instr.index 9 (.string E) (.int .i64 1)).run Tryz.prog w = .ok (.int .u8 ((E[1]'(by omega)).toNat : Int)) w := fun w => by
          rw [run_index_string w 9 E .i64 1 Tryz.underlying9, dif_pos (by omega)]
          rfl
        have sl : ∀ w : World, (Instr.slice 9 (.string ⟨#[58, 33]⟩) (some (.int .i64 2)) none none).run Tryz.prog w = .ok (.string ⟨#[]⟩) w := fun w => by
          rw [run_slice_string_l (P := Tryz.prog) (w := w) (t := 9) (s := ⟨#[58, 33]⟩) Tryz.underlying9 .i64 2 (by decide) (by decide)]
          rfl
        clear f4
        rw [h3]
        go_wp2
        go_step3
        go_wp2
        go_region
        all_goals go_wp2
        all_goals (
          refine wp_region_held_drew (S := fun _ => True) (by kernel_rfl) trivial (fun hHeld => ?_)
          refine wpAnyH_take (i := 0) (oi := _) (v := .string ⟨#[58, 33]⟩) rfl (by kernel_rfl) (by kernel_rfl) (by kernel_rfl) (fun _ _ _ h => h) (Or.inl ⟨by rfl, fun w _ => ?_⟩) trivial ?_
          · first | (go_simp; done) | (go_simp; rfl) | (simp [go_sem, execOp, sl]; done)
          try dsimp only [Act.put, List.getElem_toArray, List.getElem_cons_zero, List.getElem_cons_succ]
          try simp only [Act.put, List.setIfInBounds_toArray, List.set_cons_zero, List.set_cons_succ]
          refine wpAnyH_take (i := 1) (oi := _) (v := .int .i64 1) rfl (by kernel_rfl) (by kernel_rfl) (by kernel_rfl) (fun _ _ _ h => h) (Or.inl ⟨by rfl, fun w _ => ?_⟩) trivial ?_
          · first | (go_simp; done) | (go_simp; rfl) | (simp [go_sem, execOp, sl]; done)
          try dsimp only [Act.put, List.getElem_toArray, List.getElem_cons_zero, List.getElem_cons_succ]
          try simp only [Act.put, List.setIfInBounds_toArray, List.set_cons_zero, List.set_cons_succ]
          refine wpAnyH_take (i := 2) (oi := _) (v := .int .i64 2) rfl (by kernel_rfl) (by kernel_rfl) (by kernel_rfl) (fun _ _ _ h => h) (Or.inl ⟨by rfl, fun w _ => ?_⟩) trivial ?_
          · first | (go_simp; done) | (go_simp; rfl) | (simp [go_sem, execOp, sl]; done)
          try dsimp only [Act.put, List.getElem_toArray, List.getElem_cons_zero, List.getElem_cons_succ]
          try simp only [Act.put, List.setIfInBounds_toArray, List.set_cons_zero, List.set_cons_succ]
          refine wpAnyH_take (i := 3) (oi := _) (v := .string ⟨#[]⟩) rfl (by kernel_rfl) (by kernel_rfl) (by kernel_rfl) (fun _ _ _ h => h) (Or.inl ⟨by rfl, fun w _ => ?_⟩) trivial ?_
          · first | (go_simp; done) | (go_simp; rfl) | (simp [go_sem, execOp, sl]; done)
          try dsimp only [Act.put, List.getElem_toArray, List.getElem_cons_zero, List.getElem_cons_succ]
          try simp only [Act.put, List.setIfInBounds_toArray, List.set_cons_zero, List.set_cons_succ]
          refine wpAnyH_take (i := 4) (oi := _) (v := .string E) rfl (by kernel_rfl) (by kernel_rfl) (by kernel_rfl) (fun _ _ _ h => h) (Or.inl ⟨by rfl, fun w _ => ?_⟩) trivial ?_
          · first | (go_simp; done) | (go_simp; rfl) | (simp [go_sem, execOp, sl]; done)
          try dsimp only [Act.put, List.getElem_toArray, List.getElem_cons_zero, List.getElem_cons_succ]
          try simp only [Act.put, List.setIfInBounds_toArray, List.set_cons_zero, List.set_cons_succ]
          refine wpAnyH_take (i := 5) (oi := _) (v := .int .i64 1) rfl (by kernel_rfl) (by kernel_rfl) (by kernel_rfl) (fun _ _ _ h => h) (Or.inl ⟨by rfl, fun w _ => ?_⟩) trivial ?_
          · first | (go_simp; done) | (go_simp; rfl) | (simp [go_sem, execOp, sl]; done)
          try dsimp only [Act.put, List.getElem_toArray, List.getElem_cons_zero, List.getElem_cons_succ]
          try simp only [Act.put, List.setIfInBounds_toArray, List.set_cons_zero, List.set_cons_succ]
          refine wpAnyH_take (i := 6) (oi := _) (v := .int .u8 ((E[1]'(by omega)).toNat : Int)) rfl (by kernel_rfl) (by kernel_rfl) (by kernel_rfl) (fun _ _ _ h => h) (Or.inl ⟨by rfl, fun w _ => ?_⟩) trivial ?_
          · first | (go_simp; done) | (go_simp; rfl) | (simp [go_sem, execOp, sl]; done)
          try dsimp only [Act.put, List.getElem_toArray, List.getElem_cons_zero, List.getElem_cons_succ]
          try simp only [Act.put, List.setIfInBounds_toArray, List.set_cons_zero, List.set_cons_succ]
          refine wpAnyH_ready (rs := [7]) (by kernel_rfl) (by simp) (AllReadyH.cons (o := _) rfl (fun K hK => ?_) AllReadyH.nil)
          go_simp
          refine (Tryz.strings_IndexByte _ _ _).mono ?_
          rintro e w1 ⟨rfl, rfl⟩
          dsimp only
          refine hK.out _ _ trivial (fun _ => ?_)
          try dsimp only [Act.put, List.getElem_toArray, List.getElem_cons_zero, List.getElem_cons_succ]
          try simp only [Act.put, List.setIfInBounds_toArray, List.set_cons_zero, List.set_cons_succ]
          clear hK
          try simp only [show ∀ x, Lib.indexByte ([] : List UInt8) x = -1 from fun _ => rfl]
          refine wpAnyH_take (i := 8) (oi := _) (v := .int .i64 (-1)) rfl (by kernel_rfl) (by kernel_rfl) (by kernel_rfl) (fun _ _ _ h => h) (Or.inl ⟨by rfl, fun w _ => ?_⟩) trivial ?_
          · first | (go_simp; done) | (go_simp; rfl)
          try dsimp only [Act.put, List.getElem_toArray, List.getElem_cons_zero, List.getElem_cons_succ]
          try simp only [Act.put, List.setIfInBounds_toArray, List.set_cons_zero, List.set_cons_succ]
          refine wpAnyH_done (by kernel_rfl) ?_ _)
        all_goals go_wp2
        all_goals
          simp +zetaDelta only [Exit.noGoto_ret, Exit.inBlock, Exit.then]
          refine bodyPost_ret (results_tmp rfl _ _ _) rfl ?_
          exact ⟨rfl, (Below.refl _ _).drew.drew⟩
      · have d4 : ¬ (E.size : Int) - 1 < 2 := by omega
        go_wp2
        go_ret
        exact ⟨rfl, Below.refl _ _⟩
/-- strings.IndexRune in the two signs, at a rune that is no ASCII. -/
theorem indexRune_not (r : Int) (h0 : 128 ≤ r) (w : World) :
    Calls Tryz.prog 51 #[.string ⟨#[58, 33]⟩, .int .i32 r] w fun e w' => e = .returned (.int .i64 (-1)) ∧ Below w.heap.size w w' := by
  by_cases h : r = 65533
  · subst h
    refine (indexRune_err w).mono fun e w' ⟨he, pos, hw⟩ => ⟨he, ?_⟩
    subst hw
    exact (Below.refl _ _).alloc (Nat.le_refl _) _
  · exact indexRune_high r h0 h w
theorem indexAny_lt (chars : List UInt8) : ∀ l : List UInt8, Lib.indexAny l chars < l.length
  | [] => by unfold Lib.indexAny; decide
  | b :: l => by
    have ih := indexAny_lt chars l
    unfold Lib.indexAny
    rw [List.length_cons]
    split
    · omega
    · split <;> omega
end Go.Proofs.YtilpifbaolmdlaaGreatDoor
