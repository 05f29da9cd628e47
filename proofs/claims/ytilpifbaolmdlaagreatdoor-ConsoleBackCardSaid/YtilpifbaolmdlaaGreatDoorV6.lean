/-
  The reference's comparison of two lists of steps. No condition but those written in each statement.
-/
import Derived.Test.YtilpifbaolmdlaaGreatDoorV5
import Derived.Laws.StructEq
set_option linter.unusedVariables false
set_option linter.unusedSimpArgs false
set_option linter.unusedSectionVars false
namespace Go.Proofs.YtilpifbaolmdlaaGreatDoor
open Go Go.RowKit
theorem same_struct (x : St) (d : Nat) (w : World) : (Op.equalIn (d + 2) 32 (aggS x) (aggS x)).run Tryz.prog w = .ok true w := by
  rw [run_equalIn_struct w (d + 1) 32 _ _ (by kernel_rfl) (by kernel_rfl)]
  unfold Program.fieldsOf
  rw [Tryz.underlying32]
  simp [go_sem, Tryz.underlying5, Tryz.underlying9, Tryz.underlying4, Tryz.underlying3]
theorem eqGuard32 : Tryz.prog.eqGuardType Tryz.prog.depth 32 = false := by kernel_rfl
set_option maxRecDepth 1000000 in
set_option maxHeartbeats 8000000 in
theorem same_calls (b o c cap cap' : Nat) (l : List St) (w : World) (hb : StepsAt w b o l) (hc : StepsAt w c 0 l) (hbs : b < w.heap.size) (hcs : c < w.heap.size) (hl : l.length ≤ 1000000) :
    Calls Tryz.prog 9 #[.slice (some ⟨b, o, none⟩) l.length cap, .slice (some ⟨c, 0, none⟩) l.length cap'] w fun e w' => e = .returned (.bool true) ∧ Below w.heap.size w w' := by
  have HB := Aside.mk hb
  have HC := Aside.mk hc
  clear hb hc
  go_enter Tryz.func9, Tryz.ntmps9
  go_wp2
  go_loopw [5] (fun iv wr => ∃ k : Nat, k ≤ l.length ∧ iv = .int .i64 k ∧ Aside (Below w.heap.size w wr)) (fun iv _ => l.length - (intOf iv).toNat)
  case atStart => exact ⟨0, Nat.zero_le _, rfl, ⟨Below.refl _ _⟩⟩
  case round =>
    obtain ⟨k, hk, rfl, hB⟩ := hrel
    by_cases hlt : k < l.length
    · have h1 := stepsAt_below HB.out hbs hB.out k hlt
      have h2 := stepsAt_below HC.out hcs hB.out k hlt
      unfold CellsAt at h1 h2
      simp only [Nat.zero_add] at h1 h2
      obtain ⟨c0, c1, c2, c3, c4, c5⟩ := h1
      obtain ⟨d0, d1, d2, d3, d4, d5⟩ := h2
      have HE := Aside.mk (same_struct l[k])
      generalize l[k] = x at c0 c1 c2 c3 c4 c5 d0 d1 d2 d3 d4 d5 HE
      go_wp2
      refine wp_region_held_drew (S := fun w' => w' = wr.drew) (by kernel_rfl) rfl (fun hHeld => ?_)
      refine wpAnyH_take (i := 0) (oi := _) (v := .slice (some ⟨b, o, none⟩) l.length cap) rfl (by kernel_rfl) (by kernel_rfl) (by kernel_rfl) (fun _ _ _ h => h) (Or.inl ⟨by rfl, fun w hSw => ?_⟩) hHeld ?_
      · subst hSw; clear hHeld; go_simp; try (simp [HE.out, eqGuard32])
      try dsimp only [Act.put, List.getElem_toArray, List.getElem_cons_zero, List.getElem_cons_succ]
      try simp only [Act.put, List.setIfInBounds_toArray, List.set_cons_zero, List.set_cons_succ]
      refine wpAnyH_take (i := 1) (oi := _) (v := .int .i64 k) rfl (by kernel_rfl) (by kernel_rfl) (by kernel_rfl) (fun _ _ _ h => h) (Or.inl ⟨by rfl, fun w hSw => ?_⟩) hHeld ?_
      · subst hSw; clear hHeld; go_simp; try (simp [HE.out, eqGuard32])
      try dsimp only [Act.put, List.getElem_toArray, List.getElem_cons_zero, List.getElem_cons_succ]
      try simp only [Act.put, List.setIfInBounds_toArray, List.set_cons_zero, List.set_cons_succ]
      refine wpAnyH_take (i := 2) (oi := _) (v := .pointer (some ⟨b, o + k * 6, none⟩)) rfl (by kernel_rfl) (by kernel_rfl) (by kernel_rfl) (fun _ _ _ h => h) (Or.inl ⟨by rfl, fun w hSw => ?_⟩) hHeld ?_
      · subst hSw; clear hHeld; go_simp; try (simp [HE.out, eqGuard32])
      try dsimp only [Act.put, List.getElem_toArray, List.getElem_cons_zero, List.getElem_cons_succ]
      try simp only [Act.put, List.setIfInBounds_toArray, List.set_cons_zero, List.set_cons_succ]
      refine wpAnyH_take (i := 3) (oi := _) (v := aggS x) rfl (by kernel_rfl) (by kernel_rfl) (by kernel_rfl) (fun _ _ _ h => h) (Or.inl ⟨by rfl, fun w hSw => ?_⟩) hHeld ?_
      · subst hSw; clear hHeld; go_simp; try (simp [HE.out, eqGuard32])
      try dsimp only [Act.put, List.getElem_toArray, List.getElem_cons_zero, List.getElem_cons_succ]
      try simp only [Act.put, List.setIfInBounds_toArray, List.set_cons_zero, List.set_cons_succ]
      refine wpAnyH_take (i := 4) (oi := _) (v := .slice (some ⟨c, 0, none⟩) l.length cap') rfl (by kernel_rfl) (by kernel_rfl) (by kernel_rfl) (fun _ _ _ h => h) (Or.inl ⟨by rfl, fun w hSw => ?_⟩) hHeld ?_
      · subst hSw; clear hHeld; go_simp; try (simp [HE.out, eqGuard32])
      try dsimp only [Act.put, List.getElem_toArray, List.getElem_cons_zero, List.getElem_cons_succ]
      try simp only [Act.put, List.setIfInBounds_toArray, List.set_cons_zero, List.set_cons_succ]
      refine wpAnyH_take (i := 5) (oi := _) (v := .int .i64 k) rfl (by kernel_rfl) (by kernel_rfl) (by kernel_rfl) (fun _ _ _ h => h) (Or.inl ⟨by rfl, fun w hSw => ?_⟩) hHeld ?_
      · subst hSw; clear hHeld; go_simp; try (simp [HE.out, eqGuard32])
      try dsimp only [Act.put, List.getElem_toArray, List.getElem_cons_zero, List.getElem_cons_succ]
      try simp only [Act.put, List.setIfInBounds_toArray, List.set_cons_zero, List.set_cons_succ]
      refine wpAnyH_take (i := 6) (oi := _) (v := .pointer (some ⟨c, k * 6, none⟩)) rfl (by kernel_rfl) (by kernel_rfl) (by kernel_rfl) (fun _ _ _ h => h) (Or.inl ⟨by rfl, fun w hSw => ?_⟩) hHeld ?_
      · subst hSw; clear hHeld; go_simp; try (simp [HE.out, eqGuard32])
      try dsimp only [Act.put, List.getElem_toArray, List.getElem_cons_zero, List.getElem_cons_succ]
      try simp only [Act.put, List.setIfInBounds_toArray, List.set_cons_zero, List.set_cons_succ]
      refine wpAnyH_take (i := 7) (oi := _) (v := aggS x) rfl (by kernel_rfl) (by kernel_rfl) (by kernel_rfl) (fun _ _ _ h => h) (Or.inl ⟨by rfl, fun w hSw => ?_⟩) hHeld ?_
      · subst hSw; clear hHeld; go_simp; try (simp [HE.out, eqGuard32])
      try dsimp only [Act.put, List.getElem_toArray, List.getElem_cons_zero, List.getElem_cons_succ]
      try simp only [Act.put, List.setIfInBounds_toArray, List.set_cons_zero, List.set_cons_succ]
      refine wpAnyH_take (i := 8) (oi := _) (v := .bool false) rfl (by kernel_rfl) (by kernel_rfl) (by kernel_rfl) (fun _ _ _ h => h) (Or.inl ⟨by rfl, fun w hSw => ?_⟩) hHeld ?_
      · subst hSw; clear hHeld; go_simp; try (simp [HE.out, eqGuard32])
      try dsimp only [Act.put, List.getElem_toArray, List.getElem_cons_zero, List.getElem_cons_succ]
      try simp only [Act.put, List.setIfInBounds_toArray, List.set_cons_zero, List.set_cons_succ]
      refine wpAnyH_done (by kernel_rfl) ?_ _
      have HBD : Aside (Below w.heap.size w wr.drew) := ⟨hB.out.drew⟩
      go_wp2
      exact ⟨⟨k + 1, by omega, by go_num, HBD⟩, by simp [intOf]; omega⟩
    · have hk2 : k = l.length := by omega
      subst hk2
      go_wp2
      go_ret
      exact ⟨rfl, hB.out⟩
set_option maxRecDepth 1000000 in
set_option maxHeartbeats 4000000 in
theorem same_nil (v1 v2 : Value) (w : World) (h1 : v1 = .slice none 0 0 ∨ ∃ g cap, v1 = .slice (some g) 0 cap) (h2 : v2 = .slice none 0 0 ∨ ∃ g cap, v2 = .slice (some ⟨g, 0, none⟩) 0 cap) :
    Calls Tryz.prog 9 #[v1, v2] w fun e w' => e = .returned (.bool true) ∧ Below w.heap.size w w' := by
  rcases h1 with rfl | ⟨g, cap, rfl⟩ <;> rcases h2 with rfl | ⟨g', cap', rfl⟩
  all_goals
    go_enter Tryz.func9, Tryz.ntmps9
    go_wp2
    go_loop [5] (fun iv => iv = .int .i64 0) (fun _ => 0)
    case atStart => rfl
    case round =>
      subst hrel
      go_wp2
      go_ret
      exact ⟨rfl, Below.refl _ _⟩
theorem same_own {B1 B2 : Nat} {v1 v2 : Value} {l : List St} {w : World} (h1 : w.ownsRow B1 32 6 v1 l.length (cellsS l)) (h2 : w.ownsRow B2 32 6 v2 l.length (cellsS l)) (hl : l.length ≤ 1000000) :
    Calls Tryz.prog 9 #[v1, v2] w fun e w' => e = .returned (.bool true) ∧ Below w.heap.size w w' := by
  by_cases h0 : l.length = 0
  · rw [h0] at h1 h2
    refine same_nil v1 v2 w ?_ ?_
    · rcases Joins.ownsRow_forms h1 with h | ⟨g, cap, h⟩
      · exact .inl h.1
      · exact .inr ⟨_, cap, h⟩
    · rcases Joins.ownsRow_forms h2 with h | h
      · exact .inl h.1
      · exact .inr h
  · obtain ⟨b, cap, rfl⟩ := Joins.ownsRow_form h1 (by omega)
    obtain ⟨c, cap', rfl⟩ := Joins.ownsRow_form h2 (by omega)
    exact same_calls b 0 c cap cap' l w (steps_of_cells (h1.cells (g := b) rfl)) (steps_of_cells (h2.cells (g := c) rfl)) (h1.lt b rfl).2 (h2.lt c rfl).2 hl
end Go.Proofs.YtilpifbaolmdlaaGreatDoor
