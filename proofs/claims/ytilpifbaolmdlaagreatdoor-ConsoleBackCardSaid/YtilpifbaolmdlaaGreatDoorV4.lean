/-
  console.parse and console.Read. No condition but those written in each statement.
-/
import Derived.Test.YtilpifbaolmdlaaGreatDoorV3b
import Derived.Deep.RegionHeld3
set_option linter.unusedVariables false
set_option linter.unusedSimpArgs false
set_option linter.unusedSectionVars false
namespace Go.Proofs.YtilpifbaolmdlaaGreatDoor
open Go Go.RowKit
def ParseOut (s : ByteArray) (e : Ending) : Prop := ∃ x ok, e = .returned (.tuple #[aggS x, .bool ok]) ∧ stepOf s = if ok = true then some x else none
theorem maxLen_of {s : ByteArray} (h : s.size ≤ 1000000) : s.size ≤ maxLen := by unfold maxLen; omega
/-- What stands behind the n-th part of a code. -/
def rt : Nat → Code → Code
  | 0, c => c
  | n + 1, .seq _ b => rt n b
  | _ + 1, c => c
noncomputable def body14 : Code := Tryz.f14.body.getD .skip
/-- The world while parse runs: its step lies in a block of its own, its answer in the next. -/
structure At14 (w0 W : World) (x : St) : Prop where
  below : Below w0.heap.size w0 W
  cells : CellsAt W w0.heap.size 0 x
  ok : ∃ b, W.cell? ⟨w0.heap.size + 1, 0, none⟩ = some (.bool b)
  frA : ∀ j, W.frozen? ⟨w0.heap.size, j, none⟩ = false
  frB : W.frozen? ⟨w0.heap.size + 1, 0, none⟩ = false
theorem cells_below {w0 W W' : World} {x : St} (h : CellsAt W w0.heap.size 0 x) (hA : w0.heap.size < W.heap.size) (hb : Below W.heap.size W W') : CellsAt W' w0.heap.size 0 x := by
  obtain ⟨c0, c1, c2, c3, c4, c5⟩ := h
  exact ⟨(hb.cell hA).trans c0, (hb.cell hA).trans c1, (hb.cell hA).trans c2, (hb.cell hA).trans c3, (hb.cell hA).trans c4, (hb.cell hA).trans c5⟩
theorem At14.step {w0 W W' : World} {x : St} (h : At14 w0 W x) (hb : Below W.heap.size W W') : At14 w0 W' x := by
  have hA : w0.heap.size < W.heap.size := World.block_lt_of_cell? _ _ h.cells.1
  obtain ⟨b, hok⟩ := h.ok
  have hB : w0.heap.size + 1 < W.heap.size := World.block_lt_of_cell? _ _ hok
  exact ⟨h.below.trans (hb.mono (by omega)), cells_below h.cells hA hb, ⟨b, (hb.cell hB).trans hok⟩, fun j => (hb.frozen hA).trans (h.frA j), (hb.frozen hB).trans h.frB⟩
@[irreducible] def Keep14 (w0 w' : World) (x : St) : Prop := At14 w0 w' x
theorem Keep14.mk {w0 w' : World} {x : St} (h : At14 w0 w' x) : Keep14 w0 w' x := by unfold Keep14; exact h
theorem Keep14.at {w0 w' : World} {x : St} (h : Keep14 w0 w' x) : At14 w0 w' x := by unfold Keep14 at h; exact h
/-- What the answer's variable holds. -/
def okOf (w0 W : World) : Bool := match W.cell? ⟨w0.heap.size + 1, 0, none⟩ with | some (.bool b) => b | _ => false
theorem okOf_spec {w0 W : World} (h : ∃ b, W.cell? ⟨w0.heap.size + 1, 0, none⟩ = some (.bool b)) : W.cell? ⟨w0.heap.size + 1, 0, none⟩ = some (.bool (okOf w0 W)) := by
  obtain ⟨b, hb⟩ := h
  unfold okOf
  rw [hb]
abbrev S14 (w0 : World) (x : St) (W : World) : Prop := Keep14 w0 W x ∧ W.cell? ⟨w0.heap.size, 0, none⟩ = some (.int .u8 x.k) ∧ W.cell? ⟨w0.heap.size, 1, none⟩ = some (.string x.u) ∧ W.cell? ⟨w0.heap.size, 2, none⟩ = some (.string x.t) ∧
  W.cell? ⟨w0.heap.size, 3, none⟩ = some (.bool x.f) ∧ W.cell? ⟨w0.heap.size, 4, none⟩ = some (.int .i64 x.n) ∧ W.cell? ⟨w0.heap.size, 5, none⟩ = some (.int .i64 x.p) ∧ W.cell? ⟨w0.heap.size + 1, 0, none⟩ = some (.bool (okOf w0 W)) ∧
  W.frozen? ⟨w0.heap.size, 0, none⟩ = false ∧ W.frozen? ⟨w0.heap.size, 1, none⟩ = false ∧ W.frozen? ⟨w0.heap.size, 2, none⟩ = false ∧ W.frozen? ⟨w0.heap.size, 3, none⟩ = false ∧ W.frozen? ⟨w0.heap.size, 4, none⟩ = false ∧ W.frozen? ⟨w0.heap.size, 5, none⟩ = false ∧ W.frozen? ⟨w0.heap.size + 1, 0, none⟩ = false
theorem s14_of {w0 W : World} {x : St} (h : At14 w0 W x) : S14 w0 x W := by
  have hc := h.cells
  unfold CellsAt at hc
  simp only [Nat.zero_add] at hc
  obtain ⟨c0, c1, c2, c3, c4, c5⟩ := hc
  exact ⟨.mk h, c0, c1, c2, c3, c4, c5, okOf_spec h.ok, h.frA 0, h.frA 1, h.frA 2, h.frA 3, h.frA 4, h.frA 5, h.frB⟩
theorem s14_step {w0 W W' : World} {x : St} (h : Keep14 w0 W x) (hb : Below W.heap.size W W') : S14 w0 x W' := s14_of (h.at.step hb)
theorem s14_step2 {w0 W W' : World} {x : St} (hb : Below W.heap.size W W') (h : S14 w0 x W) : S14 w0 x W' := s14_of (h.1.at.step hb)
theorem s14_drew {w0 W : World} {x : St} (h : At14 w0 W x) : S14 w0 x W.drew := s14_of (h.step (Below.refl _ _).drew)
def put32 (w0 W : World) (x : St) : World := (((((W.setCell ⟨w0.heap.size, 0, none⟩ (.int .u8 x.k)).setCell ⟨w0.heap.size, 1, none⟩ (.string x.u)).setCell ⟨w0.heap.size, 2, none⟩ (.string x.t)).setCell ⟨w0.heap.size, 3, none⟩ (.bool x.f)).setCell ⟨w0.heap.size, 4, none⟩ (.int .i64 x.n)).setCell ⟨w0.heap.size, 5, none⟩ (.int .i64 x.p)
theorem At14.put {w0 W : World} {x : St} (h : At14 w0 W x) : At14 w0 (put32 w0 W x) x := by
  obtain ⟨hb, ⟨c0, c1, c2, c3, c4, c5⟩, ⟨b, hok⟩, fA, fB⟩ := h
  simp only [Nat.zero_add] at c1 c2 c3 c4 c5
  refine ⟨?_, ⟨?_, ?_, ?_, ?_, ?_, ?_⟩, ⟨b, ?_⟩, fun j => ?_, ?_⟩
  · exact (((((hb.setCell (by simp) _).setCell (by simp) _).setCell (by simp) _).setCell (by simp) _).setCell (by simp) _).setCell (by simp) _
  all_goals (unfold put32; simp [go_sem, c0, c1, c2, c3, c4, c5, hok, fA, fB])
theorem At14.putOk {w0 W : World} {x : St} (h : At14 w0 W x) (v : Bool) : At14 w0 (W.setCell ⟨w0.heap.size + 1, 0, none⟩ (.bool v)) x := by
  obtain ⟨hb, ⟨c0, c1, c2, c3, c4, c5⟩, ⟨b, hok⟩, fA, fB⟩ := h
  simp only [Nat.zero_add] at c1 c2 c3 c4 c5
  refine ⟨?_, ⟨?_, ?_, ?_, ?_, ?_, ?_⟩, ⟨v, ?_⟩, fun j => ?_, ?_⟩
  · exact hb.setCell (by simp) _
  all_goals simp [go_sem, c0, c1, c2, c3, c4, c5, hok, fA, fB]
theorem s14_put {w0 W : World} {x : St} (h : S14 w0 x W) : S14 w0 x ((((((W.setCell ⟨w0.heap.size, 0, none⟩ (.int .u8 x.k)).setCell ⟨w0.heap.size, 1, none⟩ (.string x.u)).setCell ⟨w0.heap.size, 2, none⟩ (.string x.t)).setCell ⟨w0.heap.size, 3, none⟩ (.bool x.f)).setCell ⟨w0.heap.size, 4, none⟩ (.int .i64 x.n)).setCell ⟨w0.heap.size, 5, none⟩ (.int .i64 x.p)) := s14_of h.1.at.put
theorem s14_ok {w0 W : World} {x : St} {v : Bool} (h : S14 w0 x W) : S14 w0 x (W.setCell ⟨w0.heap.size + 1, 0, none⟩ (.bool v)) := s14_of (h.1.at.putOk v)
set_option maxRecDepth 1000000 in
set_option maxHeartbeats 4000000 in
theorem parse_end (s : ByteArray) (w0 W : World) (x : St) (ok : Bool) (v0 v1 v4 v5 v6 v7 v8 v9 v10 v11 v12 v13 v14 v15 v16 v17 v18 v19 v20 v21 v22 v23 v24 v25 v26 v27 v28 v29 v30 v31 v32 v33 v34 v35 v36 v37 v38 v39 v40 v41 v42 v43 v44 v45 v46 v47 v48 v49 v50 v51 v52 v53 v54 v55 v56 v57 v58 v59 v60 v61 v62 v63 v64 v65 v66 v67 v68 v69 v70 v71 v72 v73 v74 v75 v76 v77 v78 v79 v80 v81 v82 v83 v84 v85 v86 v87 : Value) (h : S14 w0 x W) (hok : W.cell? ⟨w0.heap.size + 1, 0, none⟩ = some (.bool ok)) (hs : stepOf s = if ok = true then some x else none) :
    (bodyPostD Tryz.prog Tryz.f14 fun e w' => ParseOut s e ∧ Below w0.heap.size w0 w') Exit.ret { tmps := #[v0, v1, .pointer (some ⟨w0.heap.size, 0, none⟩), .pointer (some ⟨w0.heap.size + 1, 0, none⟩), v4, v5, v6, v7, v8, v9, v10, v11, v12, v13, v14, v15, v16, v17, v18, v19, v20, v21, v22, v23, v24, v25, v26, v27, v28, v29, v30, v31, v32, v33, v34, v35, v36, v37, v38, v39, v40, v41, v42, v43, v44, v45, v46, v47, v48, v49, v50, v51, v52, v53, v54, v55, v56, v57, v58, v59, v60, v61, v62, v63, v64, v65, v66, v67, v68, v69, v70, v71, v72, v73, v74, v75, v76, v77, v78, v79, v80, v81, v82, v83, v84, v85, v86, v87], defers := [{ target := .fn (.func 26) #[.pointer (some ⟨w0.heap.size, 0, none⟩), .pointer (some ⟨w0.heap.size + 1, 0, none⟩)], args := #[] }] } W := by
  obtain ⟨hK, c0, c1, c2, c3, c4, c5, _⟩ := h
  have HF : Aside (ParseOut s (.returned (.tuple #[aggS x, .bool ok])) ∧ Below w0.heap.size w0 W) := ⟨⟨x, ok, rfl, hs⟩, hK.at.below⟩
  clear hs hK
  refine leaves_cons (f := 26) (args := #[.pointer (some ⟨w0.heap.size, 0, none⟩), .pointer (some ⟨w0.heap.size + 1, 0, none⟩)]) (by simp) (by simp [go_sem]) ?_
  refine (catch_idle _ _ _).mono ?_
  rintro e u' w'' ⟨rfl, rfl, rfl⟩
  simp [Leaves, settle, results, Tryz.results14, go_sem, c0, c1, c2, c3, c4, c5, hok]
  exact HF.out
set_option maxRecDepth 1000000 in
set_option maxHeartbeats 8000000 in
theorem parse_18no (s : ByteArray) (w0 W : World) (x : St) (v1 v4 v5 v6 v7 v8 v9 v10 v11 v12 v13 v14 v15 v16 v17 v18 v19 v20 v21 v22 v23 v24 v25 v26 v27 v28 v29 v30 v31 v32 v33 v34 v35 v36 v37 v38 v39 v40 v41 v42 v43 v44 v45 v46 v47 v48 v49 v50 v51 v52 v53 v54 v55 v56 v57 v58 v59 v60 v61 v62 v63 v64 v65 v66 v67 v68 v69 v70 v71 v72 v73 v74 v75 v76 v77 v78 v79 v80 v81 v82 v83 v84 v85 v86 v87 : Value) (h : At14 w0 W x) (hx : XSays s x) (htab : PowTab w0) (hu : x.u.size ≤ 1000000) (ht : x.t.size ≤ 1000000) (hg : goodS x = false) :
    (rt 7 body14).wp Tryz.prog (bodyPostD Tryz.prog Tryz.f14 fun e w' => ParseOut s e ∧ Below w0.heap.size w0 w') { tmps := #[.string s, v1, .pointer (some ⟨w0.heap.size, 0, none⟩), .pointer (some ⟨w0.heap.size + 1, 0, none⟩), v4, v5, v6, v7, v8, v9, v10, v11, v12, v13, v14, v15, v16, v17, v18, v19, v20, v21, v22, v23, v24, v25, v26, v27, v28, v29, v30, v31, v32, v33, v34, v35, v36, v37, v38, v39, v40, v41, v42, v43, v44, v45, v46, v47, v48, v49, v50, v51, v52, v53, v54, v55, v56, v57, v58, v59, v60, v61, v62, v63, v64, v65, v66, v67, v68, v69, v70, v71, v72, v73, v74, v75, v76, v77, v78, v79, v80, v81, v82, v83, v84, v85, v86, v87], defers := [{ target := .fn (.func 26) #[.pointer (some ⟨w0.heap.size, 0, none⟩), .pointer (some ⟨w0.heap.size + 1, 0, none⟩)], args := #[] }] } W := by
  conv => arg 2; whnf
  have HS := s14_drew h
  have HU := Aside.mk (maxLen_of hu)
  have HX := Aside.mk hx
  have HT := Aside.mk htab
  have HG := Aside.mk hg
  have HS0 := HS
  clear hx htab hg h HS
  go_wp2_with fail
  refine wp_region_noPanic ?_
  refine wp_region_held_drew (S := fun w' => S14 w0 x w') (by kernel_rfl) HS0 (fun hHeld => ?_)
  refine wpAnyH_take (i := 0) (oi := _) (v := aggS x) rfl (by kernel_rfl) (by kernel_rfl) (by kernel_rfl) (fun _ _ _ h => h) (Or.inl ⟨by rfl, fun w hSw => ?_⟩) (by assumption) ?_
  · (try dsimp only at hSw); go_simp
  try simp only [Act.put, List.setIfInBounds_toArray, List.set_cons_zero, List.set_cons_succ]
  refine wpAnyH_take (i := 1) (oi := _) (v := aggS x) rfl (by kernel_rfl) (by kernel_rfl) (by kernel_rfl) (fun _ _ _ h => h) (Or.inl ⟨by rfl, fun w hSw => ?_⟩) (by assumption) ?_
  · (try dsimp only at hSw); go_simp
  try simp only [Act.put, List.setIfInBounds_toArray, List.set_cons_zero, List.set_cons_succ]
  refine wpAnyH_ready (rs := [2]) (by kernel_rfl) (by simp) (AllReadyH.cons (o := _) rfl (fun K hK => ?_) AllReadyH.nil)
  go_simp
  refine (good_calls x _ HU.out).mono ?_
  rintro e w1 ⟨rfl, hb1⟩
  dsimp only
  rw [HG.out]
  refine hK.out _ _ (s14_step2 hb1 hHeld) (fun hHeld2 => ?_)
  try simp only [Act.put, List.setIfInBounds_toArray, List.set_cons_zero, List.set_cons_succ]
  clear hHeld hK
  refine wpAnyH_take (i := 3) (oi := _) (v := .bool false) rfl (by kernel_rfl) (by kernel_rfl) (by kernel_rfl) (fun _ _ _ h => h) (Or.inl ⟨by rfl, fun w hSw => ?_⟩) (by assumption) ?_
  · (try dsimp only at hSw); go_simp
  try simp only [Act.put, List.setIfInBounds_toArray, List.set_cons_zero, List.set_cons_succ]
  refine wpAnyH_take (i := 4) (oi := _) (v := undef) rfl (by kernel_rfl) (by kernel_rfl) (by kernel_rfl) (fun _ _ _ h => h) (Or.inr ⟨by rfl, rfl⟩) (by assumption) ?_
  try simp only [Act.put, List.setIfInBounds_toArray, List.set_cons_zero, List.set_cons_succ]
  refine wpAnyH_take (i := 6) (oi := _) (v := undef) rfl (by kernel_rfl) (by kernel_rfl) (by kernel_rfl) (fun _ _ _ h => h) (Or.inr ⟨by rfl, rfl⟩) (by assumption) ?_
  try simp only [Act.put, List.setIfInBounds_toArray, List.set_cons_zero, List.set_cons_succ]
  refine wpAnyH_take (i := 5) (oi := _) (v := undef) rfl (by kernel_rfl) (by kernel_rfl) (by kernel_rfl) (fun _ _ _ h => h) (Or.inr ⟨by rfl, rfl⟩) (by assumption) ?_
  try simp only [Act.put, List.setIfInBounds_toArray, List.set_cons_zero, List.set_cons_succ]
  refine wpAnyH_take (i := 7) (oi := _) (v := undef) rfl (by kernel_rfl) (by kernel_rfl) (by kernel_rfl) (fun _ _ _ h => h) (Or.inr ⟨by rfl, rfl⟩) (by assumption) ?_
  try simp only [Act.put, List.setIfInBounds_toArray, List.set_cons_zero, List.set_cons_succ]
  refine wpAnyH_take (i := 8) (oi := _) (v := .bool false) rfl (by kernel_rfl) (by kernel_rfl) (by kernel_rfl) (fun _ _ _ h => h) (Or.inl ⟨by rfl, fun w hSw => ?_⟩) (by assumption) ?_
  · (try dsimp only at hSw); go_simp
  try simp only [Act.put, List.setIfInBounds_toArray, List.set_cons_zero, List.set_cons_succ]
  refine wpAnyH_ready (rs := [9]) (by kernel_rfl) (by simp) (AllReadyH.cons (o := _) rfl (fun K hK => ?_) AllReadyH.nil)
  go_simp
  refine hK.out _ _ (s14_put hHeld2) (fun hHeld3 => ?_)
  try simp only [Act.put, List.setIfInBounds_toArray, List.set_cons_zero, List.set_cons_succ]
  clear hHeld2 hK
  generalize ((((((w1.setCell ⟨w0.heap.size, 0, none⟩ (.int .u8 x.k)).setCell ⟨w0.heap.size, 1, none⟩ (.string x.u)).setCell ⟨w0.heap.size, 2, none⟩ (.string x.t)).setCell ⟨w0.heap.size, 3, none⟩ (.bool x.f)).setCell ⟨w0.heap.size, 4, none⟩ (.int .i64 x.n)).setCell ⟨w0.heap.size, 5, none⟩ (.int .i64 x.p)) = w2 at hHeld3 ⊢
  have hfin : (w2.setCell ⟨w0.heap.size + 1, 0, none⟩ (.bool false)).cell? ⟨w0.heap.size + 1, 0, none⟩ = some (.bool false) := World.cell?_setCell_same _ _ _ hHeld3.2.2.2.2.2.2.2.1
  refine wpAnyH_ready (rs := [10]) (by kernel_rfl) (by simp) (AllReadyH.cons (o := _) rfl (fun K hK => ?_) AllReadyH.nil)
  go_simp
  refine hK.out _ _ (s14_ok hHeld3) (fun hHeld4 => ?_)
  try simp only [Act.put, List.setIfInBounds_toArray, List.set_cons_zero, List.set_cons_succ]
  refine wpAnyH_done (by kernel_rfl) ?_ _
  refine NoPanic.normal ?_
  go_wp2
  exact parse_end s w0 _ x false _ _ _ _ _ _ _ _ _ _ _ _ _ _ _ _ _ _ _ _ _ _ _ _ _ _ _ _ _ _ _ _ _ _ _ _ _ _ _ _ _ _ _ _ _ _ _ _ _ _ _ _ _ _ _ _ _ _ _ _ _ _ _ _ _ _ _ _ _ _ _ _ _ _ _ _ _ _ _ _ _ _ _ _ _ _ hHeld4 hfin (by rw [stepOf_x HX.out, if_neg (fun hc => by rw [HG.out] at hc; cases hc.1)]; rfl)
set_option maxRecDepth 1000000 in
set_option maxHeartbeats 8000000 in
theorem parse_18yes (s : ByteArray) (w0 W : World) (x : St) (v1 v4 v5 v6 v7 v8 v9 v10 v11 v12 v13 v14 v15 v16 v17 v18 v19 v20 v21 v22 v23 v24 v25 v26 v27 v28 v29 v30 v31 v32 v33 v34 v35 v36 v37 v38 v39 v40 v41 v42 v43 v44 v45 v46 v47 v48 v49 v50 v51 v52 v53 v54 v55 v56 v57 v58 v59 v60 v61 v62 v63 v64 v65 v66 v67 v68 v69 v70 v71 v72 v73 v74 v75 v76 v77 v78 v79 v80 v81 v82 v83 v84 v85 v86 v87 : Value) (h : At14 w0 W x) (hx : XSays s x) (htab : PowTab w0) (hu : x.u.size ≤ 1000000) (ht : x.t.size ≤ 1000000) (hg : goodS x = true) :
    (rt 7 body14).wp Tryz.prog (bodyPostD Tryz.prog Tryz.f14 fun e w' => ParseOut s e ∧ Below w0.heap.size w0 w') { tmps := #[.string s, v1, .pointer (some ⟨w0.heap.size, 0, none⟩), .pointer (some ⟨w0.heap.size + 1, 0, none⟩), v4, v5, v6, v7, v8, v9, v10, v11, v12, v13, v14, v15, v16, v17, v18, v19, v20, v21, v22, v23, v24, v25, v26, v27, v28, v29, v30, v31, v32, v33, v34, v35, v36, v37, v38, v39, v40, v41, v42, v43, v44, v45, v46, v47, v48, v49, v50, v51, v52, v53, v54, v55, v56, v57, v58, v59, v60, v61, v62, v63, v64, v65, v66, v67, v68, v69, v70, v71, v72, v73, v74, v75, v76, v77, v78, v79, v80, v81, v82, v83, v84, v85, v86, v87], defers := [{ target := .fn (.func 26) #[.pointer (some ⟨w0.heap.size, 0, none⟩), .pointer (some ⟨w0.heap.size + 1, 0, none⟩)], args := #[] }] } W := by
  conv => arg 2; whnf
  have HS := s14_drew h
  have HU := Aside.mk (maxLen_of hu)
  have HX := Aside.mk hx
  have HT := Aside.mk htab
  have HG := Aside.mk hg
  have hr : rangeB x.n x.p = true := (good_cases hg).1
  have HR := Aside.mk hr
  have HQ : ∀ w1, S14 w0 x w1 → PowTab w1 := fun w1 hS => tab_below htab hS.1.at.below
  clear hx htab hg h hr
  go_wp2_with fail
  refine wp_region_noPanic ?_
  refine wp_region_held_drew (S := fun w' => S14 w0 x w') (by kernel_rfl) HS (fun hHeld => ?_)
  refine wpAnyH_take (i := 0) (oi := _) (v := aggS x) rfl (by kernel_rfl) (by kernel_rfl) (by kernel_rfl) (fun _ _ _ h => h) (Or.inl ⟨by rfl, fun w hSw => ?_⟩) (by assumption) ?_
  · (try dsimp only at hSw); go_simp
  try simp only [Act.put, List.setIfInBounds_toArray, List.set_cons_zero, List.set_cons_succ]
  refine wpAnyH_take (i := 1) (oi := _) (v := aggS x) rfl (by kernel_rfl) (by kernel_rfl) (by kernel_rfl) (fun _ _ _ h => h) (Or.inl ⟨by rfl, fun w hSw => ?_⟩) (by assumption) ?_
  · (try dsimp only at hSw); go_simp
  try simp only [Act.put, List.setIfInBounds_toArray, List.set_cons_zero, List.set_cons_succ]
  refine wpAnyH_ready (rs := [2]) (by kernel_rfl) (by simp) (AllReadyH.cons (o := _) rfl (fun K hK => ?_) AllReadyH.nil)
  go_simp
  refine (good_calls x _ HU.out).mono ?_
  rintro e w1 ⟨rfl, hb1⟩
  dsimp only
  rw [HG.out]
  refine hK.out _ _ (s14_step2 hb1 hHeld) (fun hHeld2 => ?_)
  try simp only [Act.put, List.setIfInBounds_toArray, List.set_cons_zero, List.set_cons_succ]
  clear hHeld hK
  refine wpAnyH_take (i := 3) (oi := _) (v := .bool true) rfl (by kernel_rfl) (by kernel_rfl) (by kernel_rfl) (fun _ _ _ h => h) (Or.inl ⟨by rfl, fun w hSw => ?_⟩) (by assumption) ?_
  · (try dsimp only at hSw); go_simp
  try simp only [Act.put, List.setIfInBounds_toArray, List.set_cons_zero, List.set_cons_succ]
  refine wpAnyH_take (i := 4) (oi := _) (v := aggS x) rfl (by kernel_rfl) (by kernel_rfl) (by kernel_rfl) (fun _ _ _ h => h) (Or.inl ⟨by rfl, fun w hSw => ?_⟩) (by assumption) ?_
  · (try dsimp only at hSw); go_simp
  try simp only [Act.put, List.setIfInBounds_toArray, List.set_cons_zero, List.set_cons_succ]
  refine wpAnyH_take (i := 6) (oi := _) (v := .string s) rfl (by kernel_rfl) (by kernel_rfl) (by kernel_rfl) (fun _ _ _ h => h) (Or.inl ⟨by rfl, fun w hSw => ?_⟩) (by assumption) ?_
  · (try dsimp only at hSw); go_simp
  try simp only [Act.put, List.setIfInBounds_toArray, List.set_cons_zero, List.set_cons_succ]
  refine wpAnyH_ready (rs := [5]) (by kernel_rfl) (by simp) (AllReadyH.cons (o := _) rfl (fun K hK => ?_) AllReadyH.nil)
  go_simp
  refine (line_calls x _ HR.out (HQ _ hHeld2) hu ht).mono ?_
  rintro e w5 ⟨rfl, hb5⟩
  dsimp only
  refine hK.out _ _ (s14_step2 hb5 hHeld2) (fun hHeld5 => ?_)
  try simp only [Act.put, List.setIfInBounds_toArray, List.set_cons_zero, List.set_cons_succ]
  clear hHeld2 hK
  refine wpAnyH_take (i := 7) (oi := _) (v := .bool ((lineS x).toList == s.toList)) rfl (by kernel_rfl) (by kernel_rfl) (by kernel_rfl) (fun _ _ _ h => h) (Or.inl ⟨by rfl, fun w hSw => ?_⟩) (by assumption) ?_
  · (try dsimp only at hSw); go_simp
  try simp only [Act.put, List.setIfInBounds_toArray, List.set_cons_zero, List.set_cons_succ]
  refine wpAnyH_take (i := 8) (oi := _) (v := .bool ((lineS x).toList == s.toList)) rfl (by kernel_rfl) (by kernel_rfl) (by kernel_rfl) (fun _ _ _ h => h) (Or.inl ⟨by rfl, fun w hSw => ?_⟩) (by assumption) ?_
  · (try dsimp only at hSw); go_simp
  try simp only [Act.put, List.setIfInBounds_toArray, List.set_cons_zero, List.set_cons_succ]
  refine wpAnyH_ready (rs := [9]) (by kernel_rfl) (by simp) (AllReadyH.cons (o := _) rfl (fun K hK => ?_) AllReadyH.nil)
  go_simp
  refine hK.out _ _ (s14_put hHeld5) (fun hHeld3 => ?_)
  try simp only [Act.put, List.setIfInBounds_toArray, List.set_cons_zero, List.set_cons_succ]
  clear hHeld5 hK
  generalize ((((((w5.setCell ⟨w0.heap.size, 0, none⟩ (.int .u8 x.k)).setCell ⟨w0.heap.size, 1, none⟩ (.string x.u)).setCell ⟨w0.heap.size, 2, none⟩ (.string x.t)).setCell ⟨w0.heap.size, 3, none⟩ (.bool x.f)).setCell ⟨w0.heap.size, 4, none⟩ (.int .i64 x.n)).setCell ⟨w0.heap.size, 5, none⟩ (.int .i64 x.p)) = w2 at hHeld3 ⊢
  have hfin : (w2.setCell ⟨w0.heap.size + 1, 0, none⟩ (.bool ((lineS x).toList == s.toList))).cell? ⟨w0.heap.size + 1, 0, none⟩ = some (.bool ((lineS x).toList == s.toList)) := World.cell?_setCell_same _ _ _ hHeld3.2.2.2.2.2.2.2.1
  refine wpAnyH_ready (rs := [10]) (by kernel_rfl) (by simp) (AllReadyH.cons (o := _) rfl (fun K hK => ?_) AllReadyH.nil)
  go_simp
  refine hK.out _ _ (s14_ok hHeld3) (fun hHeld4 => ?_)
  try simp only [Act.put, List.setIfInBounds_toArray, List.set_cons_zero, List.set_cons_succ]
  refine wpAnyH_done (by kernel_rfl) ?_ _
  refine NoPanic.normal ?_
  go_wp2
  refine parse_end s w0 _ x _ _ _ _ _ _ _ _ _ _ _ _ _ _ _ _ _ _ _ _ _ _ _ _ _ _ _ _ _ _ _ _ _ _ _ _ _ _ _ _ _ _ _ _ _ _ _ _ _ _ _ _ _ _ _ _ _ _ _ _ _ _ _ _ _ _ _ _ _ _ _ _ _ _ _ _ _ _ _ _ _ _ _ _ _ _ _ hHeld4 hfin ?_
  rw [stepOf_x HX.out]
  by_cases he : lineS x = s
  · rw [if_pos ⟨HG.out, he⟩, if_pos (by rw [he]; simp)]
  · rw [if_neg (fun hc => he hc.2), if_neg (fun hc => he (ba_ext (by rw [beq_iff_eq, Lib.toList_data, Lib.toList_data] at hc; exact hc)))]
theorem parse_18 (s : ByteArray) (w0 W : World) (x : St) (v1 v4 v5 v6 v7 v8 v9 v10 v11 v12 v13 v14 v15 v16 v17 v18 v19 v20 v21 v22 v23 v24 v25 v26 v27 v28 v29 v30 v31 v32 v33 v34 v35 v36 v37 v38 v39 v40 v41 v42 v43 v44 v45 v46 v47 v48 v49 v50 v51 v52 v53 v54 v55 v56 v57 v58 v59 v60 v61 v62 v63 v64 v65 v66 v67 v68 v69 v70 v71 v72 v73 v74 v75 v76 v77 v78 v79 v80 v81 v82 v83 v84 v85 v86 v87 : Value) (h : At14 w0 W x) (hx : XSays s x) (htab : PowTab w0) (hu : x.u.size ≤ 1000000) (ht : x.t.size ≤ 1000000) :
    (rt 7 body14).wp Tryz.prog (bodyPostD Tryz.prog Tryz.f14 fun e w' => ParseOut s e ∧ Below w0.heap.size w0 w') { tmps := #[.string s, v1, .pointer (some ⟨w0.heap.size, 0, none⟩), .pointer (some ⟨w0.heap.size + 1, 0, none⟩), v4, v5, v6, v7, v8, v9, v10, v11, v12, v13, v14, v15, v16, v17, v18, v19, v20, v21, v22, v23, v24, v25, v26, v27, v28, v29, v30, v31, v32, v33, v34, v35, v36, v37, v38, v39, v40, v41, v42, v43, v44, v45, v46, v47, v48, v49, v50, v51, v52, v53, v54, v55, v56, v57, v58, v59, v60, v61, v62, v63, v64, v65, v66, v67, v68, v69, v70, v71, v72, v73, v74, v75, v76, v77, v78, v79, v80, v81, v82, v83, v84, v85, v86, v87], defers := [{ target := .fn (.func 26) #[.pointer (some ⟨w0.heap.size, 0, none⟩), .pointer (some ⟨w0.heap.size + 1, 0, none⟩)], args := #[] }] } W := by
  cases hg : goodS x with
  | false => exact parse_18no s w0 W x v1 v4 v5 v6 v7 v8 v9 v10 v11 v12 v13 v14 v15 v16 v17 v18 v19 v20 v21 v22 v23 v24 v25 v26 v27 v28 v29 v30 v31 v32 v33 v34 v35 v36 v37 v38 v39 v40 v41 v42 v43 v44 v45 v46 v47 v48 v49 v50 v51 v52 v53 v54 v55 v56 v57 v58 v59 v60 v61 v62 v63 v64 v65 v66 v67 v68 v69 v70 v71 v72 v73 v74 v75 v76 v77 v78 v79 v80 v81 v82 v83 v84 v85 v86 v87 h hx htab hu ht hg
  | true => exact parse_18yes s w0 W x v1 v4 v5 v6 v7 v8 v9 v10 v11 v12 v13 v14 v15 v16 v17 v18 v19 v20 v21 v22 v23 v24 v25 v26 v27 v28 v29 v30 v31 v32 v33 v34 v35 v36 v37 v38 v39 v40 v41 v42 v43 v44 v45 v46 v47 v48 v49 v50 v51 v52 v53 v54 v55 v56 v57 v58 v59 v60 v61 v62 v63 v64 v65 v66 v67 v68 v69 v70 v71 v72 v73 v74 v75 v76 v77 v78 v79 v80 v81 v82 v83 v84 v85 v86 v87 h hx htab hu ht hg
/-- A store of the kind. -/
theorem At14.kind {w0 W : World} {x : St} (h : At14 w0 W x) (k : Int) : At14 w0 (W.setCell ⟨w0.heap.size, 0, none⟩ (.int .u8 k)) { x with k := k } := by
  obtain ⟨hb, ⟨c0, c1, c2, c3, c4, c5⟩, ⟨b, hok⟩, fA, fB⟩ := h
  simp only [Nat.zero_add] at c1 c2 c3 c4 c5
  refine ⟨hb.setCell (by simp) _, ⟨?_, ?_, ?_, ?_, ?_, ?_⟩, ⟨b, ?_⟩, fun j => ?_, ?_⟩
  all_goals simp [go_sem, c0, c1, c2, c3, c4, c5, hok, fA, fB]
theorem At14.keep {w0 W : World} {x : St} (h : At14 w0 W x) (p : Int) : At14 w0 (W.setCell ⟨w0.heap.size, 5, none⟩ (.int .i64 p)) { x with p := p } := by
  obtain ⟨hb, ⟨c0, c1, c2, c3, c4, c5⟩, ⟨b, hok⟩, fA, fB⟩ := h
  simp only [Nat.zero_add] at c1 c2 c3 c4 c5
  refine ⟨hb.setCell (by simp) _, ⟨?_, ?_, ?_, ?_, ?_, ?_⟩, ⟨b, ?_⟩, fun j => ?_, ?_⟩
  all_goals simp [go_sem, c0, c1, c2, c3, c4, c5, hok, fA, fB]
theorem eB_size : eB.size ≤ 1000000 := by decide
set_option maxRecDepth 1000000 in
set_option maxHeartbeats 8000000 in
theorem parse_tick (s r : ByteArray) (n p v : Int) (w0 W : World) (v1 v5 v6 v10 v11 v12 v13 v14 v15 v16 v17 v18 v19 v20 v21 v22 v23 v24 v25 v26 v27 v28 v29 v30 v31 v32 v33 v34 v35 v36 v37 v38 v39 v40 v41 v42 v43 v44 v45 v46 v47 v48 v49 v50 v51 v52 v53 v54 v55 v56 v57 v58 v59 v60 v61 v62 v63 v64 v65 v66 v67 v68 v69 v70 v71 v72 v73 v74 v75 v76 v77 v78 v79 v80 v81 v82 v83 v84 v85 v86 v87 : Value) (h : At14 w0 W ⟨0, eB, eB, false, n, p⟩) (hr : RestSays s r n p) (hv : AnySays r v) (h1 : -1 ≤ v) (h2 : v < r.size) (hz : r.size ≤ 70000) (htab : PowTab w0) (hmax : MaxW w0) (hq : r.toList = [116, 105, 99, 107]) :
    (rt 6 body14).wp Tryz.prog (bodyPostD Tryz.prog Tryz.f14 fun e w' => ParseOut s e ∧ Below w0.heap.size w0 w') { tmps := #[.string s, v1, .pointer (some ⟨w0.heap.size, 0, none⟩), .pointer (some ⟨w0.heap.size + 1, 0, none⟩), .string r, v5, v6, .string (cutP r ⟨#[99, 114, 97, 115, 104, 32]⟩), .bool (Lib.hasPrefix (dl r) crashB), .int .i64 v, v10, v11, v12, v13, v14, v15, v16, v17, v18, v19, v20, v21, v22, v23, v24, v25, v26, v27, v28, v29, v30, v31, v32, v33, v34, v35, v36, v37, v38, v39, v40, v41, v42, v43, v44, v45, v46, v47, v48, v49, v50, v51, v52, v53, v54, v55, v56, v57, v58, v59, v60, v61, v62, v63, v64, v65, v66, v67, v68, v69, v70, v71, v72, v73, v74, v75, v76, v77, v78, v79, v80, v81, v82, v83, v84, v85, v86, v87], defers := [{ target := .fn (.func 26) #[.pointer (some ⟨w0.heap.size, 0, none⟩), .pointer (some ⟨w0.heap.size + 1, 0, none⟩)], args := #[] }] } W := by
  conv => arg 2; whnf
  have HS := s14_of h
  unfold S14 at HS
  obtain ⟨hK, c0, c1, c2, c3, c4, c5, c6, f0, f1, f2, f3, f4, f5, f6⟩ := HS
  have HR := Aside.mk hr
  have HV := Aside.mk hv
  have HT := Aside.mk htab
  have HM := Aside.mk hmax
  have HH := Aside.mk h
  clear hr hv htab hmax h hK
  refine wp_seq_k (fun K hK => ?_)
  have HK := Aside.mk hK
  clear hK
  have hq2 : dl r = tickB := (Lib.toList_data r).symm.trans hq
  have HQ := Aside.mk hq2
  clear hq2
  go_wp2
  exact HK.out _ _ (parse_18 s w0 _ ⟨2, eB, eB, false, n, p⟩ _ _ _ _ _ _ _ _ _ _ _ _ _ _ _ _ _ _ _ _ _ _ _ _ _ _ _ _ _ _ _ _ _ _ _ _ _ _ _ _ _ _ _ _ _ _ _ _ _ _ _ _ _ _ _ _ _ _ _ _ _ _ _ _ _ _ _ _ _ _ _ _ _ _ _ _ _ _ _ _ _ _ _ _ _ (HH.out.kind 2) (x_tick HR.out HQ.out) HT.out eB_size eB_size)
set_option maxRecDepth 1000000 in
set_option maxHeartbeats 8000000 in
theorem parse_check (s r : ByteArray) (n p v : Int) (w0 W : World) (v1 v5 v6 v10 v11 v12 v13 v14 v15 v16 v17 v18 v19 v20 v21 v22 v23 v24 v25 v26 v27 v28 v29 v30 v31 v32 v33 v34 v35 v36 v37 v38 v39 v40 v41 v42 v43 v44 v45 v46 v47 v48 v49 v50 v51 v52 v53 v54 v55 v56 v57 v58 v59 v60 v61 v62 v63 v64 v65 v66 v67 v68 v69 v70 v71 v72 v73 v74 v75 v76 v77 v78 v79 v80 v81 v82 v83 v84 v85 v86 v87 : Value) (h : At14 w0 W ⟨0, eB, eB, false, n, p⟩) (hr : RestSays s r n p) (hv : AnySays r v) (h1 : -1 ≤ v) (h2 : v < r.size) (hz : r.size ≤ 70000) (htab : PowTab w0) (hmax : MaxW w0) (hn : ¬ r.toList = [116, 105, 99, 107]) (hq : r.toList = [99, 104, 101, 99, 107, 112, 111, 105, 110, 116]) :
    (rt 6 body14).wp Tryz.prog (bodyPostD Tryz.prog Tryz.f14 fun e w' => ParseOut s e ∧ Below w0.heap.size w0 w') { tmps := #[.string s, v1, .pointer (some ⟨w0.heap.size, 0, none⟩), .pointer (some ⟨w0.heap.size + 1, 0, none⟩), .string r, v5, v6, .string (cutP r ⟨#[99, 114, 97, 115, 104, 32]⟩), .bool (Lib.hasPrefix (dl r) crashB), .int .i64 v, v10, v11, v12, v13, v14, v15, v16, v17, v18, v19, v20, v21, v22, v23, v24, v25, v26, v27, v28, v29, v30, v31, v32, v33, v34, v35, v36, v37, v38, v39, v40, v41, v42, v43, v44, v45, v46, v47, v48, v49, v50, v51, v52, v53, v54, v55, v56, v57, v58, v59, v60, v61, v62, v63, v64, v65, v66, v67, v68, v69, v70, v71, v72, v73, v74, v75, v76, v77, v78, v79, v80, v81, v82, v83, v84, v85, v86, v87], defers := [{ target := .fn (.func 26) #[.pointer (some ⟨w0.heap.size, 0, none⟩), .pointer (some ⟨w0.heap.size + 1, 0, none⟩)], args := #[] }] } W := by
  conv => arg 2; whnf
  have HS := s14_of h
  unfold S14 at HS
  obtain ⟨hK, c0, c1, c2, c3, c4, c5, c6, f0, f1, f2, f3, f4, f5, f6⟩ := HS
  have HR := Aside.mk hr
  have HV := Aside.mk hv
  have HT := Aside.mk htab
  have HM := Aside.mk hmax
  have HH := Aside.mk h
  clear hr hv htab hmax h hK
  refine wp_seq_k (fun K hK => ?_)
  have HK := Aside.mk hK
  clear hK
  have hq2 : dl r = checkB := (Lib.toList_data r).symm.trans hq
  have HQ := Aside.mk hq2
  clear hq2
  go_wp2
  exact HK.out _ _ (parse_18 s w0 _ ⟨3, eB, eB, false, n, p⟩ _ _ _ _ _ _ _ _ _ _ _ _ _ _ _ _ _ _ _ _ _ _ _ _ _ _ _ _ _ _ _ _ _ _ _ _ _ _ _ _ _ _ _ _ _ _ _ _ _ _ _ _ _ _ _ _ _ _ _ _ _ _ _ _ _ _ _ _ _ _ _ _ _ _ _ _ _ _ _ _ _ _ _ _ _ (HH.out.kind 3) (x_check HR.out HQ.out) HT.out eB_size eB_size)
theorem At14.user {w0 W : World} {x : St} (h : At14 w0 W x) (y : ByteArray) : At14 w0 (W.setCell ⟨w0.heap.size, 1, none⟩ (.string y)) { x with u := y } := by
  obtain ⟨hb, ⟨c0, c1, c2, c3, c4, c5⟩, ⟨b, hok⟩, fA, fB⟩ := h
  simp only [Nat.zero_add] at c1 c2 c3 c4 c5
  refine ⟨hb.setCell (by simp) _, ⟨?_, ?_, ?_, ?_, ?_, ?_⟩, ⟨b, ?_⟩, fun j => ?_, ?_⟩
  all_goals simp [go_sem, c0, c1, c2, c3, c4, c5, hok, fA, fB]
theorem At14.text {w0 W : World} {x : St} (h : At14 w0 W x) (y : ByteArray) : At14 w0 (W.setCell ⟨w0.heap.size, 2, none⟩ (.string y)) { x with t := y } := by
  obtain ⟨hb, ⟨c0, c1, c2, c3, c4, c5⟩, ⟨b, hok⟩, fA, fB⟩ := h
  simp only [Nat.zero_add] at c1 c2 c3 c4 c5
  refine ⟨hb.setCell (by simp) _, ⟨?_, ?_, ?_, ?_, ?_, ?_⟩, ⟨b, ?_⟩, fun j => ?_, ?_⟩
  all_goals simp [go_sem, c0, c1, c2, c3, c4, c5, hok, fA, fB]
theorem At14.fail {w0 W : World} {x : St} (h : At14 w0 W x) (y : Bool) : At14 w0 (W.setCell ⟨w0.heap.size, 3, none⟩ (.bool y)) { x with f := y } := by
  obtain ⟨hb, ⟨c0, c1, c2, c3, c4, c5⟩, ⟨b, hok⟩, fA, fB⟩ := h
  simp only [Nat.zero_add] at c1 c2 c3 c4 c5
  refine ⟨hb.setCell (by simp) _, ⟨?_, ?_, ?_, ?_, ?_, ?_⟩, ⟨b, ?_⟩, fun j => ?_, ?_⟩
  all_goals simp [go_sem, c0, c1, c2, c3, c4, c5, hok, fA, fB]
theorem At14.units {w0 W : World} {x : St} (h : At14 w0 W x) (y : Int) : At14 w0 (W.setCell ⟨w0.heap.size, 4, none⟩ (.int .i64 y)) { x with n := y } := by
  obtain ⟨hb, ⟨c0, c1, c2, c3, c4, c5⟩, ⟨b, hok⟩, fA, fB⟩ := h
  simp only [Nat.zero_add] at c1 c2 c3 c4 c5
  refine ⟨hb.setCell (by simp) _, ⟨?_, ?_, ?_, ?_, ?_, ?_⟩, ⟨b, ?_⟩, fun j => ?_, ?_⟩
  all_goals simp [go_sem, c0, c1, c2, c3, c4, c5, hok, fA, fB]
set_option maxRecDepth 1000000 in
set_option maxHeartbeats 8000000 in
theorem parse_panic (s : ByteArray) (w0 W : World) (x : St) (v0 v1 v4 v5 v6 v7 v8 v9 v10 v11 v12 v13 v14 v15 v16 v17 v18 v19 v20 v21 v22 v23 v24 v25 v26 v27 v28 v29 v30 v31 v32 v33 v34 v35 v36 v37 v38 v39 v40 v41 v42 v43 v44 v45 v46 v47 v48 v49 v50 v51 v52 v53 v54 v55 v56 v57 v58 v59 v60 v61 v62 v63 v64 v65 v66 v67 v68 v69 v70 v71 v72 v73 v74 v75 v76 v77 v78 v79 v80 v81 v82 v83 v84 v85 v86 v87 : Value) (h : At14 w0 W x) (hno : NoStep s) :
    (bodyPostD Tryz.prog Tryz.f14 fun e w' => ParseOut s e ∧ Below w0.heap.size w0 w') (Exit.panic [{ v := .iface 62 (.agg #[]), recovered := false }]) { tmps := #[v0, v1, .pointer (some ⟨w0.heap.size, 0, none⟩), .pointer (some ⟨w0.heap.size + 1, 0, none⟩), v4, v5, v6, v7, v8, v9, v10, v11, v12, v13, v14, v15, v16, v17, v18, v19, v20, v21, v22, v23, v24, v25, v26, v27, v28, v29, v30, v31, v32, v33, v34, v35, v36, v37, v38, v39, v40, v41, v42, v43, v44, v45, v46, v47, v48, v49, v50, v51, v52, v53, v54, v55, v56, v57, v58, v59, v60, v61, v62, v63, v64, v65, v66, v67, v68, v69, v70, v71, v72, v73, v74, v75, v76, v77, v78, v79, v80, v81, v82, v83, v84, v85, v86, v87], defers := [{ target := .fn (.func 26) #[.pointer (some ⟨w0.heap.size, 0, none⟩), .pointer (some ⟨w0.heap.size + 1, 0, none⟩)], args := #[] }] } W := by
  obtain ⟨b, hok⟩ := h.ok
  have hbel := h.below
  refine leaves_cons (f := 26) (args := #[.pointer (some ⟨w0.heap.size, 0, none⟩), .pointer (some ⟨w0.heap.size + 1, 0, none⟩)]) (by simp) (by simp [go_sem]) ?_
  refine (catch_broken w0.heap.size (w0.heap.size + 1) x b W [] h.cells hok (by omega) h.frA h.frB).mono ?_
  rintro e u' w2 ⟨rfl, rfl, hc, hok2, hb2⟩
  unfold CellsAt at hc
  simp only [Nat.zero_add] at hc
  obtain ⟨c0, c1, c2, c3, c4, c5⟩ := hc
  have HF : Aside (ParseOut s (.returned (.tuple #[aggS ⟨0, eB, eB, false, 0, 0⟩, .bool false])) ∧ Below w0.heap.size w0 w2) := ⟨⟨_, false, rfl, by rw [stepOf_no hno]; rfl⟩, hbel.trans hb2⟩
  clear hno h hbel hb2
  simp [Leaves, settle, results, Tryz.results14, go_sem, c0, c1, c2, c3, c4, c5, hok2]
  exact HF.out
set_option maxRecDepth 1000000 in
set_option maxHeartbeats 8000000 in
theorem parse_crash (s r : ByteArray) (n p v : Int) (w0 W : World) (v1 v5 v6 v10 v11 v12 v13 v14 v15 v16 v17 v18 v19 v20 v21 v22 v23 v24 v25 v26 v27 v28 v29 v30 v31 v32 v33 v34 v35 v36 v37 v38 v39 v40 v41 v42 v43 v44 v45 v46 v47 v48 v49 v50 v51 v52 v53 v54 v55 v56 v57 v58 v59 v60 v61 v62 v63 v64 v65 v66 v67 v68 v69 v70 v71 v72 v73 v74 v75 v76 v77 v78 v79 v80 v81 v82 v83 v84 v85 v86 v87 : Value) (h : At14 w0 W ⟨0, eB, eB, false, n, p⟩) (hr : RestSays s r n p) (hv : AnySays r v) (h1 : -1 ≤ v) (h2 : v < r.size) (hz : r.size ≤ 70000) (htab : PowTab w0) (hmax : MaxW w0) (hn : ¬ r.toList = [116, 105, 99, 107]) (hq : ¬ r.toList = [99, 104, 101, 99, 107, 112, 111, 105, 110, 116]) (hc : Lib.hasPrefix (dl r) crashB = true) :
    (rt 6 body14).wp Tryz.prog (bodyPostD Tryz.prog Tryz.f14 fun e w' => ParseOut s e ∧ Below w0.heap.size w0 w') { tmps := #[.string s, v1, .pointer (some ⟨w0.heap.size, 0, none⟩), .pointer (some ⟨w0.heap.size + 1, 0, none⟩), .string r, v5, v6, .string (cutP r ⟨#[99, 114, 97, 115, 104, 32]⟩), .bool (Lib.hasPrefix (dl r) crashB), .int .i64 v, v10, v11, v12, v13, v14, v15, v16, v17, v18, v19, v20, v21, v22, v23, v24, v25, v26, v27, v28, v29, v30, v31, v32, v33, v34, v35, v36, v37, v38, v39, v40, v41, v42, v43, v44, v45, v46, v47, v48, v49, v50, v51, v52, v53, v54, v55, v56, v57, v58, v59, v60, v61, v62, v63, v64, v65, v66, v67, v68, v69, v70, v71, v72, v73, v74, v75, v76, v77, v78, v79, v80, v81, v82, v83, v84, v85, v86, v87], defers := [{ target := .fn (.func 26) #[.pointer (some ⟨w0.heap.size, 0, none⟩), .pointer (some ⟨w0.heap.size + 1, 0, none⟩)], args := #[] }] } W := by
  rw [hc]
  have HC := Aside.mk hc
  clear hc
  conv => arg 2; whnf
  have HS := s14_of h
  unfold S14 at HS
  obtain ⟨hK, c0, c1, c2, c3, c4, c5, c6, f0, f1, f2, f3, f4, f5, f6⟩ := HS
  have HR := Aside.mk hr
  have HV := Aside.mk hv
  have HT := Aside.mk htab
  have HM := Aside.mk hmax
  have HH := Aside.mk h
  clear hr hv htab hmax h hK
  refine wp_seq_k (fun K hK => ?_)
  have HK := Aside.mk hK
  clear hK
  have hcs : (cutP r ⟨#[99, 114, 97, 115, 104, 32]⟩).size ≤ 1000000 := Nat.le_trans (cutP_size _ _) (by omega)
  have h4 := HH.out.kind 4
  have b1 : (r.toList == [116, 105, 99, 107]) = false := beq_eq_false_iff_ne.mpr hn
  have b2 : (r.toList == [99, 104, 101, 99, 107, 112, 111, 105, 110, 116]) = false := beq_eq_false_iff_ne.mpr hq
  go_wp2_with fail
  refine (number28 _ _ hcs (maxW_below HM.out h4.below)).mono ?_
  rintro e w2 ⟨hN, hb⟩
  rcases hN with ⟨n', q, rfl, _, _, _, hs⟩ | ⟨rfl, hno⟩
  · have h5 := h4.step hb
    have HX := Aside.mk (x_crash HR.out HC.out rfl hs)
    have hh := s14_of h5
    unfold S14 at hh
    obtain ⟨_, d0, d1, d2, d3, d4, d5, d6, g0, g1, g2, g3, g4, g5, g6⟩ := hh
    have H5 := Aside.mk h5
    clear hs h4 h5 hb
    dsimp only
    go_wp2
    exact HK.out _ _ (parse_18 s w0 _ ⟨4, eB, eB, false, n, n'⟩ _ _ _ _ _ _ _ _ _ _ _ _ _ _ _ _ _ _ _ _ _ _ _ _ _ _ _ _ _ _ _ _ _ _ _ _ _ _ _ _ _ _ _ _ _ _ _ _ _ _ _ _ _ _ _ _ _ _ _ _ _ _ _ _ _ _ _ _ _ _ _ _ _ _ _ _ _ _ _ _ _ _ _ _ _ (H5.out.keep n') HX.out HT.out eB_size eB_size)
  · have HX := Aside.mk (crash_no HR.out HC.out rfl hno)
    dsimp only
    exact parse_panic s w0 w2 _ _ _ _ _ _ _ _ _ _ _ _ _ _ _ _ _ _ _ _ _ _ _ _ _ _ _ _ _ _ _ _ _ _ _ _ _ _ _ _ _ _ _ _ _ _ _ _ _ _ _ _ _ _ _ _ _ _ _ _ _ _ _ _ _ _ _ _ _ _ _ _ _ _ _ _ _ _ _ _ _ _ _ _ _ _ _ (h4.step hb) HX.out
/-- Where no ask stands, no line does. -/
theorem no_ask {s r : ByteArray} {n p v : Int} (hr : RestSays s r n p) (h1 : dl r ≠ tickB) (h2 : dl r ≠ checkB) (h3 : Lib.hasPrefix (dl r) crashB = false) (ha : AnySays r v)
    (hno : ¬ (0 < v ∧ ∀ i : Nat, v = i → Lib.hasPrefix (dl (r.extract (i + 1) r.size)) [32] = true)) (x : St) : XSays s x := fun y hg e => by
  exfalso
  obtain ⟨h0, i, hi, hlt, h32⟩ := ask_sign hr h1 h2 h3 ha hg e
  refine hno ⟨h0, fun j hj => ?_⟩
  obtain rfl : j = i := by omega
  have h32 := h32 hlt
  unfold Lib.hasPrefix
  refine List.isPrefixOf_iff_prefix.2 ⟨(dl r).drop (j + 2), ?_⟩
  show [32] ++ (dl r).drop (j + 2) = (r.extract (j + 1) r.size).data.toList
  rw [Lib.extract_data, List.take_of_length_le (by rw [List.length_drop, Lib.size_eq]; exact Nat.le_refl _)]
  have : r.data.toList.drop (j + 1) = r.data.toList[j + 1] :: r.data.toList.drop (j + 1 + 1) := List.drop_eq_getElem_cons (show j + 1 < r.data.toList.length from hlt)
  rw [this, show r.data.toList[j + 1] = 32 from h32]
  rfl
set_option maxRecDepth 1000000 in
set_option maxHeartbeats 8000000 in
theorem parse_noat (s r : ByteArray) (n p v : Int) (w0 W : World) (v1 v5 v6 v10 v11 v12 v13 v14 v15 v16 v17 v18 v19 v20 v21 v22 v23 v24 v25 v26 v27 v28 v29 v30 v31 v32 v33 v34 v35 v36 v37 v38 v39 v40 v41 v42 v43 v44 v45 v46 v47 v48 v49 v50 v51 v52 v53 v54 v55 v56 v57 v58 v59 v60 v61 v62 v63 v64 v65 v66 v67 v68 v69 v70 v71 v72 v73 v74 v75 v76 v77 v78 v79 v80 v81 v82 v83 v84 v85 v86 v87 : Value) (h : At14 w0 W ⟨0, eB, eB, false, n, p⟩) (hr : RestSays s r n p) (hv : AnySays r v) (h1 : -1 ≤ v) (h2 : v < r.size) (hz : r.size ≤ 70000) (htab : PowTab w0) (hmax : MaxW w0) (hn : ¬ r.toList = [116, 105, 99, 107]) (hq : ¬ r.toList = [99, 104, 101, 99, 107, 112, 111, 105, 110, 116]) (hc : Lib.hasPrefix (dl r) crashB = false) (hv0 : ¬ 0 < v) :
    (rt 6 body14).wp Tryz.prog (bodyPostD Tryz.prog Tryz.f14 fun e w' => ParseOut s e ∧ Below w0.heap.size w0 w') { tmps := #[.string s, v1, .pointer (some ⟨w0.heap.size, 0, none⟩), .pointer (some ⟨w0.heap.size + 1, 0, none⟩), .string r, v5, v6, .string (cutP r ⟨#[99, 114, 97, 115, 104, 32]⟩), .bool (Lib.hasPrefix (dl r) crashB), .int .i64 v, v10, v11, v12, v13, v14, v15, v16, v17, v18, v19, v20, v21, v22, v23, v24, v25, v26, v27, v28, v29, v30, v31, v32, v33, v34, v35, v36, v37, v38, v39, v40, v41, v42, v43, v44, v45, v46, v47, v48, v49, v50, v51, v52, v53, v54, v55, v56, v57, v58, v59, v60, v61, v62, v63, v64, v65, v66, v67, v68, v69, v70, v71, v72, v73, v74, v75, v76, v77, v78, v79, v80, v81, v82, v83, v84, v85, v86, v87], defers := [{ target := .fn (.func 26) #[.pointer (some ⟨w0.heap.size, 0, none⟩), .pointer (some ⟨w0.heap.size + 1, 0, none⟩)], args := #[] }] } W := by
  have b1 : (r.toList == [116, 105, 99, 107]) = false := beq_eq_false_iff_ne.mpr hn
  have b2 : (r.toList == [99, 104, 101, 99, 107, 112, 111, 105, 110, 116]) = false := beq_eq_false_iff_ne.mpr hq
  have q1 : dl r ≠ tickB := fun e => hn ((Lib.toList_data r).trans e)
  have q2 : dl r ≠ checkB := fun e => hq ((Lib.toList_data r).trans e)
  have HX := Aside.mk (no_ask hr q1 q2 hc hv (fun hx => hv0 hx.1) ⟨0, eB, eB, false, n, p⟩)
  clear q1 q2
  rw [hc]
  conv => arg 2; whnf
  have HS := s14_of h
  unfold S14 at HS
  obtain ⟨hK, c0, c1, c2, c3, c4, c5, c6, f0, f1, f2, f3, f4, f5, f6⟩ := HS
  have HR := Aside.mk hr
  have HV := Aside.mk hv
  have HT := Aside.mk htab
  have HM := Aside.mk hmax
  have HH := Aside.mk h
  clear hr hv htab hmax h hK
  refine wp_seq_k (fun K hK => ?_)
  have HK := Aside.mk hK
  clear hK
  go_wp2
  exact HK.out _ _ (parse_18 s w0 _ ⟨0, eB, eB, false, n, p⟩ _ _ _ _ _ _ _ _ _ _ _ _ _ _ _ _ _ _ _ _ _ _ _ _ _ _ _ _ _ _ _ _ _ _ _ _ _ _ _ _ _ _ _ _ _ _ _ _ _ _ _ _ _ _ _ _ _ _ _ _ _ _ _ _ _ _ _ _ _ _ _ _ _ _ _ _ _ _ _ _ _ _ _ _ _ HH.out HX.out HT.out eB_size eB_size)
set_option maxRecDepth 1000000 in
set_option maxHeartbeats 8000000 in
theorem parse_noblank (s r : ByteArray) (n p : Int) (i : Nat) (w0 W : World) (v1 v5 v6 v10 v11 v12 v13 v14 v15 v16 v17 v18 v19 v20 v21 v22 v23 v24 v25 v26 v27 v28 v29 v30 v31 v32 v33 v34 v35 v36 v37 v38 v39 v40 v41 v42 v43 v44 v45 v46 v47 v48 v49 v50 v51 v52 v53 v54 v55 v56 v57 v58 v59 v60 v61 v62 v63 v64 v65 v66 v67 v68 v69 v70 v71 v72 v73 v74 v75 v76 v77 v78 v79 v80 v81 v82 v83 v84 v85 v86 v87 : Value) (h : At14 w0 W ⟨0, eB, eB, false, n, p⟩) (hr : RestSays s r n p) (hv : AnySays r i) (h1 : 0 < i) (h2 : i < r.size) (hz : r.size ≤ 70000) (htab : PowTab w0) (hmax : MaxW w0) (hn : ¬ r.toList = [116, 105, 99, 107]) (hq : ¬ r.toList = [99, 104, 101, 99, 107, 112, 111, 105, 110, 116]) (hc : Lib.hasPrefix (dl r) crashB = false) (hb : Lib.hasPrefix (dl (r.extract (i + 1) r.size)) [32] = false) :
    (rt 6 body14).wp Tryz.prog (bodyPostD Tryz.prog Tryz.f14 fun e w' => ParseOut s e ∧ Below w0.heap.size w0 w') { tmps := #[.string s, v1, .pointer (some ⟨w0.heap.size, 0, none⟩), .pointer (some ⟨w0.heap.size + 1, 0, none⟩), .string r, v5, v6, .string (cutP r ⟨#[99, 114, 97, 115, 104, 32]⟩), .bool (Lib.hasPrefix (dl r) crashB), .int .i64 (i : Int), v10, v11, v12, v13, v14, v15, v16, v17, v18, v19, v20, v21, v22, v23, v24, v25, v26, v27, v28, v29, v30, v31, v32, v33, v34, v35, v36, v37, v38, v39, v40, v41, v42, v43, v44, v45, v46, v47, v48, v49, v50, v51, v52, v53, v54, v55, v56, v57, v58, v59, v60, v61, v62, v63, v64, v65, v66, v67, v68, v69, v70, v71, v72, v73, v74, v75, v76, v77, v78, v79, v80, v81, v82, v83, v84, v85, v86, v87], defers := [{ target := .fn (.func 26) #[.pointer (some ⟨w0.heap.size, 0, none⟩), .pointer (some ⟨w0.heap.size + 1, 0, none⟩)], args := #[] }] } W := by
  have b1 : (r.toList == [116, 105, 99, 107]) = false := beq_eq_false_iff_ne.mpr hn
  have b2 : (r.toList == [99, 104, 101, 99, 107, 112, 111, 105, 110, 116]) = false := beq_eq_false_iff_ne.mpr hq
  have q1 : dl r ≠ tickB := fun e => hn ((Lib.toList_data r).trans e)
  have q2 : dl r ≠ checkB := fun e => hq ((Lib.toList_data r).trans e)
  have HX := Aside.mk (no_ask hr q1 q2 hc hv (fun hx => by rw [hx.2 i rfl] at hb; cases hb) ⟨0, eB, eB, false, n, p⟩)
  have HB : Aside (Lib.hasPrefix (dl (r.extract (i + 1) r.size)) (dl ⟨#[32]⟩) = false) := ⟨hb⟩
  have g1 : (0 : Int) < (i : Int) := by omega
  have g2 : (0 : Int) ≤ (i : Int) + 1 := by omega
  have g3 : (i : Int) + 1 ≤ (r.size : Int) := by omega
  clear q1 q2 hb
  rw [hc]
  conv => arg 2; whnf
  have HS := s14_of h
  unfold S14 at HS
  obtain ⟨hK, c0, c1, c2, c3, c4, c5, c6, f0, f1, f2, f3, f4, f5, f6⟩ := HS
  have HR := Aside.mk hr
  have HV := Aside.mk hv
  have HT := Aside.mk htab
  have HM := Aside.mk hmax
  have HH := Aside.mk h
  clear hr hv htab hmax h hK
  refine wp_seq_k (fun K hK => ?_)
  have HK := Aside.mk hK
  clear hK
  go_wp2_with (go_at_call 30; refine (hasPrefix30 _ _ _).mono ?_; rintro e w' ⟨rfl, hw⟩; rw [hw, HB.out]; clear hw)
  exact HK.out _ _ (parse_18 s w0 _ ⟨0, eB, eB, false, n, p⟩ _ _ _ _ _ _ _ _ _ _ _ _ _ _ _ _ _ _ _ _ _ _ _ _ _ _ _ _ _ _ _ _ _ _ _ _ _ _ _ _ _ _ _ _ _ _ _ _ _ _ _ _ _ _ _ _ _ _ _ _ _ _ _ _ _ _ _ _ _ _ _ _ _ _ _ _ _ _ _ _ _ _ _ _ _ HH.out HX.out HT.out eB_size eB_size)
set_option maxRecDepth 1000000 in
set_option maxHeartbeats 8000000 in
theorem parse_ask (s r : ByteArray) (n p : Int) (i : Nat) (w0 W : World) (v1 v5 v6 v10 v11 v12 v13 v14 v15 v16 v17 v18 v19 v20 v21 v22 v23 v24 v25 v26 v27 v28 v29 v30 v31 v32 v33 v34 v35 v36 v37 v38 v39 v40 v41 v42 v43 v44 v45 v46 v47 v48 v49 v50 v51 v52 v53 v54 v55 v56 v57 v58 v59 v60 v61 v62 v63 v64 v65 v66 v67 v68 v69 v70 v71 v72 v73 v74 v75 v76 v77 v78 v79 v80 v81 v82 v83 v84 v85 v86 v87 : Value) (h : At14 w0 W ⟨0, eB, eB, false, n, p⟩) (hr : RestSays s r n p) (hv : AnySays r i) (h1 : 0 < i) (h2 : i < r.size) (hz : r.size ≤ 70000) (htab : PowTab w0) (hmax : MaxW w0) (hn : ¬ r.toList = [116, 105, 99, 107]) (hq : ¬ r.toList = [99, 104, 101, 99, 107, 112, 111, 105, 110, 116]) (hc : Lib.hasPrefix (dl r) crashB = false) (hb : Lib.hasPrefix (dl (r.extract (i + 1) r.size)) [32] = true) :
    (rt 6 body14).wp Tryz.prog (bodyPostD Tryz.prog Tryz.f14 fun e w' => ParseOut s e ∧ Below w0.heap.size w0 w') { tmps := #[.string s, v1, .pointer (some ⟨w0.heap.size, 0, none⟩), .pointer (some ⟨w0.heap.size + 1, 0, none⟩), .string r, v5, v6, .string (cutP r ⟨#[99, 114, 97, 115, 104, 32]⟩), .bool (Lib.hasPrefix (dl r) crashB), .int .i64 (i : Int), v10, v11, v12, v13, v14, v15, v16, v17, v18, v19, v20, v21, v22, v23, v24, v25, v26, v27, v28, v29, v30, v31, v32, v33, v34, v35, v36, v37, v38, v39, v40, v41, v42, v43, v44, v45, v46, v47, v48, v49, v50, v51, v52, v53, v54, v55, v56, v57, v58, v59, v60, v61, v62, v63, v64, v65, v66, v67, v68, v69, v70, v71, v72, v73, v74, v75, v76, v77, v78, v79, v80, v81, v82, v83, v84, v85, v86, v87], defers := [{ target := .fn (.func 26) #[.pointer (some ⟨w0.heap.size, 0, none⟩), .pointer (some ⟨w0.heap.size + 1, 0, none⟩)], args := #[] }] } W := by
  have b1 : (r.toList == [116, 105, 99, 107]) = false := beq_eq_false_iff_ne.mpr hn
  have b2 : (r.toList == [99, 104, 101, 99, 107, 112, 111, 105, 110, 116]) = false := beq_eq_false_iff_ne.mpr hq
  have q1 : dl r ≠ tickB := fun e => hn ((Lib.toList_data r).trans e)
  have q2 : dl r ≠ checkB := fun e => hq ((Lib.toList_data r).trans e)
  have hx := x_ask hr q1 q2 hc hv h2
  have hf : ((r[i].toNat : Int) == 33) = decide (r[i] = 33) := by
    by_cases e : r[i] = 33
    · rw [e]; rfl
    · rw [decide_eq_false e, beq_eq_false_iff_ne]
      intro e2
      exact e (UInt8.toNat.inj (show r[i].toNat = 33 by omega))
  rw [← hf] at hx
  have HX := Aside.mk hx
  have HB : Aside (Lib.hasPrefix (dl (r.extract (i + 1) r.size)) (dl ⟨#[32]⟩) = true) := ⟨hb⟩
  have hlen := prefix_le HB.out
  have hl2 : i + 2 ≤ r.size := by
    have e1 : (⟨#[32]⟩ : ByteArray).size = 1 := rfl
    rw [e1, ByteArray.size_extract] at hlen
    omega
  have g1 : (0 : Int) < (i : Int) := by omega
  have g2 : (0 : Int) ≤ (i : Int) + 1 := by omega
  have g3 : (i : Int) + 1 ≤ (r.size : Int) := by omega
  have g4 : (i : Int) ≤ (r.size : Int) := by omega
  have g5 : (i : Int) < (r.size : Int) := by omega
  have g6 : (i : Int) + 2 ≤ (r.size : Int) := by omega
  have g7 : (0 : Int) ≤ (i : Int) + 2 := by omega
  have g8 : IntKind.i64.wrap ((i : Int) + 2) = (i : Int) + 2 := wrap_small _ (by omega) (by omega)
  have g9 : ((i : Int) + 2).toNat = i + 2 := by omega
  clear q1 q2 hb hx hf hlen
  rw [hc]
  conv => arg 2; whnf
  have HS := s14_of h
  unfold S14 at HS
  obtain ⟨hK, c0, c1, c2, c3, c4, c5, c6, f0, f1, f2, f3, f4, f5, f6⟩ := HS
  have HR := Aside.mk hr
  have HV := Aside.mk hv
  have HT := Aside.mk htab
  have HM := Aside.mk hmax
  have HH := Aside.mk h
  clear hr hv htab hmax h hK
  refine wp_seq_k (fun K hK => ?_)
  have HK := Aside.mk hK
  clear hK
  go_wp2_with (go_at_call 30; refine (hasPrefix30 _ _ _).mono ?_; rintro e w' ⟨rfl, hw⟩; rw [hw, HB.out]; clear hw)
  refine wp_region_noPanic ?_
  refine wp_region_held_drew (S := fun _ => True) (by kernel_rfl) trivial (fun _ => ?_)
  refine wpAnyH_take (i := 0) (oi := _) (v := .string r) rfl (by kernel_rfl) (by kernel_rfl) (by kernel_rfl) (fun _ _ _ h => h) (Or.inl ⟨by rfl, fun w _ => ?_⟩) trivial ?_
  · go_simp
  try simp only [Act.put, List.setIfInBounds_toArray, List.set_cons_zero, List.set_cons_succ]
  refine wpAnyH_take (i := 1) (oi := _) (v := .int .i64 (i : Int)) rfl (by kernel_rfl) (by kernel_rfl) (by kernel_rfl) (fun _ _ _ h => h) (Or.inl ⟨by rfl, fun w _ => ?_⟩) trivial ?_
  · go_simp
  try simp only [Act.put, List.setIfInBounds_toArray, List.set_cons_zero, List.set_cons_succ]
  refine wpAnyH_take (i := 2) (oi := _) (v := .string (r.extract 0 i)) rfl (by kernel_rfl) (by kernel_rfl) (by kernel_rfl) (fun _ _ _ h => h) (Or.inl ⟨by rfl, fun w _ => ?_⟩) trivial ?_
  · go_simp
  try simp only [Act.put, List.setIfInBounds_toArray, List.set_cons_zero, List.set_cons_succ]
  refine wpAnyH_take (i := 3) (oi := _) (v := .string r) rfl (by kernel_rfl) (by kernel_rfl) (by kernel_rfl) (fun _ _ _ h => h) (Or.inl ⟨by rfl, fun w _ => ?_⟩) trivial ?_
  · go_simp
  try simp only [Act.put, List.setIfInBounds_toArray, List.set_cons_zero, List.set_cons_succ]
  refine wpAnyH_take (i := 4) (oi := _) (v := .int .i64 (i : Int)) rfl (by kernel_rfl) (by kernel_rfl) (by kernel_rfl) (fun _ _ _ h => h) (Or.inl ⟨by rfl, fun w _ => ?_⟩) trivial ?_
  · go_simp
  try simp only [Act.put, List.setIfInBounds_toArray, List.set_cons_zero, List.set_cons_succ]
  refine wpAnyH_take (i := 5) (oi := _) (v := .int .u8 (r[i].toNat : Int)) rfl (by kernel_rfl) (by kernel_rfl) (by kernel_rfl) (fun _ _ _ h => h) (Or.inl ⟨by rfl, fun w _ => ?_⟩) trivial ?_
  · go_simp
  try simp only [Act.put, List.setIfInBounds_toArray, List.set_cons_zero, List.set_cons_succ]
  refine wpAnyH_take (i := 6) (oi := _) (v := .bool ((r[i].toNat : Int) == 33)) rfl (by kernel_rfl) (by kernel_rfl) (by kernel_rfl) (fun _ _ _ h => h) (Or.inl ⟨by rfl, fun w _ => ?_⟩) trivial ?_
  · go_simp
  try simp only [Act.put, List.setIfInBounds_toArray, List.set_cons_zero, List.set_cons_succ]
  refine wpAnyH_take (i := 7) (oi := _) (v := .string r) rfl (by kernel_rfl) (by kernel_rfl) (by kernel_rfl) (fun _ _ _ h => h) (Or.inl ⟨by rfl, fun w _ => ?_⟩) trivial ?_
  · go_simp
  try simp only [Act.put, List.setIfInBounds_toArray, List.set_cons_zero, List.set_cons_succ]
  refine wpAnyH_take (i := 8) (oi := _) (v := .int .i64 (i : Int)) rfl (by kernel_rfl) (by kernel_rfl) (by kernel_rfl) (fun _ _ _ h => h) (Or.inl ⟨by rfl, fun w _ => ?_⟩) trivial ?_
  · go_simp
  try simp only [Act.put, List.setIfInBounds_toArray, List.set_cons_zero, List.set_cons_succ]
  refine wpAnyH_take (i := 9) (oi := _) (v := .int .i64 ((i : Int) + 2)) rfl (by kernel_rfl) (by kernel_rfl) (by kernel_rfl) (fun _ _ _ h => h) (Or.inl ⟨by rfl, fun w _ => ?_⟩) trivial ?_
  · go_simp
  try simp only [Act.put, List.setIfInBounds_toArray, List.set_cons_zero, List.set_cons_succ]
  refine wpAnyH_take (i := 10) (oi := _) (v := .string (r.extract (i + 2) r.size)) rfl (by kernel_rfl) (by kernel_rfl) (by kernel_rfl) (fun _ _ _ h => h) (Or.inl ⟨by rfl, fun w _ => ?_⟩) trivial ?_
  · go_simp
  try simp only [Act.put, List.setIfInBounds_toArray, List.set_cons_zero, List.set_cons_succ]
  refine wpAnyH_take (i := 11) (oi := _) (v := .pointer (some ⟨w0.heap.size, 0, none⟩)) rfl (by kernel_rfl) (by kernel_rfl) (by kernel_rfl) (fun _ _ _ h => h) (Or.inl ⟨by rfl, fun w _ => ?_⟩) trivial ?_
  · go_simp
  try simp only [Act.put, List.setIfInBounds_toArray, List.set_cons_zero, List.set_cons_succ]
  refine wpAnyH_ready (rs := [12]) (by kernel_rfl) (by simp) (AllReadyH.cons (o := _) rfl (fun K hK => ?_) AllReadyH.nil)
  go_simp
  refine hK.out _ _ trivial (fun _ => ?_)
  try simp only [Act.put, List.setIfInBounds_toArray, List.set_cons_zero, List.set_cons_succ]
  clear hK
  refine wpAnyH_take (i := 13) (oi := _) (v := .pointer (some ⟨w0.heap.size, 1, none⟩)) rfl (by kernel_rfl) (by kernel_rfl) (by kernel_rfl) (fun _ _ _ h => h) (Or.inl ⟨by rfl, fun w _ => ?_⟩) trivial ?_
  · go_simp
  try simp only [Act.put, List.setIfInBounds_toArray, List.set_cons_zero, List.set_cons_succ]
  refine wpAnyH_ready (rs := [14]) (by kernel_rfl) (by simp) (AllReadyH.cons (o := _) rfl (fun K hK => ?_) AllReadyH.nil)
  go_simp
  refine hK.out _ _ trivial (fun _ => ?_)
  try simp only [Act.put, List.setIfInBounds_toArray, List.set_cons_zero, List.set_cons_succ]
  clear hK
  refine wpAnyH_take (i := 15) (oi := _) (v := .pointer (some ⟨w0.heap.size, 3, none⟩)) rfl (by kernel_rfl) (by kernel_rfl) (by kernel_rfl) (fun _ _ _ h => h) (Or.inl ⟨by rfl, fun w _ => ?_⟩) trivial ?_
  · go_simp
  try simp only [Act.put, List.setIfInBounds_toArray, List.set_cons_zero, List.set_cons_succ]
  refine wpAnyH_ready (rs := [16]) (by kernel_rfl) (by simp) (AllReadyH.cons (o := _) rfl (fun K hK => ?_) AllReadyH.nil)
  go_simp
  refine hK.out _ _ trivial (fun _ => ?_)
  try simp only [Act.put, List.setIfInBounds_toArray, List.set_cons_zero, List.set_cons_succ]
  clear hK
  refine wpAnyH_take (i := 17) (oi := _) (v := .pointer (some ⟨w0.heap.size, 2, none⟩)) rfl (by kernel_rfl) (by kernel_rfl) (by kernel_rfl) (fun _ _ _ h => h) (Or.inl ⟨by rfl, fun w _ => ?_⟩) trivial ?_
  · go_simp
  try simp only [Act.put, List.setIfInBounds_toArray, List.set_cons_zero, List.set_cons_succ]
  refine wpAnyH_ready (rs := [18]) (by kernel_rfl) (by simp) (AllReadyH.cons (o := _) rfl (fun K hK => ?_) AllReadyH.nil)
  go_simp
  refine hK.out _ _ trivial (fun _ => ?_)
  try simp only [Act.put, List.setIfInBounds_toArray, List.set_cons_zero, List.set_cons_succ]
  clear hK
  refine wpAnyH_done (by kernel_rfl) ?_ _
  refine NoPanic.normal ?_
  have hA := ((((HH.out.step (Below.refl W.heap.size W).drew).kind 1).user (r.extract 0 i)).fail ((r[i].toNat : Int) == 33)).text (r.extract (i + 2) r.size)
  exact HK.out _ _ (parse_18 s w0 _ ⟨1, r.extract 0 i, r.extract (i + 2) r.size, (r[i].toNat : Int) == 33, n, p⟩ _ _ _ _ _ _ _ _ _ _ _ _ _ _ _ _ _ _ _ _ _ _ _ _ _ _ _ _ _ _ _ _ _ _ _ _ _ _ _ _ _ _ _ _ _ _ _ _ _ _ _ _ _ _ _ _ _ _ _ _ _ _ _ _ _ _ _ _ _ _ _ _ _ _ _ _ _ _ _ _ _ _ _ _ _ hA HX.out HT.out (by show (r.extract 0 i).size ≤ 1000000; rw [ByteArray.size_extract]; omega) (by show (r.extract (i + 2) r.size).size ≤ 1000000; rw [ByteArray.size_extract]; omega))
theorem parse_sw (s r : ByteArray) (n p v : Int) (w0 W : World) (v1 v5 v6 v10 v11 v12 v13 v14 v15 v16 v17 v18 v19 v20 v21 v22 v23 v24 v25 v26 v27 v28 v29 v30 v31 v32 v33 v34 v35 v36 v37 v38 v39 v40 v41 v42 v43 v44 v45 v46 v47 v48 v49 v50 v51 v52 v53 v54 v55 v56 v57 v58 v59 v60 v61 v62 v63 v64 v65 v66 v67 v68 v69 v70 v71 v72 v73 v74 v75 v76 v77 v78 v79 v80 v81 v82 v83 v84 v85 v86 v87 : Value) (h : At14 w0 W ⟨0, eB, eB, false, n, p⟩) (hr : RestSays s r n p) (hv : AnySays r v) (h1 : -1 ≤ v) (h2 : v < r.size) (hz : r.size ≤ 70000) (htab : PowTab w0) (hmax : MaxW w0) :
    (rt 6 body14).wp Tryz.prog (bodyPostD Tryz.prog Tryz.f14 fun e w' => ParseOut s e ∧ Below w0.heap.size w0 w') { tmps := #[.string s, v1, .pointer (some ⟨w0.heap.size, 0, none⟩), .pointer (some ⟨w0.heap.size + 1, 0, none⟩), .string r, v5, v6, .string (cutP r ⟨#[99, 114, 97, 115, 104, 32]⟩), .bool (Lib.hasPrefix (dl r) crashB), .int .i64 v, v10, v11, v12, v13, v14, v15, v16, v17, v18, v19, v20, v21, v22, v23, v24, v25, v26, v27, v28, v29, v30, v31, v32, v33, v34, v35, v36, v37, v38, v39, v40, v41, v42, v43, v44, v45, v46, v47, v48, v49, v50, v51, v52, v53, v54, v55, v56, v57, v58, v59, v60, v61, v62, v63, v64, v65, v66, v67, v68, v69, v70, v71, v72, v73, v74, v75, v76, v77, v78, v79, v80, v81, v82, v83, v84, v85, v86, v87], defers := [{ target := .fn (.func 26) #[.pointer (some ⟨w0.heap.size, 0, none⟩), .pointer (some ⟨w0.heap.size + 1, 0, none⟩)], args := #[] }] } W := by
  by_cases hn : r.toList = [116, 105, 99, 107]
  · exact parse_tick s r n p v w0 W v1 v5 v6 v10 v11 v12 v13 v14 v15 v16 v17 v18 v19 v20 v21 v22 v23 v24 v25 v26 v27 v28 v29 v30 v31 v32 v33 v34 v35 v36 v37 v38 v39 v40 v41 v42 v43 v44 v45 v46 v47 v48 v49 v50 v51 v52 v53 v54 v55 v56 v57 v58 v59 v60 v61 v62 v63 v64 v65 v66 v67 v68 v69 v70 v71 v72 v73 v74 v75 v76 v77 v78 v79 v80 v81 v82 v83 v84 v85 v86 v87 h hr hv h1 h2 hz htab hmax hn
  · by_cases hq : r.toList = [99, 104, 101, 99, 107, 112, 111, 105, 110, 116]
    · exact parse_check s r n p v w0 W v1 v5 v6 v10 v11 v12 v13 v14 v15 v16 v17 v18 v19 v20 v21 v22 v23 v24 v25 v26 v27 v28 v29 v30 v31 v32 v33 v34 v35 v36 v37 v38 v39 v40 v41 v42 v43 v44 v45 v46 v47 v48 v49 v50 v51 v52 v53 v54 v55 v56 v57 v58 v59 v60 v61 v62 v63 v64 v65 v66 v67 v68 v69 v70 v71 v72 v73 v74 v75 v76 v77 v78 v79 v80 v81 v82 v83 v84 v85 v86 v87 h hr hv h1 h2 hz htab hmax hn hq
    · cases hc : Lib.hasPrefix (dl r) crashB with
      | true => rw [← hc]; exact parse_crash s r n p v w0 W v1 v5 v6 v10 v11 v12 v13 v14 v15 v16 v17 v18 v19 v20 v21 v22 v23 v24 v25 v26 v27 v28 v29 v30 v31 v32 v33 v34 v35 v36 v37 v38 v39 v40 v41 v42 v43 v44 v45 v46 v47 v48 v49 v50 v51 v52 v53 v54 v55 v56 v57 v58 v59 v60 v61 v62 v63 v64 v65 v66 v67 v68 v69 v70 v71 v72 v73 v74 v75 v76 v77 v78 v79 v80 v81 v82 v83 v84 v85 v86 v87 h hr hv h1 h2 hz htab hmax hn hq hc
      | false =>
        rw [← hc]
        by_cases h0 : 0 < v
        · obtain ⟨i, rfl⟩ : ∃ i : Nat, v = i := ⟨v.toNat, by omega⟩
          cases hb : Lib.hasPrefix (dl (r.extract (i + 1) r.size)) [32] with
          | false => exact parse_noblank s r n p i w0 W v1 v5 v6 v10 v11 v12 v13 v14 v15 v16 v17 v18 v19 v20 v21 v22 v23 v24 v25 v26 v27 v28 v29 v30 v31 v32 v33 v34 v35 v36 v37 v38 v39 v40 v41 v42 v43 v44 v45 v46 v47 v48 v49 v50 v51 v52 v53 v54 v55 v56 v57 v58 v59 v60 v61 v62 v63 v64 v65 v66 v67 v68 v69 v70 v71 v72 v73 v74 v75 v76 v77 v78 v79 v80 v81 v82 v83 v84 v85 v86 v87 h hr hv (by omega) (by omega) hz htab hmax hn hq hc hb
          | true => exact parse_ask s r n p i w0 W v1 v5 v6 v10 v11 v12 v13 v14 v15 v16 v17 v18 v19 v20 v21 v22 v23 v24 v25 v26 v27 v28 v29 v30 v31 v32 v33 v34 v35 v36 v37 v38 v39 v40 v41 v42 v43 v44 v45 v46 v47 v48 v49 v50 v51 v52 v53 v54 v55 v56 v57 v58 v59 v60 v61 v62 v63 v64 v65 v66 v67 v68 v69 v70 v71 v72 v73 v74 v75 v76 v77 v78 v79 v80 v81 v82 v83 v84 v85 v86 v87 h hr hv (by omega) (by omega) hz htab hmax hn hq hc hb
        · exact parse_noat s r n p v w0 W v1 v5 v6 v10 v11 v12 v13 v14 v15 v16 v17 v18 v19 v20 v21 v22 v23 v24 v25 v26 v27 v28 v29 v30 v31 v32 v33 v34 v35 v36 v37 v38 v39 v40 v41 v42 v43 v44 v45 v46 v47 v48 v49 v50 v51 v52 v53 v54 v55 v56 v57 v58 v59 v60 v61 v62 v63 v64 v65 v66 v67 v68 v69 v70 v71 v72 v73 v74 v75 v76 v77 v78 v79 v80 v81 v82 v83 v84 v85 v86 v87 h hr hv h1 h2 hz htab hmax hn hq hc h0
set_option maxRecDepth 1000000 in
set_option maxHeartbeats 8000000 in
theorem parse_7 (s r : ByteArray) (n p : Int) (w0 W : World) (v1 v5 v6 v7 v8 v9 v10 v11 v12 v13 v14 v15 v16 v17 v18 v19 v20 v21 v22 v23 v24 v25 v26 v27 v28 v29 v30 v31 v32 v33 v34 v35 v36 v37 v38 v39 v40 v41 v42 v43 v44 v45 v46 v47 v48 v49 v50 v51 v52 v53 v54 v55 v56 v57 v58 v59 v60 v61 v62 v63 v64 v65 v66 v67 v68 v69 v70 v71 v72 v73 v74 v75 v76 v77 v78 v79 v80 v81 v82 v83 v84 v85 v86 v87 : Value) (h : At14 w0 W ⟨0, eB, eB, false, n, p⟩) (hr : RestSays s r n p) (hz : r.size ≤ 70000) (htab : PowTab w0) (hmax : MaxW w0) :
    (rt 4 body14).wp Tryz.prog (bodyPostD Tryz.prog Tryz.f14 fun e w' => ParseOut s e ∧ Below w0.heap.size w0 w') { tmps := #[.string s, v1, .pointer (some ⟨w0.heap.size, 0, none⟩), .pointer (some ⟨w0.heap.size + 1, 0, none⟩), .string r, v5, v6, v7, v8, v9, v10, v11, v12, v13, v14, v15, v16, v17, v18, v19, v20, v21, v22, v23, v24, v25, v26, v27, v28, v29, v30, v31, v32, v33, v34, v35, v36, v37, v38, v39, v40, v41, v42, v43, v44, v45, v46, v47, v48, v49, v50, v51, v52, v53, v54, v55, v56, v57, v58, v59, v60, v61, v62, v63, v64, v65, v66, v67, v68, v69, v70, v71, v72, v73, v74, v75, v76, v77, v78, v79, v80, v81, v82, v83, v84, v85, v86, v87], defers := [{ target := .fn (.func 26) #[.pointer (some ⟨w0.heap.size, 0, none⟩), .pointer (some ⟨w0.heap.size + 1, 0, none⟩)], args := #[] }] } W := by
  conv => arg 2; whnf
  have HR := Aside.mk hr
  have HT := Aside.mk htab
  have HM := Aside.mk hmax
  have HH := Aside.mk h
  clear hr htab hmax h
  refine wp_seq_k (fun K hK => ?_)
  have HK := Aside.mk hK
  clear hK
  go_wp2_with (go_at_call 27; refine (cutPrefix27 _ _ _ (maxLen_of (by omega))).mono ?_; rintro e w' ⟨rfl, hw⟩; rw [hw]; clear hw)
  refine HK.out _ _ ?_
  clear HK
  refine wp_seq_k (fun K2 hK2 => ?_)
  have HK := Aside.mk hK2
  clear hK2
  go_wp2_with (go_at_call 29; refine (indexAny_calls _ _ (by omega)).mono ?_; rintro e w2 ⟨⟨v, rfl, h1, h2, hA⟩, hb⟩)
  exact HK.out _ _ (parse_sw s r n p v w0 w2 _ _ _ _ _ _ _ _ _ _ _ _ _ _ _ _ _ _ _ _ _ _ _ _ _ _ _ _ _ _ _ _ _ _ _ _ _ _ _ _ _ _ _ _ _ _ _ _ _ _ _ _ _ _ _ _ _ _ _ _ _ _ _ _ _ _ _ _ _ _ _ _ _ _ _ _ _ _ _ _ _ (HH.out.step hb) HR.out hA h1 h2 hz HT.out HM.out)
theorem At14.start (w : World) : At14 w ((w.alloc (.cells #[.int .u8 0, .string ⟨#[]⟩, .string ⟨#[]⟩, .bool false, .int .i64 0, .int .i64 0] 32)).alloc (.cells #[.bool false] 4)) ⟨0, eB, eB, false, 0, 0⟩ := by
  refine ⟨((Below.refl _ _).alloc (Nat.le_refl _) _).alloc (by simp) _, ⟨?_, ?_, ?_, ?_, ?_, ?_⟩, ⟨false, ?_⟩, fun j => ?_, ?_⟩
  all_goals simp [go_sem, eB]
set_option maxRecDepth 1000000 in
set_option maxHeartbeats 8000000 in
theorem parse_calls (s : ByteArray) (w0 : World) (hs : s.size ≤ 70000) (hmax : MaxW w0) (htab : PowTab w0) :
    Calls Tryz.prog 14 #[.string s] w0 fun e w' => ParseOut s e ∧ Below w0.heap.size w0 w' := by
  have hmf : ∀ (fn : Fn) (first cap : Array Value) (w : World), (Instr.makeFunc fn first cap).run Tryz.prog w = .ok (.func fn first cap) w := fun _ _ _ _ => rfl
  have HT := Aside.mk htab
  have HM := Aside.mk hmax
  have H0 := Aside.mk (At14.start w0)
  clear htab hmax
  cases hp : Lib.hasPrefix (dl s) powerB with
  | false =>
    have hp2 : Lib.hasPrefix (dl s) (dl ⟨#[112, 111, 119, 101, 114, 32]⟩) = false := hp
    have hcut : cutP s ⟨#[112, 111, 119, 101, 114, 32]⟩ = s := by unfold cutP; rw [hp2, if_neg (by simp)]
    have HP := Aside.mk hp
    have HP2 := Aside.mk hp2
    have HC := Aside.mk hcut
    clear hp hp2 hcut
    go_enter_defers Tryz.func14, Tryz.ntmps14
    refine wp_seq_k (fun K hK => ?_)
    have HK := Aside.mk hK
    clear hK
    go_wp2
    refine HK.out _ _ ?_
    clear HK
    refine wp_seq_k (fun K1 hK => ?_)
    have HK := Aside.mk hK
    clear hK
    go_wp2
    refine HK.out _ _ ?_
    clear HK
    refine wp_seq_k (fun K2 hK => ?_)
    have HK := Aside.mk hK
    clear hK
    go_wp2
    refine HK.out _ _ ?_
    clear HK
    refine wp_seq_k (fun K3 hK => ?_)
    have HK := Aside.mk hK
    clear hK
    go_wp2_with (go_at_call 27; refine (cutPrefix27 _ _ _ (maxLen_of (by omega))).mono ?_; rintro e w' ⟨rfl, hw⟩; rw [hw, HP2.out, HC.out]; clear hw)
    exact HK.out _ _ (parse_7 s s 0 0 w0 _ _ _ _ _ _ _ _ _ _ _ _ _ _ _ _ _ _ _ _ _ _ _ _ _ _ _ _ _ _ _ _ _ _ _ _ _ _ _ _ _ _ _ _ _ _ _ _ _ _ _ _ _ _ _ _ _ _ _ _ _ _ _ _ _ _ _ _ _ _ _ _ _ _ _ _ _ _ _ _ _ _ _ _ _ H0.out (rest_nopow HP.out) hs HT.out HM.out)
  | true =>
    have hp2 : Lib.hasPrefix (dl s) (dl ⟨#[112, 111, 119, 101, 114, 32]⟩) = true := hp
    obtain ⟨m, hm⟩ : ∃ m, m = cutP s ⟨#[112, 111, 119, 101, 114, 32]⟩ := ⟨_, rfl⟩
    have hms : m.size ≤ s.size := by rw [hm]; exact cutP_size _ _
    have HP := Aside.mk hp
    have HP2 := Aside.mk hp2
    have HC := Aside.mk hm
    clear hp hp2 hm
    go_enter_defers Tryz.func14, Tryz.ntmps14
    refine wp_seq_k (fun K hK => ?_)
    have HK := Aside.mk hK
    clear hK
    go_wp2
    refine HK.out _ _ ?_
    clear HK
    refine wp_seq_k (fun K1 hK => ?_)
    have HK := Aside.mk hK
    clear hK
    go_wp2
    refine HK.out _ _ ?_
    clear HK
    refine wp_seq_k (fun K2 hK => ?_)
    have HK := Aside.mk hK
    clear hK
    go_wp2
    refine HK.out _ _ ?_
    clear HK
    refine wp_seq_k (fun K3 hK => ?_)
    have HK := Aside.mk hK
    clear hK
    go_wp2_with (go_at_call 27; refine (cutPrefix27 _ _ _ (maxLen_of (by omega))).mono ?_; rintro e w' ⟨rfl, hw⟩; rw [hw, HP2.out, ← HC.out]; clear hw)
    refine (number28 _ _ (by omega) (maxW_below HM.out H0.out.below)).mono ?_
    rintro e w2 ⟨hN, hb⟩
    rcases hN with ⟨n, r1, rfl, hr1, hn0, hn1, hs1⟩ | ⟨rfl, hno⟩
    · have h5 := H0.out.step hb
      have hh := s14_of h5
      unfold S14 at hh
      obtain ⟨_, d0, d1, d2, d3, d4, d5, d6, g0, g1, g2, g3, g4, g5, g6⟩ := hh
      have H5 := Aside.mk h5
      have HS1 := Aside.mk hs1
      clear h5 hb hs1
      dsimp only
      have h6 := H5.out.units n
      go_wp2_with fail
      refine (number28 _ _ (by omega) (maxW_below HM.out h6.below)).mono ?_
      rintro e w3 ⟨hN, hb⟩
      rcases hN with ⟨p, r2, rfl, hr2, hp0, hp1, hs2⟩ | ⟨rfl, hno⟩
      · have h7 := h6.step hb
        have hh := s14_of h7
        unfold S14 at hh
        obtain ⟨_, a0, a1, a2, a3, a4, a5, a6, z0, z1, z2, z3, z4, z5, z6⟩ := hh
        have H7 := Aside.mk h7
        have HR := Aside.mk (rest_pow HP.out HC.out HS1.out hs2)
        clear h7 hb hs2 h6 d0 d1 d2 d3 d4 d5 d6 g0 g1 g2 g3 g4 g5 g6
        dsimp only
        go_wp2
        exact HK.out _ _ (parse_7 s r2 n p w0 _ _ _ _ _ _ _ _ _ _ _ _ _ _ _ _ _ _ _ _ _ _ _ _ _ _ _ _ _ _ _ _ _ _ _ _ _ _ _ _ _ _ _ _ _ _ _ _ _ _ _ _ _ _ _ _ _ _ _ _ _ _ _ _ _ _ _ _ _ _ _ _ _ _ _ _ _ _ _ _ _ _ _ _ _ (H7.out.keep p) HR.out (by omega) HT.out HM.out)
      · dsimp only
        exact parse_panic s w0 w3 _ _ _ _ _ _ _ _ _ _ _ _ _ _ _ _ _ _ _ _ _ _ _ _ _ _ _ _ _ _ _ _ _ _ _ _ _ _ _ _ _ _ _ _ _ _ _ _ _ _ _ _ _ _ _ _ _ _ _ _ _ _ _ _ _ _ _ _ _ _ _ _ _ _ _ _ _ _ _ _ _ _ _ _ _ _ _ (h6.step hb) (pow_no2 HP.out HC.out HS1.out hno)
    · dsimp only
      exact parse_panic s w0 w2 _ _ _ _ _ _ _ _ _ _ _ _ _ _ _ _ _ _ _ _ _ _ _ _ _ _ _ _ _ _ _ _ _ _ _ _ _ _ _ _ _ _ _ _ _ _ _ _ _ _ _ _ _ _ _ _ _ _ _ _ _ _ _ _ _ _ _ _ _ _ _ _ _ _ _ _ _ _ _ _ _ _ _ _ _ _ _ (H0.out.step hb) (pow_no1 HP.out HC.out hno)
theorem infoStepR : (Tryz.prog.info? 32).map (fun i => (i.zero, i.size, i.bytes)) = some (some (.agg #[.int .u8 0, .string ⟨#[]⟩, .string ⟨#[]⟩, .bool false, .int .i64 0, .int .i64 0]), 6, 64) := by kernel_rfl
theorem splitNL_len : ∀ (l cur : List UInt8) (x : List UInt8), x ∈ splitNL cur l → x.length ≤ cur.length + l.length
  | [], cur, x, h => by
    simp [splitNL] at h
    subst h
    simp
  | b :: r, cur, x, h => by
    rw [splitNL] at h
    split at h
    · rcases List.mem_cons.1 h with rfl | h
      · simp
      · have := splitNL_len r [] x h
        simp at this ⊢
        omega
    · have := splitNL_len r (cur ++ [b]) x h
      simp at this ⊢
      omega
theorem lines_size {s : ByteArray} {k : Nat} (h : k < (linesOf s).length) : (linesOf s)[k].size ≤ s.size := by
  have hm := List.getElem_mem h
  unfold linesOf at hm
  obtain ⟨x, hx, e⟩ := List.mem_map.1 hm
  have := splitNL_len _ _ _ hx
  have e2 : (linesOf s)[k].size = x.length := by
    have : (linesOf s)[k] = bs x := e.symm
    rw [this]
    rfl
  rw [e2]
  simpa using this
theorem splitNL_count : ∀ (l cur : List UInt8), (splitNL cur l).length = l.count 10 + 1
  | [], cur => rfl
  | b :: r, cur => by
    rw [splitNL]
    split
    · rename_i h
      subst h
      rw [List.length_cons, splitNL_count r, List.count_cons_self]
    · rename_i h
      rw [splitNL_count r, List.count_cons_of_ne (by simpa using h)]
theorem lines_length (s : ByteArray) : (linesOf s).length = Lib.countB s ⟨#[10]⟩ + 1 := by
  unfold linesOf
  rw [List.length_map, splitNL_count]
  congr 1
  exact (Lib.count_one 10 _).symm
/-- strings.Split at the line's end. -/
theorem split_calls (s : ByteArray) (w : World) (hs : s.size ≤ 1000000) (hmax : MaxW w) :
    Calls Tryz.prog 13 #[.string s, .string ⟨#[10]⟩] w fun e w' => e = .returned (.slice (some ⟨w.heap.size, 0, none⟩) (linesOf s).length (linesOf s).length) ∧ w' = w.alloc (.cells ((linesOf s).map Value.string).toArray 9) := by
  obtain ⟨m, hm⟩ := hmax
  refine (Tryz.strings_Split s ⟨#[10]⟩ m w (by omega) hm (by decide)).mono fun e w' ⟨h1, h2⟩ => ⟨?_, ?_⟩
  · rw [h1, lines_length]
  · rw [h2, splitB_lines]
/-- What Read hands back: the steps in a row of its own, the line, the error. -/
def ReadRet (B : Nat) (res : List St × Int × Int) (e : Ending) (w' : World) : Prop := ∃ v, e = .returned (.tuple #[v, .int .i64 res.2.1, .int .i64 res.2.2]) ∧ w'.ownsRow B 32 6 v res.1.length (cellsS res.1)
theorem skip_yes {t : ByteArray} (h : t.size = 0 ∨ ∃ h : 0 < t.size, t[0].toNat = 35) : skipB t = true := by
  unfold skipB
  rcases h with h | ⟨h, h2⟩
  · rw [decide_eq_true h]; rfl
  · rw [show (dl t)[0]? = some t[0] from data_getElem? t 0 h]
    have : t[0] = 35 := UInt8.toNat.inj (by rw [h2]; rfl)
    rw [this]
    simp
theorem skip_no {t : ByteArray} (h : 0 < t.size) (h2 : t[0].toNat ≠ 35) : skipB t = false := by
  unfold skipB
  rw [decide_eq_false (by omega), show (dl t)[0]? = some t[0] from data_getElem? t 0 h]
  have : ¬ t[0] = 35 := fun e => h2 (by rw [e]; rfl)
  simp [this]
theorem row_cells (w : World) (x : St) (n : Nat) (hn : n = w.heap.size) : ∀ j u, (cellsOf1 x)[j]? = some u → (w.alloc (.cells #[.int .u8 x.k, .string x.u, .string x.t, .bool x.f, .int .i64 x.n, .int .i64 x.p] 32)).cell? ((⟨n, 0, none⟩ : Addr).add j) = some u := by
  intro j u h
  rw [Addr.add_lit, Nat.zero_add, Joins.cell_alloc_mark_at _ _ _ _ _ _ hn]
  rw [← h]
  unfold cellsOf1
  exact List.getElem?_toArray
theorem row_one (x : St) : ∀ u ∈ cellsOf1 x, u.oneCell' = true := by
  intro u hx
  simp [cellsOf1] at hx
  rcases hx with rfl | rfl | rfl | rfl | rfl | rfl <;> rfl
theorem cellsS_snoc (l : List St) (x : St) : cellsS l ++ cellsOf1 x = cellsS (l ++ [x]) := by simp [cellsS]
set_option maxRecDepth 1000000 in
set_option maxHeartbeats 8000000 in
theorem read_calls (s : ByteArray) (w : World) (hs : s.size ≤ maxLen) (hmax : MaxW w) (htab : PowTab w) :
    Calls Tryz.prog 7 #[.string s] w fun e w' => ReadRet w.heap.size (readF s) e w' ∧ Below w.heap.size w w' := by
  unfold maxLen at hs
  by_cases hlong : (65536 : Int) < (s.size : Int)
  · have HR : Aside (readF s = ([], 0, 2)) := ⟨by unfold readF; rw [if_pos (by omega)]⟩
    clear hmax htab
    go_enter Tryz.func7, Tryz.ntmps7
    go_wp2
    go_ret3
    exact ⟨⟨_, by rw [HR.out]; rfl, by rw [HR.out]; exact World.ownsRow_nil _ _ _ _⟩, Below.refl _ _⟩
  · obtain ⟨i0, hi, hz0, hz1, hz2⟩ := info_parts infoStepR
    have HR : Aside (readF s = readL (linesOf s) 0 []) := ⟨by unfold readF; rw [if_neg (by omega)]⟩
    have HS := Aside.mk (split_calls s w (by omega) hmax)
    have HM := Aside.mk hmax
    have HT := Aside.mk htab
    have HZ : Aside (∀ k (h : k < (linesOf s).length), (linesOf s)[k].size ≤ 70000) := ⟨fun k h => by have := lines_size h; omega⟩
    have HL : (linesOf s).length ≤ 1000000 := by
      rw [lines_length]
      have := Lib.countB_le ⟨#[10]⟩ (by decide) s.size s (Nat.le_refl _)
      omega
    clear hmax htab
    generalize hG : linesOf s = L at HR HS HZ HL
    clear hG
    go_enter Tryz.func7, Tryz.ntmps7
    go_wp2_with (go_at_call 13; refine HS.out.mono ?_; rintro e w' ⟨rfl, rfl⟩)
    go_loopw [5, 16] (fun ov iv wr => ∃ (k : Nat) (acc : List St), k ≤ L.length ∧ iv = .int .i64 k ∧ Aside (wr.ownsRow (w.heap.size + 1) 32 6 ov acc.length (cellsS acc)) ∧ acc.length ≤ k ∧ Aside (readL (L.drop k) k acc = readL L 0 []) ∧ Aside (Below (w.heap.size + 1) (w.alloc (.cells (L.map Value.string).toArray 9)) wr)) (fun _ iv _ => L.length - (intOf iv).toNat)
    case atStart => exact ⟨0, [], Nat.zero_le _, rfl, ⟨World.ownsRow_nil _ _ _ _⟩, Nat.le_refl _, ⟨rfl⟩, ⟨Below.refl _ _⟩⟩
    case round =>
      obtain ⟨k, acc, hk, rfl, hO, hac, hQ, hB⟩ := hrel
      have hBw : Below w.heap.size w wr := ((Below.refl _ _).alloc (Nat.le_refl _) _).trans (hB.out.mono (by omega))
      have hsz : w.heap.size + 1 ≤ wr.heap.size := by have := hB.out.size; simpa using this
      by_cases hlt : k < L.length
      · have hcell : wr.cell? ⟨w.heap.size, k, none⟩ = some (.string L[k]) := by
          rw [hB.out.cell (p := ⟨w.heap.size, k, none⟩) (by show w.heap.size < w.heap.size + 1; omega), World.cell?_alloc_mark]
          simp [hlt]
        have hskip : skipB L[k] = true → Aside (readL (L.drop (k + 1)) (k + 1) acc = readL L 0 []) := fun h => ⟨by rw [← readL_skip hlt h]; exact hQ.out⟩
        have hnone : skipB L[k] = false → stepOf L[k] = none → Aside (readF s = ([], (k : Int) + 1, 7)) := fun h h2 => ⟨by rw [HR.out, ← hQ.out, readL_none hlt h h2]⟩
        have hsome : ∀ x, skipB L[k] = false → stepOf L[k] = some x → Aside (readL (L.drop (k + 1)) (k + 1) (acc ++ [x]) = readL L 0 []) := fun x h h2 => ⟨by rw [← readL_some hlt h h2]; exact hQ.out⟩
        have ht := HZ.out k hlt
        generalize L[k] = t at hcell hskip hnone hsome ht
        by_cases h0 : t.size = 0
        · have h1 : t.toList.isEmpty = true := by
            have := toList_nil t
            rw [decide_eq_true h0] at this
            simpa using this
          have HQ1 := hskip (skip_yes (.inl h0))
          clear hskip hnone hsome h0
          go_wp2
          go_roundw
          case rel => exact ⟨k + 1, acc, by omega, by go_num, hO, by omega, HQ1, hB⟩
          case measure => simp [intOf]; omega
        · have hpos : 0 < t.size := by omega
          have h1 : t.toList.isEmpty = false := by
            have := toList_nil t
            rw [decide_eq_false h0] at this
            simpa using this
          have g1 : (0 : Int) < (t.size : Int) := by omega
          by_cases h35 : (t[0].toNat : Int) = 35
          · have HQ1 := hskip (skip_yes (.inr ⟨hpos, by omega⟩))
            have h2 : ((t[0].toNat : Int) == 35) = true := beq_iff_eq.mpr h35
            clear hskip hnone hsome h0 h35
            go_wp2
            all_goals
              go_roundw
              case rel => exact ⟨k + 1, acc, by omega, by go_num, hO, by omega, HQ1, hB⟩
              case measure => simp [intOf]; omega
          · have h2 : ((t[0].toNat : Int) == 35) = false := beq_eq_false_iff_ne.mpr h35
            have hns := skip_no hpos (show t[0].toNat ≠ 35 by omega)
            have HP := Aside.mk (parse_calls t wr ht (maxW_below HM.out hBw) (tab_below HT.out hBw))
            have HNone := Aside.mk (hnone hns)
            have HSome := Aside.mk (fun x => hsome x hns)
            clear hskip hnone hsome h0 h35 hns
            go_wp2_with fail
            refine HP.out.mono ?_
            rintro e w2 ⟨⟨x, ok, rfl, hst⟩, hb⟩
            have hb3 : Below wr.heap.size wr ((w2.alloc (.cells #[.int .u8 x.k, .string x.u, .string x.t, .bool x.f, .int .i64 x.n, .int .i64 x.p] 32)).alloc (.cells #[.int .u8 x.k, .string x.u, .string x.t, .bool x.f, .int .i64 x.n, .int .i64 x.p] 32)) := (hb.alloc hb.size _).alloc (hb.alloc hb.size _).size _
            have hb2 : Below wr.heap.size wr (w2.alloc (.cells #[.int .u8 x.k, .string x.u, .string x.t, .bool x.f, .int .i64 x.n, .int .i64 x.p] 32)) := hb.alloc hb.size _
            have HB3 := Aside.mk hb3
            have HB2 := Aside.mk hb2
            clear hb hb3 hb2
            dsimp only
            cases ok with
            | false =>
              have HF := (HNone.out (by rw [hst]; rfl)).out
              have HFA := Aside.mk HF
              clear HF hst
              go_wp2
              go_ret3
              exact ⟨⟨_, by rw [HFA.out]; rfl, by rw [HFA.out]; exact World.ownsRow_nil _ _ _ _⟩, hBw.trans (HB2.out.mono hBw.size)⟩
            | true =>
              have HF := HSome.out x (by rw [hst]; rfl)
              clear hst
              have HO := Aside.mk (own_below hO.out HB3.out)
              have HN := Aside.mk (row_cells (w2.alloc (.cells #[.int .u8 x.k, .string x.u, .string x.t, .bool x.f, .int .i64 x.n, .int .i64 x.p] 32)) x (w2.heap.size + 1) (by simp))
              have hs3 := HB3.out.size
              go_wp2_with (at_builtin; refine wpList_append_own _ rfl _ _ 23 rfl (w.heap.size + 1) 32 i0 _ 6 64 Tryz.underlying23 hi hz0 hz1 hz2 rfl (by decide) _ acc.length (cellsS acc) rfl HO.out ⟨w2.heap.size + 1, 0, none⟩ 1 1 (cellsOf1 x) rfl rfl HN.out (row_one x) (by unfold maxLen; omega) (by omega) (by omega) ?_)
              intro v' w5 hown hgrow _
              go_wp2
              go_roundw
              case rel => exact ⟨k + 1, acc ++ [x], by omega, by go_num, ⟨by rw [← cellsS_snoc, List.length_append]; exact hown⟩, by simp; omega, HF, ⟨(hB.out.trans (HB3.out.mono hsz)).grown hgrow (by omega) (fun k hk => (hO.out.lt k hk).1)⟩⟩
              case measure => simp [intOf]; omega
      · have hk2 : k = L.length := by omega
        subst hk2
        have HF : Aside (readF s = (acc, 0, 0)) := ⟨by
          have := hQ.out
          rw [List.drop_length] at this
          rw [HR.out, ← this]
          rfl⟩
        go_wp2
        go_ret3
        exact ⟨⟨_, by rw [HF.out]; rfl, by rw [HF.out]; exact Joins.ownsRow_le hO.out (by omega)⟩, hBw⟩
end Go.Proofs.YtilpifbaolmdlaaGreatDoor
