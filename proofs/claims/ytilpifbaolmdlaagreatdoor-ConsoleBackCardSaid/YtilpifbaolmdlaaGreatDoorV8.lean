/-
  The law of what is written and read back. No condition but those written in each statement.
-/
import Derived.Test.YtilpifbaolmdlaaGreatDoorV7
set_option linter.unusedVariables false
set_option linter.unusedSimpArgs false
set_option linter.unusedSectionVars false
namespace Go.Proofs.YtilpifbaolmdlaaGreatDoor
open Go Go.RowKit
set_option maxRecDepth 100000 in
set_option maxHeartbeats 2000000 in
theorem write_more (b o cap : Nat) (l : List St) (w : World) (hl2 : l.length ≤ 100000) (hc : StepsAt w b o l) (hb : b < w.heap.size) (hu : ∀ i (h : i < l.length), l[i].u.size ≤ maxLen) (hs : ∀ i (h : i < l.length), l[i].t.size ≤ 1000000) (htab : PowTab w) :
    Calls Tryz.prog 10 #[.slice (some ⟨b, o, none⟩) l.length cap] w fun e w' => e = .returned (.tuple #[.string (writeF l).1, .int .i64 (writeF l).2]) ∧ Below w.heap.size w w' := by
  have HC := Aside.mk hc
  have HU := Aside.mk hu
  have HS := Aside.mk hs
  clear hc hu hs
  go_enter Tryz.func10, Tryz.ntmps10
  go_wp2
  go_loopw [11] (fun i wr => ∃ k : Nat, k ≤ l.length ∧ i = .int .i64 k ∧ Aside (AllGood l k) ∧ Kept w wr) (fun i _ => l.length - (intOf i).toNat)
  case atStart => exact ⟨0, Nat.zero_le _, rfl, ⟨fun j _ hj => absurd hj (by omega)⟩, by unfold Kept; exact Below.refl _ _⟩
  case round =>
    obtain ⟨k, hk, rfl, ho, hB⟩ := hrel
    by_cases hlt : k < l.length
    · obtain ⟨e0, e1, e2, e3, e4, e5⟩ := HC.out k hlt
      have hu := HU.out k hlt
      generalize hx : l[k] = x at e0 e1 e2 e3 e4 e5 hu
      have d0 := hB.cell hb e0
      have d1 := hB.cell hb e1
      have d2 := hB.cell hb e2
      have d3 := hB.cell hb e3
      have d4 := hB.cell hb e4
      have d5 := hB.cell hb e5
      clear e0 e1 e2 e3 e4 e5
      have HX := Aside.mk hx
      clear hx
      cases hg : goodS x with
      | false =>
        have HG := Aside.mk hg
        clear hg
        go_wp2_with (go_at_call 17; refine (good_calls x _ hu).mono ?_; rintro e w' ⟨rfl, hb'⟩; rw [HG.out])
        go_ret2
        exact ⟨by rw [writeF_bad hlt HX.out HG.out]; rfl, hB.below ((below_step _ _).trans (hb'.mono (by simp)))⟩
      | true =>
        have HG := Aside.mk hg
        clear hg
        go_wp2_with (go_at_call 17; refine (good_calls x _ hu).mono ?_; rintro e w' ⟨rfl, hb'⟩; rw [HG.out])
        go_roundw
        case rel => exact ⟨k + 1, by omega, by go_num, ⟨all_succ hlt ho.out HX.out HG.out⟩, hB.trans ((below_step _ _).trans (hb'.mono (by simp)))⟩
        case measure => simp [intOf]; omega
    · have hk2 : k = l.length := by omega
      subst hk2
      have hI := hB.builder
      go_wp2
      go_loopw [21] (fun i wr => ∃ k : Nat, k ≤ l.length ∧ i = .int .i64 k ∧ Aside ((textOf (l.take k)).length ≤ 65536) ∧ Aside (Lib.IsBuilder 49 5 w.heap.size w.heap.size (Lib.byteCells (textOf (l.take k))) wr) ∧ Aside (Below w.heap.size w wr)) (fun i _ => l.length - (intOf i).toNat)
      case atStart => exact ⟨0, Nat.zero_le _, rfl, ⟨by simp [textOf]⟩, ⟨hI⟩, ⟨hB.below (Below.refl _ _)⟩⟩
      case round =>
        obtain ⟨k, hk, rfl, hT, hI, hW⟩ := hrel
        by_cases hlt : k < l.length
        · obtain ⟨e0, e1, e2, e3, e4, e5⟩ := HC.out k hlt
          have hx1 := HS.out k hlt
          have hx2 := ho.out k hlt hlt
          have d0 := hW.out.cell (p := ⟨b, o + k * 6, none⟩) hb
          have d1 := hW.out.cell (p := ⟨b, o + k * 6 + 1, none⟩) hb
          have d2 := hW.out.cell (p := ⟨b, o + k * 6 + 2, none⟩) hb
          have d3 := hW.out.cell (p := ⟨b, o + k * 6 + 3, none⟩) hb
          have d4 := hW.out.cell (p := ⟨b, o + k * 6 + 4, none⟩) hb
          have d5 := hW.out.cell (p := ⟨b, o + k * 6 + 5, none⟩) hb
          rw [e0] at d0
          rw [e1] at d1
          rw [e2] at d2
          rw [e3] at d3
          rw [e4] at d4
          rw [e5] at d5
          have hts := textOf_take_succ hlt
          generalize hx : l[k] = x at d0 d1 d2 d3 d4 d5 hx1 hx2 hts
          have HX := Aside.mk hx
          have HT := Aside.mk hts
          have hr : rangeB x.n x.p = true := by
            unfold goodS goodB at hx2
            simp only [Bool.and_eq_true] at hx2
            exact hx2.1
          have HR := Aside.mk hr
          have hx3 := good_user hx2
          have hx4 := hx1
          have hls := lineS_size x HR.out hx3 hx4
          have hz : ¬ 9223372036854775807 < (lineS x).size + 1 := by omega
          clear e0 e1 e2 e3 e4 e5 hx hts hr hx2
          go_wp2_with (go_at_call 19; refine (line_calls x _ HR.out (tab_below htab (hW.out.trans ((below_step _ _).mono (by have := hW.out.size; omega)))) hx3 hx4).mono ?_; rintro e w1 ⟨rfl, hb1⟩)
          have hI1 := isBuilder_below (isBuilder_below hI.out (below_step wr _)) hb1
          have hz1 : w.heap.size ≤ w1.heap.size := by have := hW.out.size; have := hb1.size; simp at this; omega
          have hlen : (Lib.byteCells (textOf (l.take k))).length + (lineS x ++ (⟨#[10]⟩ : ByteArray)).size ≤ 140737488355328 := by
            rw [Lib.byteCells_length, ByteArray.size_append]
            have := hT.out
            have h1 : (⟨#[10]⟩ : ByteArray).size = 1 := rfl
            omega
          refine (writeString_calls w.heap.size w.heap.size _ _ w1 hI1 hlen hz1).mono ?_
          rintro e w2 ⟨rfl, hI2, hb2⟩
          go_wp2_with (go_at_call 20; refine (Tryz.Builder_Len w.heap.size w.heap.size _ _ (.inr hI2)).mono ?_; rintro e w' ⟨rfl, rfl⟩)
          · have h65 : (65536 : Int) < ((Lib.byteCells (textOf (l.take k))).length : Int) + ((Lib.strCells (lineS x ++ (⟨#[10]⟩ : ByteArray))).length : Int) := by assumption
            go_ret2
            exact ⟨by rw [writeF_long ho.out (k := k + 1) (by rw [HT.out, cells_len]; omega)]; rfl, hW.out.trans ((below_step _ _).mono (by have := hW.out.size; omega) |>.trans ((hb1.mono (by have := hW.out.size; simp; omega)).trans hb2))⟩
          · have h65 : ((Lib.byteCells (textOf (l.take k))).length : Int) + ((Lib.strCells (lineS x ++ (⟨#[10]⟩ : ByteArray))).length : Int) ≤ 65536 := by assumption
            go_roundw
            case rel => exact ⟨k + 1, by omega, by go_num, ⟨by rw [HT.out, cells_len]; omega⟩, ⟨by rw [HT.out, Lib.byteCells_append, ← Lib.strCells_eq]; exact .inr hI2⟩, ⟨hW.out.trans ((below_step _ _).mono (by have := hW.out.size; omega) |>.trans ((hb1.mono (by have := hW.out.size; simp; omega)).trans hb2))⟩⟩
            case measure => simp [intOf]; omega
        · have hk2 : k = l.length := by omega
          subst hk2
          rw [List.take_length] at hT hI
          go_wp2_with (go_at_call 21; refine (Tryz.Builder_String_any w.heap.size w.heap.size _ _ hI.out (by have := hW.out.size; omega)).mono ?_; rintro e w' ⟨rfl, hb3⟩)
          go_ret2
          exact ⟨by rw [writeF_ok ho.out hT.out]; rfl, hW.out.trans hb3⟩
/-! ### What is written reads back -/
theorem no_nl {t : ByteArray} (h : hasNL t = false) : (10 : UInt8) ∉ dl t := fun hm => by
  unfold hasNL at h
  have h1 := Lib.indexByte_ge t.data.toList 10
  have h2 : Lib.indexByte t.data.toList 10 = -1 := by have := of_decide_eq_false h; omega
  obtain ⟨k, hk, e⟩ := List.mem_iff_getElem.1 hm
  exact Lib.indexByte_none h2 k (by rw [← e]; exact List.getElem?_eq_getElem hk)
theorem itoa_no10 {n : Int} (h0 : 0 ≤ n) : (10 : UInt8) ∉ Lib.itoa n := fun h => by
  have := itoa_mem h0 h
  simp at this
theorem tail_no10 {x : St} (h : goodS x = true) : (10 : UInt8) ∉ tailL x := by
  obtain ⟨hr, -, ht⟩ := good_tail h
  rcases ht with ⟨c, hc, _, hn, hk, ht⟩ | ⟨_, _, _, _, ht⟩ | ⟨_, _, _, _, ht⟩ | ⟨_, _, _, _, _, ht⟩
  · rw [ht]
    have hx : hasNL x.t = false := by
      rcases (good_cases h).2 with ⟨_, _, h3, _⟩ | ⟨h1, _⟩ | ⟨h1, _⟩
      · exact h3
      · omega
      · omega
    intro hm
    rcases List.mem_append.1 hm with hm | hm
    · exact (name_not hn hm).2.2.2.1 rfl
    · rcases List.mem_cons.1 hm with e | hm
      · rcases hc with rfl | rfl <;> cases e
      · rcases List.mem_cons.1 hm with e | hm
        · cases e
        · exact no_nl hx hm
  · rw [ht]; decide
  · rw [ht]; decide
  · rw [ht]
    intro hm
    rcases List.mem_append.1 hm with hm | hm
    · revert hm; decide
    · exact itoa_no10 hr.2.2.1 hm
theorem line_no10 {x : St} (h : goodS x = true) : (10 : UInt8) ∉ dl (lineS x) := by
  have hr := (good_tail h).1
  by_cases hn : 0 < x.n
  · rw [line_pow hn]
    intro hm
    rcases List.mem_append.1 hm with hm | hm
    · revert hm; decide
    · rcases List.mem_append.1 hm with hm | hm
      · exact itoa_no10 hr.1 hm
      · rcases List.mem_cons.1 hm with e | hm
        · cases e
        · rcases List.mem_append.1 hm with hm | hm
          · exact itoa_no10 hr.2.2.1 hm
          · rcases List.mem_cons.1 hm with e | hm
            · cases e
            · exact tail_no10 h hm
  · rw [line_nopow hn]
    exact tail_no10 h
theorem tail_head {x : St} (h : goodS x = true) : ∃ c q, tailL x = c :: q ∧ c ≠ 35 := by
  rcases (good_tail h).2.2 with ⟨c, hc, _, hn, hk, ht⟩ | ⟨_, _, _, _, ht⟩ | ⟨_, _, _, _, ht⟩ | ⟨_, _, _, _, _, ht⟩
  · rw [ht]
    have hp := (name_parts hn).2.1
    cases hd : dl x.u with
    | nil =>
      have : x.u.size = (dl x.u).length := rfl
      rw [hd, List.length_nil] at this
      omega
    | cons b q =>
      refine ⟨b, _, rfl, fun e => ?_⟩
      have := name_not hn (b := b) (by rw [hd]; simp)
      exact this.2.2.2.2.1 (by rw [e]; rfl)
  · exact ⟨_, _, ht, by decide⟩
  · exact ⟨_, _, ht, by decide⟩
  · exact ⟨99, [114, 97, 115, 104, 32] ++ Lib.itoa x.p, by rw [ht]; rfl, by decide⟩
theorem line_head {x : St} (h : goodS x = true) : ∃ c q, dl (lineS x) = c :: q ∧ c ≠ 35 := by
  by_cases hn : 0 < x.n
  · exact ⟨112, _, line_pow hn, by decide⟩
  · rw [line_nopow hn]
    exact tail_head h
theorem skip_line {x : St} (h : goodS x = true) : skipB (lineS x) = false := by
  obtain ⟨c, q, e, hc⟩ := line_head h
  have hs : (lineS x).size = (dl (lineS x)).length := rfl
  unfold skipB
  rw [e, hs, e]
  simp [hc]
theorem splitNL_text : ∀ (l : List St), (∀ x ∈ l, goodS x = true) → splitNL [] (textOf l) = l.map (fun x => dl (lineS x)) ++ [[]]
  | [], _ => rfl
  | x :: l, h => by
    rw [textOf]
    have e : (lineS x ++ (⟨#[10]⟩ : ByteArray)).data.toList ++ textOf l = dl (lineS x) ++ 10 :: textOf l := by
      rw [show (lineS x ++ (⟨#[10]⟩ : ByteArray)).data.toList = dl (lineS x) ++ [10] from dl_append _ _]
      simp
    rw [e, splitNL_at _ _ _ (line_no10 (h x (by simp))), splitNL_text l (fun y hy => h y (by simp [hy]))]
    simp
theorem lines_text (l : List St) (h : ∀ x ∈ l, goodS x = true) : linesOf ⟨(textOf l).toArray⟩ = l.map lineS ++ [⟨#[]⟩] := by
  unfold linesOf
  rw [show dl ⟨(textOf l).toArray⟩ = textOf l from by simp [dl], splitNL_text l h, List.map_append, List.map_map]
  congr 1
theorem readL_text : ∀ (l : List St) (i : Nat) (acc : List St), (∀ x ∈ l, goodS x = true) → readL (l.map lineS ++ [⟨#[]⟩]) i acc = (acc ++ l, 0, 0)
  | [], i, acc, _ => by
    rw [List.map_nil, List.nil_append, readL, if_pos (by rfl), readL, List.append_nil]
  | x :: l, i, acc, h => by
    have hx := h x (by simp)
    rw [List.map_cons, List.cons_append, readL, if_neg (by rw [skip_line hx]; simp), stepOf_line hx]
    show readL (l.map lineS ++ [⟨#[]⟩]) (i + 1) (acc ++ [x]) = _
    rw [readL_text l _ _ (fun y hy => h y (by simp [hy]))]
    simp
theorem read_back {l : List St} (h : ∀ x ∈ l, goodS x = true) (hs : (textOf l).length ≤ 65536) : readF ⟨(textOf l).toArray⟩ = (l, 0, 0) := by
  unfold readF
  have hz : (⟨(textOf l).toArray⟩ : ByteArray).size = (textOf l).length := rfl
  rw [if_neg (by rw [hz]; omega), lines_text l h, readL_text l 0 [] h]
  rfl
/-! ### What is read is good, and no longer than the text -/
def sumL (l : List ByteArray) : Nat := (l.map (fun t => t.size + 1)).sum
theorem sum_split : ∀ (l cur : List UInt8), sumL ((splitNL cur l).map bs) = cur.length + l.length + 1
  | [], cur => by simp [splitNL, sumL, bs]; rfl
  | b :: r, cur => by
    rw [splitNL]
    split
    · rw [List.map_cons]
      have := sum_split r []
      unfold sumL at *
      rw [List.map_cons, List.sum_cons, this]
      show cur.length + 1 + _ = _
      simp
      omega
    · rw [sum_split r (cur ++ [b])]
      simp
      omega
theorem sum_lines (s : ByteArray) : sumL (linesOf s) = s.size + 1 := by
  unfold linesOf
  rw [sum_split]
  show 0 + s.size + 1 = _
  omega
theorem readL_good : ∀ (L : List ByteArray) (i : Nat) (acc l : List St) (line err : Int), readL L i acc = (l, line, err) → (err = 0 ∧ ∃ new, l = acc ++ new ∧ (∀ x ∈ new, goodS x = true) ∧ (textOf new).length ≤ sumL L) ∨ (err = 7 ∧ l = [])
  | [], i, acc, l, line, err, h => by
    rw [readL] at h
    cases h
    exact .inl ⟨rfl, [], by simp, by simp, Nat.zero_le _⟩
  | t :: r, i, acc, l, line, err, h => by
    have hsum : sumL (t :: r) = t.size + 1 + sumL r := by unfold sumL; rw [List.map_cons, List.sum_cons]
    rw [readL] at h
    split at h
    · rcases readL_good r _ _ _ _ _ h with ⟨h1, new, h2, h3, h4⟩ | h1
      · exact .inl ⟨h1, new, h2, h3, by omega⟩
      · exact .inr h1
    · cases hs : stepOf t with
      | none =>
        rw [hs] at h
        cases h
        exact .inr ⟨rfl, rfl⟩
      | some x =>
        rw [hs] at h
        obtain ⟨hg, e⟩ := stepOf_some hs
        rcases readL_good r _ _ _ _ _ h with ⟨h1, new, h2, h3, h4⟩ | h1
        · refine .inl ⟨h1, x :: new, by rw [h2]; simp, fun y hy => ?_, ?_⟩
          · rcases List.mem_cons.1 hy with rfl | hy
            · exact hg
            · exact h3 y hy
          · rw [textOf, List.length_append, e]
            have : (t ++ (⟨#[10]⟩ : ByteArray)).data.toList.length = t.size + 1 := by
              show (t ++ (⟨#[10]⟩ : ByteArray)).size = _
              rw [ByteArray.size_append]
              rfl
            omega
        · exact .inr h1
theorem readF_good {s : ByteArray} {l : List St} {line err : Int} (h : readF s = (l, line, err)) : (err = 0 ∧ (∀ x ∈ l, goodS x = true) ∧ (textOf l).length ≤ s.size + 1) ∨ (err ≠ 0 ∧ l = []) := by
  unfold readF at h
  split at h
  · cases h
    exact .inr ⟨by decide, rfl⟩
  · rcases readL_good _ _ _ _ _ _ h with ⟨h1, new, h2, h3, h4⟩ | ⟨h1, h2⟩
    · rw [List.nil_append] at h2
      subst h2
      exact .inl ⟨h1, h3, by rw [sum_lines] at h4; exact h4⟩
    · exact .inr ⟨by omega, h2⟩
theorem line_size_t {x : St} (h : goodS x = true) : x.t.size ≤ (lineS x).size ∧ 0 < (lineS x).size := by
  have hs : (lineS x).size = (dl (lineS x)).length := rfl
  have ht : x.t.size ≤ (tailL x).length := by
    rcases (good_tail h).2.2 with ⟨c, hc, _, hn, hk, ht⟩ | ⟨_, _, ht, _⟩ | ⟨_, _, ht, _⟩ | ⟨_, _, ht, _⟩
    · rw [ht]
      have : x.t.size = (dl x.t).length := rfl
      simp
      omega
    · rw [ht]; exact Nat.zero_le _
    · rw [ht]; exact Nat.zero_le _
    · rw [ht]; exact Nat.zero_le _
  obtain ⟨c, q, e, _⟩ := line_head h
  refine ⟨?_, by rw [hs, e]; simp⟩
  rw [hs, dl_lineS, List.length_append]
  omega
theorem text_bounds : ∀ (l : List St), (∀ x ∈ l, goodS x = true) → l.length ≤ (textOf l).length ∧ ∀ x ∈ l, x.t.size ≤ (textOf l).length
  | [], _ => ⟨Nat.le_refl _, by simp⟩
  | x :: l, h => by
    obtain ⟨h1, h2⟩ := text_bounds l (fun y hy => h y (by simp [hy]))
    have h3 := line_size_t (h x (by simp))
    have h4 : (lineS x ++ (⟨#[10]⟩ : ByteArray)).data.toList.length = (lineS x).size + 1 := by
      show (lineS x ++ (⟨#[10]⟩ : ByteArray)).size = _
      rw [ByteArray.size_append]
      rfl
    rw [textOf, List.length_append, List.length_cons]
    refine ⟨by omega, fun y hy => ?_⟩
    rcases List.mem_cons.1 hy with rfl | hy
    · omega
    · have := h2 y hy
      omega
theorem writeF_good {l : List St} (h : ∀ x ∈ l, goodS x = true) (hs : (textOf l).length ≤ 65536) : writeF l = (⟨(textOf l).toArray⟩, 0) :=
  writeF_ok (fun j hj _ => h _ (List.getElem_mem hj)) hs
/-- What was written without a fault reads back. -/
theorem writeF_zero {l : List St} {t : ByteArray} (h : writeF l = (t, 0)) : readF t = (l, 0, 0) := by
  by_cases hg : ∀ x ∈ l, goodS x = true
  · by_cases hs : (textOf l).length ≤ 65536
    · rw [writeF_good hg hs] at h
      cases h
      exact read_back hg hs
    · rw [writeF_long (k := l.length) (fun j hj _ => hg _ (List.getElem_mem hj)) (by rw [List.take_length]; omega)] at h
      cases h
  · exfalso
    apply hg
    intro x hx
    obtain ⟨k, hk, e⟩ := List.mem_iff_getElem.1 hx
    cases hgx : goodS x with
    | true => rfl
    | false =>
      rw [writeF_bad hk e hgx] at h
      cases h
noncomputable def body5 : Code := Tryz.f5.body.getD .skip
set_option maxRecDepth 1000000 in
set_option maxHeartbeats 8000000 in
theorem write_none (w : World) :
    Calls Tryz.prog 10 #[.slice none 0 0] w fun e w' => e = .returned (.tuple #[.string (writeF []).1, .int .i64 (writeF []).2]) ∧ Below w.heap.size w w' := by
  have hI0 : Kept w (w.alloc (.cells #[.pointer none, .slice none 0 0] 49)) := by unfold Kept; exact Below.refl _ _
  have hI := hI0.builder
  have hBB := hI0.below (Below.refl _ _)
  have HI := Aside.mk hI
  have HBB := Aside.mk hBB
  clear hI hBB hI0
  go_enter Tryz.func10, Tryz.ntmps10
  go_wp2
  go_loop [11] (fun i => i = .int .i64 0) (fun _ => 0)
  case atStart => rfl
  case round =>
    subst hrel
    go_wp2
    go_loop [21] (fun i => i = .int .i64 0) (fun _ => 0)
    case atStart => rfl
    case round =>
      subst hrel
      go_wp2_with (go_at_call 21; refine (Tryz.Builder_String_any w.heap.size w.heap.size _ _ HI.out (by simp)).mono ?_; rintro e w' ⟨rfl, hb3⟩)
      go_ret2
      exact ⟨by rw [writeF_ok (l := []) (fun j h _ => absurd h (Nat.not_lt_zero _)) (Nat.zero_le _)]; rfl, HBB.out.trans (hb3.mono (by simp))⟩
theorem write_own {B : Nat} {v : Value} {l : List St} {w : World} (h : w.ownsRow B 32 6 v l.length (cellsS l)) (hl : l.length ≤ 100000) (hu : ∀ i (h : i < l.length), l[i].u.size ≤ maxLen) (hs : ∀ i (h : i < l.length), l[i].t.size ≤ 1000000) (htab : PowTab w) :
    Calls Tryz.prog 10 #[v] w fun e w' => e = .returned (.tuple #[.string (writeF l).1, .int .i64 (writeF l).2]) ∧ Below w.heap.size w w' := by
  rcases Joins.ownsRow_forms h with ⟨rfl, h0⟩ | ⟨g, cap, rfl⟩
  · obtain rfl : l = [] := List.eq_nil_of_length_eq_zero h0
    exact write_none w
  · exact write_more g 0 cap l w hl (steps_of_cells (h.cells (g := g) rfl)) (h.lt g rfl).2 hu hs htab
/-- A slice of steps that came in. -/
def ArgSteps (w : World) (v : Value) (l : List St) : Prop := (v = .slice none 0 0 ∧ l = []) ∨ (∃ a cap, v = .slice (some a) 0 cap ∧ l = []) ∨ (∃ b o cap, v = .slice (some ⟨b, o, none⟩) l.length cap ∧ StepsAt w b o l ∧ b < w.heap.size ∧ 0 < l.length)
theorem argSteps_below {w w' : World} {v : Value} {l : List St} (h : ArgSteps w v l) (hb : Below w.heap.size w w') : ArgSteps w' v l := by
  rcases h with h | h | ⟨b, o, cap, h1, h2, h3, h4⟩
  · exact .inl h
  · exact .inr (.inl h)
  · exact .inr (.inr ⟨b, o, cap, h1, stepsAt_below h2 h3 hb, by have := hb.size; omega, h4⟩)
theorem same_arg {B : Nat} {v1 v2 : Value} {l : List St} {w : World} (h1 : ArgSteps w v1 l) (h2 : w.ownsRow B 32 6 v2 l.length (cellsS l)) (hl : l.length ≤ 1000000) :
    Calls Tryz.prog 9 #[v1, v2] w fun e w' => e = .returned (.bool true) ∧ Below w.heap.size w w' := by
  have hz : l = [] → v2 = .slice none 0 0 ∨ ∃ g cap, v2 = .slice (some ⟨g, 0, none⟩) 0 cap := fun e => by
    subst e
    rcases Joins.ownsRow_forms h2 with h | h
    · exact .inl h.1
    · exact .inr h
  rcases h1 with ⟨rfl, e⟩ | ⟨a, cap, rfl, e⟩ | ⟨b, o, cap, rfl, hst, hb, h0⟩
  · exact same_nil _ _ w (.inl rfl) (hz e)
  · exact same_nil _ _ w (.inr ⟨_, _, rfl⟩) (hz e)
  · obtain ⟨c, cap', rfl⟩ := Joins.ownsRow_form h2 h0
    exact same_calls b o c cap cap' l w hst (steps_of_cells (h2.cells (g := c) rfl)) hb (h2.lt c rfl).2 hl
theorem writeF_size (l : List St) : (writeF l).1.size ≤ 65536 := by
  by_cases hg : ∀ x ∈ l, goodS x = true
  · by_cases hs : (textOf l).length ≤ 65536
    · rw [writeF_good hg hs]; exact hs
    · rw [writeF_long (k := l.length) (fun j hj _ => hg _ (List.getElem_mem hj)) (by rw [List.take_length]; omega)]
      exact Nat.zero_le _
  · have : ∃ x ∈ l, goodS x = false := by
      apply Classical.byContradiction
      intro hn
      exact hg fun x hx => by
        cases hgx : goodS x with
        | true => rfl
        | false => exact absurd ⟨x, hx, hgx⟩ hn
    obtain ⟨x, hx, hgx⟩ := this
    obtain ⟨k, hk, e⟩ := List.mem_iff_getElem.1 hx
    rw [writeF_bad hk e hgx]
    exact Nat.zero_le _
theorem small_max {n : Nat} (h : n ≤ 65536) : n ≤ maxLen := by unfold maxLen; omega
theorem back_empty (w : World) : (w.alloc (.cells #[] 32)).ownsRow w.heap.size 32 6 (.slice (some ⟨w.heap.size, 0, none⟩) 0 0) 0 [] :=
  ⟨rfl, .inr ⟨w.heap.size, 0, #[], rfl, Nat.le_refl _, heap_alloc_new w _, Nat.le_refl _, Nat.zero_le _, rfl, rfl⟩⟩
set_option maxRecDepth 1000000 in
set_option maxHeartbeats 8000000 in
theorem back_2 (s : ByteArray) (a0 : Value) (W0 W : World) (v2 v3 v4 v5 v6 v7 v8 v9 v10 v11 v12 v13 v14 v15 v16 v17 v18 v19 v20 v21 v22 v23 v24 v25 v26 v27 v28 v29 v30 v31 v32 v33 v34 v35 v36 v37 v38 v39 v40 v41 v42 v43 v44 v45 v46 v47 v48 v49 v50 v51 v52 v53 v54 v55 v56 v57 v58 v59 v60 v61 v62 v63 v64 v65 v66 v67 v68 v69 v70 v71 v72 v73 v74 v75 v76 v77 v78 v79 v80 v81 v82 v83 v84 v85 v86 v87 v88 v89 v90 v91 v92 v93 v94 v95 v96 v97 : Value) (hB : Below W0.heap.size W0 W) (hmax : MaxW W0) (htab : PowTab W0) (hs : s.size ≤ 20000) :
    (rt 6 body5).wp Tryz.prog (bodyPost Tryz.prog Tryz.f5 fun e w' => e = .returned (.bool true) ∧ Below W0.heap.size W0 w') { tmps := #[a0, .string s, v2, v3, v4, v5, v6, v7, v8, v9, v10, v11, v12, v13, v14, v15, v16, v17, v18, v19, v20, v21, v22, v23, v24, v25, v26, v27, v28, v29, v30, v31, v32, v33, v34, v35, v36, v37, v38, v39, v40, v41, v42, v43, v44, v45, v46, v47, v48, v49, v50, v51, v52, v53, v54, v55, v56, v57, v58, v59, v60, v61, v62, v63, v64, v65, v66, v67, v68, v69, v70, v71, v72, v73, v74, v75, v76, v77, v78, v79, v80, v81, v82, v83, v84, v85, v86, v87, v88, v89, v90, v91, v92, v93, v94, v95, v96, v97], defers := [] } W := by
  conv => arg 2; whnf
  have HM := Aside.mk (maxW_below hmax hB)
  have HT := Aside.mk (tab_below htab hB)
  clear hmax htab
  generalize hres : readF s = res
  obtain ⟨l, line, err⟩ := res
  have HR := Aside.mk hres
  rcases readF_good hres with ⟨rfl, hg, ht⟩ | ⟨he, rfl⟩
  · have hw := writeF_good hg (by omega)
    obtain ⟨hlen, htx⟩ := text_bounds l hg
    have hlen2 : l.length ≤ 100000 := by omega
    have hu : ∀ i (h : i < l.length), l[i].u.size ≤ maxLen := fun i h => by have := good_user (hg _ (List.getElem_mem h)); unfold maxLen; omega
    have hx : ∀ i (h : i < l.length), l[i].t.size ≤ 1000000 := fun i h => by have := htx _ (List.getElem_mem h); omega
    have hrb := read_back hg (by omega)
    have hsz : (⟨(textOf l).toArray⟩ : ByteArray).size ≤ 65536 := by show (textOf l).length ≤ 65536; omega
    generalize (⟨(textOf l).toArray⟩ : ByteArray) = tx at hw hrb hsz
    have HW := Aside.mk hw
    have HU := Aside.mk hu
    have HX := Aside.mk hx
    have HRB := Aside.mk hrb
    clear hres hg ht hw hlen htx hu hx hrb
    go_wp2_with fail
    refine (read_calls s _ (small_max (by omega)) HM.out HT.out).mono ?_
    rw [HR.out]
    rintro e w1 ⟨⟨v1, rfl, ho1⟩, hb1⟩
    dsimp only
    go_wp2_with fail
    refine (write_own ho1 hlen2 HU.out HX.out (tab_below HT.out hb1)).mono ?_
    rw [HW.out]
    rintro e w2 ⟨rfl, hb2⟩
    dsimp only
    have hb12 := hb1.trans (hb2.mono hb1.size)
    go_wp2_with fail
    refine (read_calls tx _ (small_max hsz) (maxW_below HM.out hb12) (tab_below HT.out hb12)).mono ?_
    rw [HRB.out]
    rintro e w3 ⟨⟨v3, rfl, ho3⟩, hb3⟩
    dsimp only
    have hb13 := hb12.trans (hb3.mono hb12.size)
    go_wp2_with fail
    refine (same_own (own_below (own_below ho1 hb2) hb3) ho3 (by omega)).mono ?_
    rintro e w4 ⟨rfl, hb4⟩
    dsimp only
    go_wp2
    go_ret
    exact ⟨rfl, hB.trans ((hb13.trans (hb4.mono hb13.size)).mono hB.size)⟩
  · have hne : (err == 0) = false := beq_eq_false_iff_ne.mpr he
    clear hres he
    go_wp2_with fail
    refine (read_calls s _ (small_max (by omega)) HM.out HT.out).mono ?_
    rw [HR.out]
    rintro e w1 ⟨⟨v1, rfl, ho1⟩, hb1⟩
    dsimp only
    rcases Joins.ownsRow_forms ho1 with ⟨rfl, _⟩ | ⟨g, cap, rfl⟩
    all_goals
      go_wp2
      go_ret
      exact ⟨rfl, hB.trans (hb1.mono hB.size)⟩
set_option maxRecDepth 1000000 in
set_option maxHeartbeats 8000000 in
theorem back_1 (s : ByteArray) (a0 : Value) (l : List St) (tx : ByteArray) (err : Int) (W0 W : World) (v2 v3 v4 v5 v8 v9 v10 v11 v12 v13 v14 v15 v16 v17 v18 v19 v20 v21 v22 v23 v24 v25 v26 v27 v28 v29 v30 v31 v32 v33 v34 v35 v36 v37 v38 v39 v40 v41 v42 v43 v44 v45 v46 v47 v48 v49 v50 v51 v52 v53 v54 v55 v56 v57 v58 v59 v60 v61 v62 v63 v64 v65 v66 v67 v68 v69 v70 v71 v72 v73 v74 v75 v76 v77 v78 v79 v80 v81 v82 v83 v84 v85 v86 v87 v88 v89 v90 v91 v92 v93 v94 v95 v96 v97 : Value) (ha : ArgSteps W a0 l) (hw : writeF l = (tx, err)) (hl : l.length ≤ 100) (hB : Below W0.heap.size W0 W) (hmax : MaxW W0) (htab : PowTab W0) (hs : s.size ≤ 20000) :
    (rt 5 body5).wp Tryz.prog (bodyPost Tryz.prog Tryz.f5 fun e w' => e = .returned (.bool true) ∧ Below W0.heap.size W0 w') { tmps := #[a0, .string s, v2, v3, v4, v5, .string tx, .int .i64 err, v8, v9, v10, v11, v12, v13, v14, v15, v16, v17, v18, v19, v20, v21, v22, v23, v24, v25, v26, v27, v28, v29, v30, v31, v32, v33, v34, v35, v36, v37, v38, v39, v40, v41, v42, v43, v44, v45, v46, v47, v48, v49, v50, v51, v52, v53, v54, v55, v56, v57, v58, v59, v60, v61, v62, v63, v64, v65, v66, v67, v68, v69, v70, v71, v72, v73, v74, v75, v76, v77, v78, v79, v80, v81, v82, v83, v84, v85, v86, v87, v88, v89, v90, v91, v92, v93, v94, v95, v96, v97], defers := [] } W := by
  conv => arg 2; whnf
  have HM0 := Aside.mk hmax
  have HT0 := Aside.mk htab
  have HM := Aside.mk (maxW_below hmax hB)
  have HT := Aside.mk (tab_below htab hB)
  have HA := Aside.mk ha
  have hsz : tx.size ≤ 65536 := by have := writeF_size l; rw [hw] at this; exact this
  clear hmax htab ha
  refine wp_seq_k (fun K hK => ?_)
  have HK := Aside.mk hK
  clear hK
  by_cases he : err = 0
  · subst he
    have HRB := Aside.mk (writeF_zero hw)
    clear hw
    go_wp2_with fail
    refine (read_calls tx _ (small_max hsz) HM.out HT.out).mono ?_
    rw [HRB.out]
    rintro e w1 ⟨⟨v1, rfl, ho1⟩, hb1⟩
    dsimp only
    go_wp2_with fail
    refine (same_arg (argSteps_below HA.out hb1) ho1 (by omega)).mono ?_
    rintro e w2 ⟨rfl, hb2⟩
    dsimp only
    go_wp2
    exact HK.out _ _ (back_2 s a0 W0 _ _ _ _ _ _ _ _ _ _ _ _ _ _ _ _ _ _ _ _ _ _ _ _ _ _ _ _ _ _ _ _ _ _ _ _ _ _ _ _ _ _ _ _ _ _ _ _ _ _ _ _ _ _ _ _ _ _ _ _ _ _ _ _ _ _ _ _ _ _ _ _ _ _ _ _ _ _ _ _ _ _ _ _ _ _ _ _ _ _ _ _ _ _ _ _ _ ((hB.trans (hb1.mono hB.size)).trans (hb2.mono (hB.trans (hb1.mono hB.size)).size)) HM0.out HT0.out hs)
  · have hne : (err == 0) = false := beq_eq_false_iff_ne.mpr he
    clear hw he
    go_wp2
    exact HK.out _ _ (back_2 s a0 W0 _ _ _ _ _ _ _ _ _ _ _ _ _ _ _ _ _ _ _ _ _ _ _ _ _ _ _ _ _ _ _ _ _ _ _ _ _ _ _ _ _ _ _ _ _ _ _ _ _ _ _ _ _ _ _ _ _ _ _ _ _ _ _ _ _ _ _ _ _ _ _ _ _ _ _ _ _ _ _ _ _ _ _ _ _ _ _ _ _ _ _ _ _ _ _ _ _ hB HM0.out HT0.out hs)
set_option maxRecDepth 1000000 in
set_option maxHeartbeats 8000000 in
theorem back_0 (s : ByteArray) (a0 : Value) (l : List St) (W0 W : World) (v2 v3 v4 v5 v6 v7 v8 v9 v10 v11 v12 v13 v14 v15 v16 v17 v18 v19 v20 v21 v22 v23 v24 v25 v26 v27 v28 v29 v30 v31 v32 v33 v34 v35 v36 v37 v38 v39 v40 v41 v42 v43 v44 v45 v46 v47 v48 v49 v50 v51 v52 v53 v54 v55 v56 v57 v58 v59 v60 v61 v62 v63 v64 v65 v66 v67 v68 v69 v70 v71 v72 v73 v74 v75 v76 v77 v78 v79 v80 v81 v82 v83 v84 v85 v86 v87 v88 v89 v90 v91 v92 v93 v94 v95 v96 v97 : Value) (ha : ArgSteps W a0 l) (hl : l.length ≤ 100) (hu : ∀ i (h : i < l.length), l[i].u.size ≤ maxLen) (ht : ∀ i (h : i < l.length), l[i].t.size ≤ 500) (hB : Below W0.heap.size W0 W) (hmax : MaxW W0) (htab : PowTab W0) (hs : s.size ≤ 20000) :
    (rt 4 body5).wp Tryz.prog (bodyPost Tryz.prog Tryz.f5 fun e w' => e = .returned (.bool true) ∧ Below W0.heap.size W0 w') { tmps := #[a0, .string s, v2, v3, v4, v5, v6, v7, v8, v9, v10, v11, v12, v13, v14, v15, v16, v17, v18, v19, v20, v21, v22, v23, v24, v25, v26, v27, v28, v29, v30, v31, v32, v33, v34, v35, v36, v37, v38, v39, v40, v41, v42, v43, v44, v45, v46, v47, v48, v49, v50, v51, v52, v53, v54, v55, v56, v57, v58, v59, v60, v61, v62, v63, v64, v65, v66, v67, v68, v69, v70, v71, v72, v73, v74, v75, v76, v77, v78, v79, v80, v81, v82, v83, v84, v85, v86, v87, v88, v89, v90, v91, v92, v93, v94, v95, v96, v97], defers := [] } W := by
  obtain ⟨i0, hi, hz0, hz1, hz2⟩ := info_parts infoStepR
  conv => arg 2; whnf
  have HM0 := Aside.mk hmax
  have HT0 := Aside.mk htab
  have HT := Aside.mk (tab_below htab hB)
  have HA := Aside.mk ha
  have HU := Aside.mk hu
  have HX := Aside.mk (show ∀ i (h : i < l.length), l[i].t.size ≤ 1000000 from fun i h => by have := ht i h; omega)
  have hb2 : Below W.heap.size W (W.alloc (.cells #[] 32)) := (Below.refl _ _).alloc (Nat.le_refl _) _
  have HB2 := Aside.mk hb2
  have HW0 := Aside.mk (write_more W.heap.size 0 0 [] (W.alloc (.cells #[] 32)) (by simp) (fun i h => absurd h (Nat.not_lt_zero _)) (by simp) (fun i h => absurd h (Nat.not_lt_zero _)) (fun i h => absurd h (Nat.not_lt_zero _)) (tab_below HT.out hb2))
  clear hmax htab hu ht
  refine wp_seq_k (fun K hK => ?_)
  have HK := Aside.mk hK
  clear hK
  rcases ha with ⟨rfl, rfl⟩ | ⟨a, cap, rfl, rfl⟩ | ⟨b, o, cap, rfl, hst, hb, h0⟩
  · clear hb2
    go_wp2_with (go_at_call 10; refine HW0.out.mono ?_; rintro e w3 ⟨rfl, hb4⟩)
    have hb5 := HB2.out.trans (hb4.mono HB2.out.size)
    exact HK.out _ _ (back_1 s _ [] _ _ W0 _ _ _ _ _ _ _ _ _ _ _ _ _ _ _ _ _ _ _ _ _ _ _ _ _ _ _ _ _ _ _ _ _ _ _ _ _ _ _ _ _ _ _ _ _ _ _ _ _ _ _ _ _ _ _ _ _ _ _ _ _ _ _ _ _ _ _ _ _ _ _ _ _ _ _ _ _ _ _ _ _ _ _ _ _ _ _ _ _ _ _ _ _ _ _ (argSteps_below HA.out hb5) rfl hl (hB.trans (hb5.mono hB.size)) HM0.out HT0.out hs)
  · clear hb2
    go_wp2_with (go_at_call 10; refine HW0.out.mono ?_; rintro e w3 ⟨rfl, hb4⟩)
    have hb5 := HB2.out.trans (hb4.mono HB2.out.size)
    exact HK.out _ _ (back_1 s _ [] _ _ W0 _ _ _ _ _ _ _ _ _ _ _ _ _ _ _ _ _ _ _ _ _ _ _ _ _ _ _ _ _ _ _ _ _ _ _ _ _ _ _ _ _ _ _ _ _ _ _ _ _ _ _ _ _ _ _ _ _ _ _ _ _ _ _ _ _ _ _ _ _ _ _ _ _ _ _ _ _ _ _ _ _ _ _ _ _ _ _ _ _ _ _ _ _ _ _ (argSteps_below HA.out hb5) rfl hl (hB.trans (hb5.mono hB.size)) HM0.out HT0.out hs)
  · have HN := Aside.mk (steps_cells (stepsAt_below hst hb hb2))
    clear hb2
    go_wp2_with (at_builtin; refine wpList_append_own _ rfl _ _ 23 rfl W.heap.size 32 i0 _ 6 64 Tryz.underlying23 hi hz0 hz1 hz2 rfl (by decide) _ 0 [] rfl (back_empty W) ⟨b, o, none⟩ l.length cap (cellsS l) rfl (cellsS_length l) HN.out (cellsS_one l) (by unfold maxLen; omega) (by omega) (by simp) ?_)
    intro v' w2 hown hgrow hnil
    have hb3 : Below W.heap.size W w2 := HB2.out.grown hgrow HB2.out.size (fun k hk => by cases hk; exact Nat.le_refl _)
    have hown2 : w2.ownsRow W.heap.size 32 6 v' l.length (cellsS l) := by simpa using hown
    have HW := Aside.mk (write_own hown2 (by omega) HU.out HX.out (tab_below HT.out hb3))
    have HB3 := Aside.mk hb3
    clear hown hgrow hnil hb3 hown2
    go_wp2_with (go_at_call 10; refine HW.out.mono ?_; rintro e w3 ⟨rfl, hb4⟩)
    have hb5 := HB3.out.trans (hb4.mono HB3.out.size)
    exact HK.out _ _ (back_1 s _ l _ _ W0 _ _ _ _ _ _ _ _ _ _ _ _ _ _ _ _ _ _ _ _ _ _ _ _ _ _ _ _ _ _ _ _ _ _ _ _ _ _ _ _ _ _ _ _ _ _ _ _ _ _ _ _ _ _ _ _ _ _ _ _ _ _ _ _ _ _ _ _ _ _ _ _ _ _ _ _ _ _ _ _ _ _ _ _ _ _ _ _ _ _ _ _ _ _ _ (argSteps_below HA.out hb5) rfl hl (hB.trans (hb5.mono hB.size)) HM0.out HT0.out hs)
def ShortTo (l : List St) (k : Nat) : Prop := ∀ j (h : j < l.length), j < k → l[j].t.size ≤ 500
theorem short_succ {l : List St} {k : Nat} {x : St} (h : k < l.length) (ha : ShortTo l k) (hx : l[k] = x) (ht : x.t.size ≤ 500) : ShortTo l (k + 1) := fun j hj hjk => by
  by_cases e : j = k
  · subst e; rw [hx]; exact ht
  · exact ha j hj (by omega)
set_option maxRecDepth 1000000 in
set_option maxHeartbeats 8000000 in
theorem law_back_none (s : ByteArray)  (W : World) (hsh : W.ShapedOpen Tryz.prog) (hdb : Lib.TabIs Tryz.prog W "math/bits.deBruijn64tab" .u8 dbZ) (htab : PowTab W) :
    Calls Tryz.prog 5 #[.slice none 0 0, .string s] W fun e w' => e = .returned (.bool true) ∧ Below W.heap.size W w' := by
  have HM := Aside.mk (maxW_of hsh)
  have HT := Aside.mk htab
  have HF := Aside.mk (fixed_true W hsh hdb)
  clear htab hsh hdb
  by_cases hlong : (20000 : Int) < (s.size : Int)
  · skip
    go_enter Tryz.func5, Tryz.ntmps5
    refine wp_seq_k (fun K0 hK => ?_)
    have HK := Aside.mk hK
    clear hK
    go_wp2
    refine HK.out _ _ ?_
    clear HK
    refine wp_seq_k (fun K1 hK => ?_)
    have HK := Aside.mk hK
    clear hK
    go_wp2_with (go_at_call 6; refine HF.out.mono ?_; rintro e w1 ⟨rfl, hb1⟩)
    refine HK.out _ _ ?_
    clear HK
    have HB1 := Aside.mk hb1
    clear hb1
    refine wp_seq_k (fun K2 hK => ?_)
    have HK := Aside.mk hK
    clear hK
    go_wp2
    go_ret
    exact ⟨rfl, HB1.out⟩
  · skip
    go_enter Tryz.func5, Tryz.ntmps5
    refine wp_seq_k (fun K0 hK => ?_)
    have HK := Aside.mk hK
    clear hK
    go_wp2
    refine HK.out _ _ ?_
    clear HK
    refine wp_seq_k (fun K1 hK => ?_)
    have HK := Aside.mk hK
    clear hK
    go_wp2_with (go_at_call 6; refine HF.out.mono ?_; rintro e w1 ⟨rfl, hb1⟩)
    refine HK.out _ _ ?_
    clear HK
    have HB1 := Aside.mk hb1
    clear hb1
    refine wp_seq_k (fun K2 hK => ?_)
    have HK := Aside.mk hK
    clear hK
    go_wp2
    refine HK.out _ _ ?_
    clear HK
    refine wp_seq_k (fun K3 hK => ?_)
    have HK := Aside.mk hK
    clear hK
    go_wp2
    go_loop [5] (fun i => i = .int .i64 0) (fun _ => 0)
    case atStart => rfl
    case round =>
      subst hrel
      go_wp2
      all_goals ((try simp only [Exit.inBlock, Exit.then]); exact HK.out _ _ (back_0 s _ [] W _ _ _ _ _ _ _ _ _ _ _ _ _ _ _ _ _ _ _ _ _ _ _ _ _ _ _ _ _ _ _ _ _ _ _ _ _ _ _ _ _ _ _ _ _ _ _ _ _ _ _ _ _ _ _ _ _ _ _ _ _ _ _ _ _ _ _ _ _ _ _ _ _ _ _ _ _ _ _ _ _ _ _ _ _ _ _ _ _ _ _ _ _ _ _ _ _ (.inl ⟨rfl, rfl⟩) (by simp) (fun i h => absurd h (Nat.not_lt_zero _)) (fun i h => absurd h (Nat.not_lt_zero _)) HB1.out HM.out HT.out (by omega)))
set_option maxRecDepth 1000000 in
set_option maxHeartbeats 8000000 in
theorem law_back_zero (s : ByteArray) (a : Addr) (cap : Nat) (W : World) (hsh : W.ShapedOpen Tryz.prog) (hdb : Lib.TabIs Tryz.prog W "math/bits.deBruijn64tab" .u8 dbZ) (htab : PowTab W) :
    Calls Tryz.prog 5 #[.slice (some a) 0 cap, .string s] W fun e w' => e = .returned (.bool true) ∧ Below W.heap.size W w' := by
  have HM := Aside.mk (maxW_of hsh)
  have HT := Aside.mk htab
  have HF := Aside.mk (fixed_true W hsh hdb)
  clear htab hsh hdb
  by_cases hlong : (20000 : Int) < (s.size : Int)
  · skip
    go_enter Tryz.func5, Tryz.ntmps5
    refine wp_seq_k (fun K0 hK => ?_)
    have HK := Aside.mk hK
    clear hK
    go_wp2
    refine HK.out _ _ ?_
    clear HK
    refine wp_seq_k (fun K1 hK => ?_)
    have HK := Aside.mk hK
    clear hK
    go_wp2_with (go_at_call 6; refine HF.out.mono ?_; rintro e w1 ⟨rfl, hb1⟩)
    refine HK.out _ _ ?_
    clear HK
    have HB1 := Aside.mk hb1
    clear hb1
    refine wp_seq_k (fun K2 hK => ?_)
    have HK := Aside.mk hK
    clear hK
    go_wp2
    go_ret
    exact ⟨rfl, HB1.out⟩
  · skip
    go_enter Tryz.func5, Tryz.ntmps5
    refine wp_seq_k (fun K0 hK => ?_)
    have HK := Aside.mk hK
    clear hK
    go_wp2
    refine HK.out _ _ ?_
    clear HK
    refine wp_seq_k (fun K1 hK => ?_)
    have HK := Aside.mk hK
    clear hK
    go_wp2_with (go_at_call 6; refine HF.out.mono ?_; rintro e w1 ⟨rfl, hb1⟩)
    refine HK.out _ _ ?_
    clear HK
    have HB1 := Aside.mk hb1
    clear hb1
    refine wp_seq_k (fun K2 hK => ?_)
    have HK := Aside.mk hK
    clear hK
    go_wp2
    refine HK.out _ _ ?_
    clear HK
    refine wp_seq_k (fun K3 hK => ?_)
    have HK := Aside.mk hK
    clear hK
    go_wp2
    go_loop [5] (fun i => i = .int .i64 0) (fun _ => 0)
    case atStart => rfl
    case round =>
      subst hrel
      go_wp2
      all_goals ((try simp only [Exit.inBlock, Exit.then]); exact HK.out _ _ (back_0 s _ [] W _ _ _ _ _ _ _ _ _ _ _ _ _ _ _ _ _ _ _ _ _ _ _ _ _ _ _ _ _ _ _ _ _ _ _ _ _ _ _ _ _ _ _ _ _ _ _ _ _ _ _ _ _ _ _ _ _ _ _ _ _ _ _ _ _ _ _ _ _ _ _ _ _ _ _ _ _ _ _ _ _ _ _ _ _ _ _ _ _ _ _ _ _ _ _ _ _ (.inr (.inl ⟨_, _, rfl, rfl⟩)) (by simp) (fun i h => absurd h (Nat.not_lt_zero _)) (fun i h => absurd h (Nat.not_lt_zero _)) HB1.out HM.out HT.out (by omega)))
set_option maxRecDepth 1000000 in
set_option maxHeartbeats 8000000 in
theorem law_back_some (s : ByteArray) (b o cap : Nat) (l : List St) (W : World) (hst : StepsAt W b o l) (hb : b < W.heap.size) (h0 : 0 < l.length) (hl : l.length ≤ maxLen) (hu : ∀ i (h : i < l.length), l[i].u.size ≤ maxLen) (hsh : W.ShapedOpen Tryz.prog) (hdb : Lib.TabIs Tryz.prog W "math/bits.deBruijn64tab" .u8 dbZ) (htab : PowTab W) :
    Calls Tryz.prog 5 #[.slice (some ⟨b, o, none⟩) l.length cap, .string s] W fun e w' => e = .returned (.bool true) ∧ Below W.heap.size W w' := by
  have HM := Aside.mk (maxW_of hsh)
  have HT := Aside.mk htab
  have HF := Aside.mk (fixed_true W hsh hdb)
  clear htab hsh hdb
  have HC := Aside.mk hst
  have HU := Aside.mk hu
  clear hst hu
  unfold maxLen at hl
  by_cases h100 : l.length ≤ 100
  · have h100' : ¬ (100 : Int) < (l.length : Int) := by omega
    by_cases hlong : (20000 : Int) < (s.size : Int)
    · skip
      go_enter Tryz.func5, Tryz.ntmps5
      refine wp_seq_k (fun K0 hK => ?_)
      have HK := Aside.mk hK
      clear hK
      go_wp2
      refine HK.out _ _ ?_
      clear HK
      refine wp_seq_k (fun K1 hK => ?_)
      have HK := Aside.mk hK
      clear hK
      go_wp2_with (go_at_call 6; refine HF.out.mono ?_; rintro e w1 ⟨rfl, hb1⟩)
      refine HK.out _ _ ?_
      clear HK
      have HB1 := Aside.mk hb1
      clear hb1
      refine wp_seq_k (fun K2 hK => ?_)
      have HK := Aside.mk hK
      clear hK
      go_wp2
      go_ret
      exact ⟨rfl, HB1.out⟩
    · skip
      go_enter Tryz.func5, Tryz.ntmps5
      refine wp_seq_k (fun K0 hK => ?_)
      have HK := Aside.mk hK
      clear hK
      go_wp2
      refine HK.out _ _ ?_
      clear HK
      refine wp_seq_k (fun K1 hK => ?_)
      have HK := Aside.mk hK
      clear hK
      go_wp2_with (go_at_call 6; refine HF.out.mono ?_; rintro e w1 ⟨rfl, hb1⟩)
      refine HK.out _ _ ?_
      clear HK
      have HB1 := Aside.mk hb1
      clear hb1
      refine wp_seq_k (fun K2 hK => ?_)
      have HK := Aside.mk hK
      clear hK
      go_wp2
      refine HK.out _ _ ?_
      clear HK
      refine wp_seq_k (fun K3 hK => ?_)
      have HK := Aside.mk hK
      clear hK
      go_wp2
      go_loop [5] (fun i => ∃ k : Nat, k ≤ l.length ∧ i = .int .i64 k ∧ Aside (ShortTo l k)) (fun i => l.length - (intOf i).toNat)
      case atStart => exact ⟨0, Nat.zero_le _, rfl, ⟨fun j _ hj => absurd hj (by omega)⟩⟩
      case round =>
        obtain ⟨k, hk, rfl, ho⟩ := hrel
        by_cases hlt : k < l.length
        · obtain ⟨e0, e1, e2, e3, e4, e5⟩ := HC.out k hlt
          generalize hx : l[k] = x at e0 e1 e2 e3 e4 e5
          have d2 := (HB1.out.cell (p := ⟨b, o + k * 6 + 2, none⟩) hb).trans e2
          have HX := Aside.mk hx
          clear e0 e1 e2 e3 e4 e5 hx
          by_cases ht : (500 : Int) < (x.t.size : Int)
          · go_wp2
            go_ret
            exact ⟨rfl, HB1.out⟩
          · go_wp2
            go_round
            case rel => exact ⟨k + 1, by omega, by go_num, ⟨short_succ hlt ho.out HX.out (by omega)⟩⟩
            case measure => simp [intOf]; omega
        · have hk2 : k = l.length := by omega
          subst hk2
          go_wp2
          all_goals ((try simp only [Exit.inBlock, Exit.then]); exact HK.out _ _ (back_0 s _ l W _ _ _ _ _ _ _ _ _ _ _ _ _ _ _ _ _ _ _ _ _ _ _ _ _ _ _ _ _ _ _ _ _ _ _ _ _ _ _ _ _ _ _ _ _ _ _ _ _ _ _ _ _ _ _ _ _ _ _ _ _ _ _ _ _ _ _ _ _ _ _ _ _ _ _ _ _ _ _ _ _ _ _ _ _ _ _ _ _ _ _ _ _ _ _ _ _ (argSteps_below (.inr (.inr ⟨b, o, cap, rfl, HC.out, hb, h0⟩)) HB1.out) h100 HU.out (fun i h => ho.out i h h) HB1.out HM.out HT.out (by omega)))
  · have h100' : (100 : Int) < (l.length : Int) := by omega
    go_enter Tryz.func5, Tryz.ntmps5
    refine wp_seq_k (fun K0 hK => ?_)
    have HK := Aside.mk hK
    clear hK
    go_wp2
    refine HK.out _ _ ?_
    clear HK
    refine wp_seq_k (fun K1 hK => ?_)
    have HK := Aside.mk hK
    clear hK
    go_wp2_with (go_at_call 6; refine HF.out.mono ?_; rintro e w1 ⟨rfl, hb1⟩)
    refine HK.out _ _ ?_
    clear HK
    have HB1 := Aside.mk hb1
    clear hb1
    refine wp_seq_k (fun K2 hK => ?_)
    have HK := Aside.mk hK
    clear hK
    go_wp2
    go_ret
    exact ⟨rfl, HB1.out⟩
end Go.Proofs.YtilpifbaolmdlaaGreatDoor
