/-
  strings.IndexAny, and what catches a panic. No condition but those written in each statement.
-/
import Derived.Test.YtilpifbaolmdlaaGreatDoorV3a
import Derived.Lib.OthersKept
import Derived.Defers
import Derived.Recover
import Derived.Laws.Pointers
import Derived.Laws.NewBlocks
set_option linter.unusedVariables false
set_option linter.unusedSimpArgs false
set_option linter.unusedSectionVars false
namespace Go.Proofs.YtilpifbaolmdlaaGreatDoor
open Go Go.RowKit
/-- What IndexAny hands back of the two signs. -/
def AnyOut (s : ByteArray) (e : Ending) : Prop := ∃ v : Int, e = .returned (.int .i64 v) ∧ -1 ≤ v ∧ v < s.size ∧ AnySays s v
theorem signs_list : (⟨#[58, 33]⟩ : ByteArray).data.toList = [58, 33] := rfl
theorem signs_ascii : ∀ (j : Nat) (b : UInt8), (⟨#[58, 33]⟩ : ByteArray).data.toList[j]? = some b → b.toNat < 128 := by
  intro j b h
  have : b ∈ ([58, 33] : List UInt8) := List.mem_of_getElem? h
  simp at this
  rcases this with rfl | rfl <;> decide
/-- Up to place i no sign stands, whatever a name's line. -/
def UpTo (s : ByteArray) (i : Nat) : Prop := ∀ (u : ByteArray) (c : UInt8) (q : List UInt8), nameB u = true → (c = 58 ∨ c = 33) → dl s = dl u ++ c :: q → i ≤ u.size
theorem any_at {s u : ByteArray} {c : UInt8} {q : List UInt8} (h : dl s = dl u ++ c :: q) (i : Nat) (hi : i < s.size) (hu : nameB u = true) (hc : c = 58 ∨ c = 33) : (i < u.size → s[i] ∈ dl u) ∧ (i = u.size → s[i] = c) := by
  have hg := data_getElem? s i hi
  rw [show s.data.toList = dl u ++ c :: q from h] at hg
  refine ⟨fun hl => ?_, fun he => ?_⟩
  · rw [List.getElem?_append_left (by rw [dl_size]; exact hl)] at hg
    exact List.mem_of_getElem? hg
  · subst he
    rw [List.getElem?_append_right (by rw [dl_size]; exact Nat.le_refl _), dl_size, Nat.sub_self, List.getElem?_cons_zero] at hg
    exact (Option.some.inj hg).symm
theorem upTo_skip {s : ByteArray} {i j : Nat} (hi : i < s.size) (h : UpTo s i) (hj : ∀ (u : ByteArray) (c : UInt8) (q : List UInt8), nameB u = true → (c = 58 ∨ c = 33) → dl s = dl u ++ c :: q → i < u.size → j ≤ u.size) (hx : s[i] ≠ 58) (hy : s[i] ≠ 33) : UpTo s j := fun u c q hu hc e => by
  have hle := h u c q hu hc e
  have ha := any_at e i hi hu hc
  rcases Nat.lt_or_eq_of_le hle with hl | he
  · exact hj u c q hu hc e hl
  · exfalso
    have := ha.2 he
    rcases hc with rfl | rfl
    · exact hx this
    · exact hy this
theorem upTo_hit {s : ByteArray} {i : Nat} (hi : i < s.size) (h : UpTo s i) (hx : s[i] = 58 ∨ s[i] = 33) : AnySays s i := fun u c q hu hc e => by
  have hle := h u c q hu hc e
  have ha := any_at e i hi hu hc
  rcases Nat.lt_or_eq_of_le hle with hl | he
  · exfalso
    have := name_not hu (ha.1 hl)
    rcases hx with hx | hx
    · rw [hx] at this; exact this.2.2.1 rfl
    · rw [hx] at this; exact this.2.1 rfl
  · omega
theorem upTo_end {s : ByteArray} {i : Nat} (hi : ¬ i < s.size) (h : UpTo s i) (v : Int) : AnySays s v := fun u c q hu hc e => by
  exfalso
  have hle := h u c q hu hc e
  have : s.size = (dl s).length := rfl
  rw [e, List.length_append, dl_size, List.length_cons] at this
  omega
theorem upTo_high {s : ByteArray} {i j : Nat} (hi : i < s.size) (h : UpTo s i) (hx : 128 ≤ s[i].toNat) : UpTo s j := fun u c q hu hc e => by
  exfalso
  have hle := h u c q hu hc e
  have ha := any_at e i hi hu hc
  rcases Nat.lt_or_eq_of_le hle with hl | he
  · have := name_not hu (ha.1 hl)
    omega
  · have := ha.2 he
    rcases hc with rfl | rfl <;> (rw [this] at hx; revert hx; decide)
theorem iterAt_below {w wr : World} (h : Below w.heap.size w wr) (s : ByteArray) (pos : Nat) : Below w.heap.size w (wr.iterAt w.heap.size s pos) :=
  ⟨h.os, h.tape, h.output, by show w.heap.size ≤ (wr.heap.setIfInBounds w.heap.size (.stringIter s pos)).size; rw [Array.size_setIfInBounds]; exact h.size, fun k hk => by
    show (wr.heap.setIfInBounds w.heap.size (.stringIter s pos))[k]? = _
    rw [Array.getElem?_setIfInBounds_ne (by omega)]
    exact h.block k hk⟩
theorem zero95 : (Tryz.prog.info? 95).map (fun i => (i.zero, i.size)) = some (some (.agg (Array.replicate 256 (.bool false))), 256) := by kernel_rfl
set_option maxRecDepth 1000000 in
set_option maxHeartbeats 8000000 in
theorem indexAny_calls (s : ByteArray) (w : World) (hs : s.size ≤ 1000000) :
    Calls Tryz.prog 29 #[.string s, .string ⟨#[58, 33]⟩] w fun e w' => AnyOut s e ∧ Below w.heap.size w w' := by
  by_cases h8 : 8 < s.size
  · refine (Tryz.strings_IndexAny_long (zero_of_info zero95).1 s ⟨#[58, 33]⟩ w (by decide) h8 (by omega) (by decide) signs_ascii).mono fun e w' ⟨he, hw⟩ => ?_
    subst hw
    refine ⟨⟨_, he, Lib.indexAny_ge _ _, ?_, fun u c q hu hc e => ?_⟩, ((Below.refl _ _).alloc (Nat.le_refl _) _).alloc (by simp) _⟩
    · rw [Lib.size_eq]; exact indexAny_lt _ _
    · rw [show s.data.toList = dl u ++ c :: q from e]
      exact ask_any hu c hc q
  · have h8z : decide ((8 : Int) < (s.size : Int)) = false := decide_eq_false (by omega)
    go_enter Tryz.func29, Tryz.ntmps29
    go_wp2_with (go_at_call 52; refine (Tryz.strings_shouldUseASCIISet _ _).mono ?_; rintro e w' ⟨rfl, hw⟩; rw [hw, h8z]; clear hw)
    go_loopg [9, 10] s.size (fun g _ _ wx => ∃ i : Nat, s.size ≤ i + g ∧ Aside (wx.heap[w.heap.size]? = some (.stringIter s i)) ∧ Aside (Below w.heap.size w wx) ∧ Aside (UpTo s i))
    case atStart => exact ⟨0, by omega, ⟨World.iter_heap w s 0⟩, ⟨(Below.refl _ _).alloc (Nat.le_refl _) _⟩, ⟨fun u c q hu hc e => Nat.zero_le _⟩⟩
    case round =>
      obtain ⟨i, hig, hI, hB, hU⟩ := hrel
      by_cases hi : i < s.size
      · cases gk with
        | zero => omega
        | succ g =>
          by_cases h128 : s[i].toNat < 128
          · have hnx := fun ty => Lib.run_next_ascii_at (P := Tryz.prog) wr w.heap.size s i ty hI.out hi h128
            have HB1 : Aside (Below w.heap.size w (wr.iterAt w.heap.size s (i + 1))) := ⟨iterAt_below hB.out s (i + 1)⟩
            have HI1 : Aside ((wr.iterAt w.heap.size s (i + 1)).heap[w.heap.size]? = some (.stringIter s (i + 1))) := ⟨Lib.iterAt_heap wr w.heap.size s i (i + 1) hI.out⟩
            by_cases hx : s[i] = 58 ∨ s[i] = 33
            · have HA : Aside (AnySays s i) := ⟨upTo_hit hi hU.out hx⟩
              have hge : (0 : Int) ≤ Lib.indexByte [58, 33] s[i] := by
                rcases hx with hx | hx <;> (rw [hx]; decide)
              clear hx
              go_wp2_with (go_at_call 51; refine (Tryz.strings_IndexRune_ascii _ _ _ (by omega) (by omega)).mono ?_; rintro e w' ⟨rfl, hw⟩; rw [hw]; clear hw)
              go_ret
              exact ⟨⟨_, rfl, by omega, by omega, HA.out⟩, HB1.out⟩
            · have hm : Lib.indexByte [58, 33] s[i] = -1 := indexByte_no _ _ (by simp; exact ⟨fun e => hx (.inl e), fun e => hx (.inr e)⟩)
              have hlt : ¬ (0 : Int) ≤ Lib.indexByte [58, 33] s[i] := by omega
              have HU1 : Aside (UpTo s (i + 1)) := ⟨upTo_skip hi hU.out (fun u c q hu hc e hl => by omega) (fun e => hx (.inl e)) (fun e => hx (.inr e))⟩
              clear hm hx
              go_wp2_with (go_at_call 51; refine (Tryz.strings_IndexRune_ascii _ _ _ (by omega) (by omega)).mono ?_; rintro e w' ⟨rfl, hw⟩; rw [hw]; clear hw)
              go_roundg g
              case measure => omega
              case rel => exact ⟨i + 1, by omega, HI1, HB1, HU1⟩
          · have hnx := fun ty => Lib.run_next_any_at (P := Tryz.prog) wr w.heap.size s i ty hI.out hi
            obtain ⟨d1, d2⟩ := decode_high s i hi (by omega)
            generalize (Utf8.decode s i).1 = r at hnx d1
            generalize (Utf8.decode s i).2 = n at hnx d2
            have HB1 : Aside (Below w.heap.size w (wr.iterAt w.heap.size s (i + n))) := ⟨iterAt_below hB.out s (i + n)⟩
            have HI1 : Aside ((wr.iterAt w.heap.size s (i + n)).heap[w.heap.size]? = some (.stringIter s (i + n))) := ⟨Lib.iterAt_heap wr w.heap.size s i (i + n) hI.out⟩
            have HU1 : Aside (UpTo s (i + n)) := ⟨upTo_high hi hU.out (by omega)⟩
            go_wp2_with (go_at_call 51; refine (indexRune_not _ (by omega) _).mono ?_; rintro e w2 ⟨rfl, hb2⟩)
            go_roundg g
            case measure => omega
            case rel => exact ⟨i + n, by omega, ⟨by rw [hb2.block _ (Array.getElem?_eq_some_iff.1 HI1.out).1]; exact HI1.out⟩, ⟨HB1.out.trans (hb2.mono HB1.out.size)⟩, HU1⟩
      · have hnx := fun ty => Lib.run_next_end_at (P := Tryz.prog) wr w.heap.size s i ty hI.out hi
        have HA : Aside (AnySays s (-1)) := ⟨upTo_end hi hU.out _⟩
        go_wp2
        go_ret
        exact ⟨⟨_, rfl, by omega, by omega, HA.out⟩, hB.out⟩
abbrev aggS (x : St) : Value := .agg #[.int .u8 x.k, .string x.u, .string x.t, .bool x.f, .int .i64 x.n, .int .i64 x.p]
set_option maxRecDepth 100000 in
set_option maxHeartbeats 4000000 in
theorem catch_idle (A B : Nat) (w : World) :
    CallsD Tryz.prog 26 #[.pointer (some ⟨A, 0, none⟩), .pointer (some ⟨B, 0, none⟩)] .returning w fun e u' w' => e = .returned (.tuple #[]) ∧ u' = .returning ∧ w' = w := by
  refine callsD_of_wpS Tryz.func26 rfl fun c₀ cs hu => ?_
  apply wpS_seq
  apply wpS_region
  simp [wpOpsS, go_sem, recoverD, hu, Tryz.ntmps26, Exit.thenS]
  refine wpS_of_wp ?_
  go_wp2
  cases c₀
  simp_all [bodyPostS, results, Tryz.results26]
/-- What the deferred call leaves: no step, and 'no'. -/
def Caught (A B : Nat) (w w' : World) : Prop := CellsAt w' A 0 ⟨0, eB, eB, false, 0, 0⟩ ∧ w'.cell? ⟨B, 0, none⟩ = some (.bool false) ∧ Below A w w'
theorem caught_of (A B : Nat) (x : St) (ok : Bool) (w : World) (o : Obj) (hc : CellsAt w A 0 x) (hb : w.cell? ⟨B, 0, none⟩ = some (.bool ok)) (hAB : A < B) :
    Caught A B w ((((((((w.setCell ⟨A, 0, none⟩ (.int .u8 0)).setCell ⟨A, 1, none⟩ (.string ⟨#[]⟩)).setCell ⟨A, 2, none⟩ (.string ⟨#[]⟩)).setCell ⟨A, 3, none⟩ (.bool false)).setCell ⟨A, 4, none⟩ (.int .i64 0)).setCell ⟨A, 5, none⟩ (.int .i64 0)).setCell ⟨B, 0, none⟩ (.bool false)).alloc o) := by
  obtain ⟨c0, c1, c2, c3, c4, c5⟩ := hc
  have hA : A < w.heap.size := World.block_lt_of_cell? _ _ c0
  have hB : B < w.heap.size := World.block_lt_of_cell? _ _ hb
  have hne : ¬ A = B := by omega
  have hne2 : ¬ B = A := by omega
  simp only [Nat.zero_add] at c1 c2 c3 c4 c5
  refine ⟨⟨?_, ?_, ?_, ?_, ?_, ?_⟩, ?_, ?_⟩
  all_goals first
    | (simp [go_sem, c0, c1, c2, c3, c4, c5, hb, hA, hB, hne, hne2, eB]; done)
    | (refine Below.alloc (Below.setCell (Below.setCell (Below.setCell (Below.setCell (Below.setCell (Below.setCell (Below.setCell (Below.refl _ _) ?_ _) ?_ _) ?_ _) ?_ _) ?_ _) ?_ _) ?_ _) ?_ _
       all_goals (simp <;> omega))
set_option maxRecDepth 100000 in
set_option maxHeartbeats 4000000 in
theorem catch_broken (A B : Nat) (x : St) (ok : Bool) (w : World) (older : List PanicEntry) (hc : CellsAt w A 0 x) (hb : w.cell? ⟨B, 0, none⟩ = some (.bool ok)) (hAB : A < B)
    (hfA : ∀ j, w.frozen? ⟨A, j, none⟩ = false) (hfB : w.frozen? ⟨B, 0, none⟩ = false) :
    CallsD Tryz.prog 26 #[.pointer (some ⟨A, 0, none⟩), .pointer (some ⟨B, 0, none⟩)] (.panicking ({ v := .iface 62 (.agg #[]), recovered := false } :: older)) w fun e u' w' =>
      e = .returned (.tuple #[]) ∧ u' = .panicking ({ v := .iface 62 (.agg #[]), recovered := true } :: older) ∧ Caught A B w w' := by
  have HK : ∀ o, Aside (Caught A B w ((((((((w.setCell ⟨A, 0, none⟩ (.int .u8 0)).setCell ⟨A, 1, none⟩ (.string ⟨#[]⟩)).setCell ⟨A, 2, none⟩ (.string ⟨#[]⟩)).setCell ⟨A, 3, none⟩ (.bool false)).setCell ⟨A, 4, none⟩ (.int .i64 0)).setCell ⟨A, 5, none⟩ (.int .i64 0)).setCell ⟨B, 0, none⟩ (.bool false)).alloc o)) := fun o => ⟨caught_of A B x ok w o hc hb hAB⟩
  obtain ⟨c0, c1, c2, c3, c4, c5⟩ := hc
  have hA : A < w.heap.size := World.block_lt_of_cell? _ _ c0
  have hB : B < w.heap.size := World.block_lt_of_cell? _ _ hb
  simp only [Nat.zero_add] at c1 c2 c3 c4 c5
  have f0 := hfA 0
  have f1 := hfA 1
  have f2 := hfA 2
  have f3 := hfA 3
  have f4 := hfA 4
  have f5 := hfA 5
  have hta : ∀ (v : Value) (w : World), (Instr.typeAssert (.iface 62 v) 20 62 true).run Tryz.prog w = .ok (.tuple #[v, .bool true]) w := fun v w => by
    simp [Instr.typeAssert, run_underlying Tryz.underlying62]
  refine callsD_of_wpS Tryz.func26 rfl fun c₀ cs hu => ?_
  apply wpS_seq
  apply wpS_region
  simp [wpOpsS, go_sem, recoverD, hu, Tryz.ntmps26, Exit.thenS]
  refine wpS_of_wp ?_
  go_wp2
  have HF := (HK (.cells #[] 62)).out
  clear HK
  cases c₀
  simp [bodyPostS, results, Tryz.results26]
  exact HF
end Go.Proofs.YtilpifbaolmdlaaGreatDoor
