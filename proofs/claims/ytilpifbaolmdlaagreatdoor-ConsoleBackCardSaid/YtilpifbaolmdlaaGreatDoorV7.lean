/-
  The law of reading. No condition but those written in each statement.
-/
import Derived.Test.YtilpifbaolmdlaaGreatDoorV6
import Derived.Test.YtilpifbaolmdlaaGreatDoorGate
set_option linter.unusedVariables false
set_option linter.unusedSimpArgs false
set_option linter.unusedSectionVars false
namespace Go.Proofs.YtilpifbaolmdlaaGreatDoor
open Go Go.RowKit
theorem maxW_of {W : World} (h : W.ShapedOpen Tryz.prog) : MaxW W :=
  Go.Proofs.cell_of_shapedOpen_int (zero := #[.int .i64 0]) (t := 3) h (of_decide_eq_true (by kernel_rfl)) (by kernel_rfl) rfl (by kernel_rfl) (by kernel_rfl) Tryz.underlying3
theorem readL_len : ∀ (l : List ByteArray) (i : Nat) (acc : List St), (readL l i acc).1.length ≤ acc.length + l.length
  | [], i, acc => by simp [readL]
  | t :: r, i, acc => by
    rw [readL]
    split
    · have := readL_len r (i + 1) acc
      simp at this ⊢
      omega
    · split
      · simp
      · rename_i x _
        have := readL_len r (i + 1) (acc ++ [x])
        simp at this ⊢
        omega
theorem readF_len (s : ByteArray) (hs : s.size ≤ 20000) : (readF s).1.length ≤ 1000000 := by
  have h := readL_len (linesOf s) 0 []
  have hL : (linesOf s).length ≤ 20001 := by
    rw [lines_length]
    have := Lib.countB_le ⟨#[10]⟩ (by decide) s.size s (Nat.le_refl _)
    omega
  unfold readF
  split
  · simp
  · simp at h ⊢
    omega
set_option maxRecDepth 1000000 in
set_option maxHeartbeats 4000000 in
theorem law_reads (s : ByteArray) (W : World) (hsh : W.ShapedOpen Tryz.prog) (hdb : Lib.TabIs Tryz.prog W "math/bits.deBruijn64tab" .u8 dbZ) (htab : PowTab W) (hs : s.size ≤ maxLen) :
    Calls Tryz.prog 3 #[.string s] W fun e w' => e = .returned (.bool true) ∧ Below W.heap.size W w' := by
  have HM := Aside.mk (maxW_of hsh)
  have HT := Aside.mk htab
  have HF := Aside.mk (fixed_true W hsh hdb)
  clear htab hsh hdb
  by_cases hlong : (20000 : Int) < (s.size : Int)
  · go_enter Tryz.func3, Tryz.ntmps3
    go_wp2_with (go_at_call 6; refine HF.out.mono ?_; rintro e w1 ⟨rfl, hb1⟩)
    go_ret
    exact ⟨rfl, hb1⟩
  · have HN := Aside.mk (readF_len s (by omega))
    generalize hres : readF s = res at HN
    obtain ⟨l, line, err⟩ := res
    have HR := Aside.mk hres
    clear hres
    go_enter Tryz.func3, Tryz.ntmps3
    go_wp2_with (first
      | (go_at_call 6; refine HF.out.mono ?_; rintro e w1 ⟨rfl, hb1⟩)
      | (go_at_call 7; refine (read_calls s _ hs (maxW_below HM.out hb1) (tab_below HT.out hb1)).mono ?_; rw [HR.out]; rintro e w2 ⟨⟨v1, rfl, ho1⟩, hb2⟩)
      | (go_at_call 8; refine (refReadAll_calls s _ hs).mono ?_; rw [HR.out]; rintro e w3 ⟨⟨v2, rfl, ho2⟩, hb3⟩)
      | (go_at_call 9; refine (same_own (own_below ho1 hb3) ho2 HN.out).mono ?_; rintro e w4 ⟨rfl, hb4⟩))
    have x2 := hb1.trans (hb2.mono hb1.size)
    have x3 := x2.trans (hb3.mono x2.size)
    have x4 := x3.trans (hb4.mono x3.size)
    go_ret
    exact ⟨rfl, x4⟩
end Go.Proofs.YtilpifbaolmdlaaGreatDoor
