/-
  The language's own side: names, steps, lines, the writer. No condition but those written in each statement.
-/
import Derived.Test.YtilpifbaolmdlaaGreatDoorProg
import Derived.Test.YtilpifbaolmdlaaGreatDoorShelfB
import Derived.WalkKit
import Derived.Deep.DeepCutAuto
import Derived.Lib.Strings
import Derived.Below
import Derived.Deep.RegionHeld3
import Derived.Lib.ItoaLen
import Derived.Shelf.Strings.Builder1
set_option linter.unusedVariables false
set_option linter.unusedSimpArgs false
set_option linter.unusedSectionVars false
namespace Go.Proofs.YtilpifbaolmdlaaGreatDoor
open Go Go.RowKit
structure Aside (p : Prop) : Prop where
  out : p
/-- May a byte stand at a place of a name? -/
def okAt (i : Nat) (c : UInt8) : Bool := (decide (97 ≤ (c.toNat : Int)) && decide ((c.toNat : Int) ≤ 122)) || (!(i == 0) && ((decide (48 ≤ (c.toNat : Int)) && decide ((c.toNat : Int) ≤ 57)) || ((c.toNat : Int) == 95)))
def okFrom : Nat → List UInt8 → Bool
  | _, [] => true
  | i, c :: l => okAt i c && okFrom (i + 1) l
def nameB (s : ByteArray) : Bool := !(s.toList == [110, 111, 116]) && !(s.toList == [115, 97, 121, 115]) && decide ((s.size : Int) ≤ 16) && okFrom 0 s.data.toList && !(s.toList == [])
theorem okFrom_getElem : ∀ (l : List UInt8) (i k : Nat), okFrom i l = true → (h : k < l.length) → okAt (i + k) l[k] = true
  | c :: l, i, 0, h, _ => by simp only [okFrom, Bool.and_eq_true] at h; exact h.1
  | c :: l, i, k + 1, h, hk => by
    simp only [okFrom, Bool.and_eq_true] at h
    have := okFrom_getElem l (i + 1) k h.2 (by simpa using hk)
    rw [show i + (k + 1) = i + 1 + k by omega]
    exact this
theorem okFrom_of : ∀ (l : List UInt8) (i : Nat), (∀ k (h : k < l.length), okAt (i + k) l[k] = true) → okFrom i l = true
  | [], _, _ => rfl
  | c :: l, i, h => by
    simp only [okFrom, Bool.and_eq_true]
    exact ⟨h 0 (by simp), okFrom_of l (i + 1) fun k hk => by
      have := h (k + 1) (by simpa using hk)
      rw [show i + 1 + k = i + (k + 1) by omega]
      exact this⟩
def OkTo (s : ByteArray) (k : Nat) : Prop := ∀ j (h : j < s.size), j < k → okAt j s[j] = true
theorem getElem_toList (s : ByteArray) (k : Nat) (h : k < s.size) : s.data.toList[k]'h = s[k] := rfl
theorem name_no {s : ByteArray} {k : Nat} (h : k < s.size) (hn : okAt k s[k] = false) : nameB s = false := by
  cases hx : okFrom 0 s.data.toList with
  | false => unfold nameB; rw [hx]; simp
  | true =>
    have := okFrom_getElem s.data.toList 0 k hx h
    rw [Nat.zero_add, getElem_toList s k h, hn] at this
    cases this
theorem okTo_succ {s : ByteArray} {k : Nat} (h : k < s.size) (ho : OkTo s k) (hy : okAt k s[k] = true) : OkTo s (k + 1) := fun j hj hjk => by
  by_cases e : j = k
  · subst e; exact hy
  · exact ho j hj (by omega)
theorem name_yes {s : ByteArray} (h1 : ¬ s.toList = [110, 111, 116]) (h2 : ¬ s.toList = [115, 97, 121, 115]) (h3 : (s.size : Int) ≤ 16) (ho : ∀ j (h : j < s.size), okAt j s[j] = true) : nameB s = !(s.toList == []) := by
  have hx : okFrom 0 s.data.toList = true := okFrom_of _ _ fun k hk => by
    rw [Nat.zero_add]
    exact ho k hk
  unfold nameB
  rw [hx, beq_eq_false_iff_ne.mpr h1, beq_eq_false_iff_ne.mpr h2, decide_eq_true h3]
  rfl
set_option maxHeartbeats 1000000 in
theorem name_calls (s : ByteArray) (w : World) (hs : s.size ≤ maxLen) : Calls Tryz.prog 33 #[.string s] w fun e w' => e = .returned (.bool (nameB s)) ∧ w' = w := by
  unfold maxLen at hs
  by_cases h1 : s.toList = [110, 111, 116]
  · have hr : nameB s = false := by unfold nameB; rw [h1]; rfl
    have HR := Aside.mk hr
    clear hr
    go_enter Tryz.func33, Tryz.ntmps33
    go_wp2
    go_ret
    exact ⟨by rw [HR.out]; rfl, rfl⟩
  · by_cases h2 : s.toList = [115, 97, 121, 115]
    · have hr : nameB s = false := by unfold nameB; rw [h2]; simp
      have HR := Aside.mk hr
      clear hr
      go_enter Tryz.func33, Tryz.ntmps33
      go_wp2
      go_ret
      exact ⟨by rw [HR.out]; rfl, rfl⟩
    · by_cases h3 : (s.size : Int) ≤ 16
      · have b1 : (s.toList == [110, 111, 116]) = false := beq_eq_false_iff_ne.mpr h1
        have b2 : (s.toList == [115, 97, 121, 115]) = false := beq_eq_false_iff_ne.mpr h2
        have b3 : decide (16 < (s.size : Int)) = false := decide_eq_false (by omega)
        have b4 : decide (16 < s.size) = false := decide_eq_false (by omega)
        go_enter Tryz.func33, Tryz.ntmps33
        go_wp2
        clear b1 b2 b3 b4
        go_loop [19] (fun i => ∃ k : Nat, k ≤ s.size ∧ i = .int .i64 k ∧ OkTo s k) (fun i => s.size - (intOf i).toNat)
        case atStart => exact ⟨0, Nat.zero_le _, rfl, fun j _ hj => absurd hj (by omega)⟩
        case round =>
          obtain ⟨k, hk, rfl, ho⟩ := hrel
          by_cases hlt : k < s.size
          · have hno : okAt k s[k] = false → Aside (nameB s = false) := fun h => ⟨name_no hlt h⟩
            have hyes : okAt k s[k] = true → Aside (OkTo s (k + 1)) := fun h => ⟨okTo_succ hlt ho h⟩
            have HO := Aside.mk ho
            clear ho
            by_cases c1 : 97 ≤ (s[k].toNat : Int)
            · by_cases c2 : (s[k].toNat : Int) ≤ 122
              · have HY := hyes (by simp [okAt]; omega)
                clear hno hyes
                go_wp2
                go_round
                case rel => exact ⟨k + 1, by omega, by go_num, HY.out⟩
                case measure => simp [intOf]; omega
              · have HN := hno (by simp [okAt]; omega)
                clear hno hyes
                by_cases c3 : k = 0
                · subst c3
                  go_wp2
                  all_goals first
                    | (exfalso; simp at *; omega)
                    | (go_ret; exact ⟨by rw [HN.out]; rfl, rfl⟩)
                · have d1 : decide ((s[k].toNat : Int) < 48) = false := decide_eq_false (by omega)
                  have d2 : decide (57 < (s[k].toNat : Int)) = true := decide_eq_true (by omega)
                  have d3 : ((s[k].toNat : Int) != 95) = true := bne_iff_ne.mpr (by omega)
                  have d4 : ((k : Int) == 0) = false := beq_eq_false_iff_ne.mpr (by omega)
                  have d5 : 48 ≤ (s[k].toNat : Int) := by omega
                  have d6 : 57 < (s[k].toNat : Int) := by omega
                  go_wp2
                  go_ret
                  exact ⟨by rw [HN.out]; rfl, rfl⟩
            · by_cases c3 : k = 0
              · have HN := hno (by simp [okAt]; omega)
                clear hno hyes
                subst c3
                have c1' : ((s[0].toNat : Int)) < 97 := by omega
                clear c1
                go_wp2
                all_goals first
                  | (go_ret; exact ⟨by rw [HN.out]; rfl, rfl⟩)
                  | (exfalso; simp at *; omega)
              · have d4 : ((k : Int) == 0) = false := beq_eq_false_iff_ne.mpr (by omega)
                by_cases c4 : (s[k].toNat : Int) < 48
                · have HN := hno (by simp [okAt]; omega)
                  have d3 : ((s[k].toNat : Int) != 95) = true := bne_iff_ne.mpr (by omega)
                  clear hno hyes
                  go_wp2
                  go_ret
                  exact ⟨by rw [HN.out]; rfl, rfl⟩
                · by_cases c5 : (s[k].toNat : Int) ≤ 57
                  · have HY := hyes (by simp [okAt]; omega)
                    clear hno hyes
                    go_wp2
                    go_round
                    case rel => exact ⟨k + 1, by omega, by go_num, HY.out⟩
                    case measure => simp [intOf]; omega
                  · by_cases c6 : (s[k].toNat : Int) = 95
                    · have HY := hyes (by simp [okAt]; omega)
                      have d3 : ((s[k].toNat : Int) != 95) = false := bne_eq_false_iff_eq.mpr c6
                      clear hno hyes c6
                      go_wp2
                      go_round
                      case rel => exact ⟨k + 1, by omega, by go_num, HY.out⟩
                      case measure => simp [intOf]; omega
                    · have HN := hno (by simp [okAt]; omega)
                      have d3 : ((s[k].toNat : Int) != 95) = true := bne_iff_ne.mpr c6
                      clear hno hyes
                      go_wp2
                      go_ret
                      exact ⟨by rw [HN.out]; rfl, rfl⟩
          · have HY : Aside (nameB s = !(s.toList == [])) := ⟨name_yes h1 h2 h3 (fun j hj => ho j hj (by omega))⟩
            clear ho
            go_wp2
            go_ret
            exact ⟨by rw [HY.out]; simp, rfl⟩
      · have hr : nameB s = false := by unfold nameB; rw [decide_eq_false h3]; simp
        have HR := Aside.mk hr
        clear hr
        go_enter Tryz.func33, Tryz.ntmps33
        go_wp2
        go_ret
        exact ⟨by rw [HR.out]; rfl, rfl⟩
def hasNL (t : ByteArray) : Bool := decide (0 ≤ Lib.indexByte t.data.toList 10)
def bareB (u t : ByteArray) (f : Bool) : Bool := (u.toList == []) && (t.toList == []) && !f
def rangeB (n p : Int) : Bool := decide (0 ≤ n) && decide (n ≤ 1099511627776) && decide (0 ≤ p) && decide (p ≤ 1099511627776)
def powB (n p : Int) : Bool := decide (0 < n) || (p == 0)
def goodB (k : Int) (u t : ByteArray) (f : Bool) (n p : Int) : Bool :=
  rangeB n p && (if k = 1 then nameB u && !hasNL t && powB n p else if k = 2 ∨ k = 3 then bareB u t f && powB n p else if k = 4 then bareB u t f && (n == 0) else false)
set_option maxHeartbeats 1000000 in
theorem good_range (k : Int) (u t : ByteArray) (f : Bool) (n p : Int) (w : World) (h : rangeB n p = false) :
    Calls Tryz.prog 17 #[.agg #[.int .u8 k, .string u, .string t, .bool f, .int .i64 n, .int .i64 p]] w fun e w' => e = .returned (.bool false) ∧ Below w.heap.size w w' := by
  by_cases h1 : n < 0
  · go_enter Tryz.func17, Tryz.ntmps17
    go_wp2
    go_ret
    exact ⟨rfl, (Below.refl _ _).alloc (Nat.le_refl _) _⟩
  · by_cases h2 : n ≤ 1099511627776
    · by_cases h3 : p < 0
      · go_enter Tryz.func17, Tryz.ntmps17
        go_wp2
        go_ret
        exact ⟨rfl, (Below.refl _ _).alloc (Nat.le_refl _) _⟩
      · have h4 : ¬ p ≤ 1099511627776 := fun h5 => by
          unfold rangeB at h
          rw [decide_eq_true (show 0 ≤ n by omega), decide_eq_true h2, decide_eq_true (show 0 ≤ p by omega), decide_eq_true h5] at h
          cases h
        go_enter Tryz.func17, Tryz.ntmps17
        go_wp2
        go_ret
        exact ⟨rfl, (Below.refl _ _).alloc (Nat.le_refl _) _⟩
    · go_enter Tryz.func17, Tryz.ntmps17
      go_wp2
      go_ret
      exact ⟨rfl, (Below.refl _ _).alloc (Nat.le_refl _) _⟩
theorem range_of {n p : Int} (h : rangeB n p = true) : 0 ≤ n ∧ n ≤ 1099511627776 ∧ 0 ≤ p ∧ p ≤ 1099511627776 := by
  unfold rangeB at h
  simp only [Bool.and_eq_true, decide_eq_true_eq] at h
  exact ⟨h.1.1.1, h.1.1.2, h.1.2, h.2⟩
set_option maxHeartbeats 1000000 in
theorem good_ask (u t : ByteArray) (f : Bool) (n p : Int) (w : World) (hu : u.size ≤ maxLen) (h : rangeB n p = true) :
    Calls Tryz.prog 17 #[.agg #[.int .u8 1, .string u, .string t, .bool f, .int .i64 n, .int .i64 p]] w fun e w' => e = .returned (.bool (nameB u && !hasNL t && powB n p)) ∧ Below w.heap.size w w' := by
  obtain ⟨r1, r2, r3, r4⟩ := range_of h
  clear h
  cases hn : nameB u with
  | false =>
    have HN := Aside.mk hn
    clear hn
    go_enter Tryz.func17, Tryz.ntmps17
    go_wp2_with (go_at_call 33; refine (name_calls _ _ hu).mono ?_; rintro e w' ⟨rfl, rfl⟩; rw [HN.out])
    all_goals (go_ret; exact ⟨rfl, (Below.refl _ _).alloc (Nat.le_refl _) _⟩)
  | true =>
    have HN := Aside.mk hn
    clear hn
    cases hc : hasNL t with
    | true =>
      have HC : Aside (decide (0 ≤ Lib.indexByte t.data.toList 10) = true) := ⟨hc⟩
      clear hc
      go_enter Tryz.func17, Tryz.ntmps17
      go_wp2_with (first | (go_at_call 33; refine (name_calls _ _ hu).mono ?_; rintro e w' ⟨rfl, rfl⟩; rw [HN.out]) | (go_at_call 34; refine (Tryz.strings_Contains_one _ _ _).mono ?_; rintro e w' ⟨rfl, rfl⟩; rw [HC.out]))
      all_goals (go_ret; exact ⟨rfl, (Below.refl _ _).alloc (Nat.le_refl _) _⟩)
    | false =>
      have HC : Aside (decide (0 ≤ Lib.indexByte t.data.toList 10) = false) := ⟨hc⟩
      clear hc
      by_cases hp : 0 < n
      · have HP : Aside (powB n p = true) := ⟨by unfold powB; rw [decide_eq_true hp]; rfl⟩
        go_enter Tryz.func17, Tryz.ntmps17
        go_wp2_with (first | (go_at_call 33; refine (name_calls _ _ hu).mono ?_; rintro e w' ⟨rfl, rfl⟩; rw [HN.out]) | (go_at_call 34; refine (Tryz.strings_Contains_one _ _ _).mono ?_; rintro e w' ⟨rfl, rfl⟩; rw [HC.out]))
        all_goals (go_ret; exact ⟨by rw [HP.out]; first | rfl | (simp; done) | (simp; omega), (Below.refl _ _).alloc (Nat.le_refl _) _⟩)
      · by_cases hq : p = 0
        · have HP : Aside (powB n p = true) := ⟨by unfold powB; rw [hq]; simp⟩
          subst hq
          go_enter Tryz.func17, Tryz.ntmps17
          go_wp2_with (first | (go_at_call 33; refine (name_calls _ _ hu).mono ?_; rintro e w' ⟨rfl, rfl⟩; rw [HN.out]) | (go_at_call 34; refine (Tryz.strings_Contains_one _ _ _).mono ?_; rintro e w' ⟨rfl, rfl⟩; rw [HC.out]))
          all_goals (go_ret; exact ⟨by rw [HP.out]; first | rfl | (simp; done) | (simp; omega), (Below.refl _ _).alloc (Nat.le_refl _) _⟩)
        · have HP : Aside (powB n p = false) := ⟨by unfold powB; rw [decide_eq_false hp, beq_eq_false_iff_ne.mpr hq]; rfl⟩
          have d1 : (p == 0) = false := beq_eq_false_iff_ne.mpr hq
          clear hq
          go_enter Tryz.func17, Tryz.ntmps17
          go_wp2_with (first | (go_at_call 33; refine (name_calls _ _ hu).mono ?_; rintro e w' ⟨rfl, rfl⟩; rw [HN.out]) | (go_at_call 34; refine (Tryz.strings_Contains_one _ _ _).mono ?_; rintro e w' ⟨rfl, rfl⟩; rw [HC.out]))
          all_goals (go_ret; exact ⟨by rw [HP.out]; first | rfl | (simp; done) | (simp; omega), (Below.refl _ _).alloc (Nat.le_refl _) _⟩)
set_option maxHeartbeats 1000000 in
theorem good_tick (u t : ByteArray) (f : Bool) (n p : Int) (w : World) (h : rangeB n p = true) :
    Calls Tryz.prog 17 #[.agg #[.int .u8 2, .string u, .string t, .bool f, .int .i64 n, .int .i64 p]] w fun e w' => e = .returned (.bool (bareB u t f && powB n p)) ∧ Below w.heap.size w w' := by
  obtain ⟨r1, r2, r3, r4⟩ := range_of h
  clear h
  go_enter Tryz.func17, Tryz.ntmps17
  go_wp2
  all_goals (go_ret; exact ⟨by first | (simp [bareB, powB, *]; done) | (simp [bareB, powB, *]; omega) | (simp_all [bareB, powB]; done) | (simp_all [bareB, powB]; omega), (Below.refl _ _).alloc (Nat.le_refl _) _⟩)
set_option maxHeartbeats 1000000 in
theorem good_check (u t : ByteArray) (f : Bool) (n p : Int) (w : World) (h : rangeB n p = true) :
    Calls Tryz.prog 17 #[.agg #[.int .u8 3, .string u, .string t, .bool f, .int .i64 n, .int .i64 p]] w fun e w' => e = .returned (.bool (bareB u t f && powB n p)) ∧ Below w.heap.size w w' := by
  obtain ⟨r1, r2, r3, r4⟩ := range_of h
  clear h
  go_enter Tryz.func17, Tryz.ntmps17
  go_wp2
  all_goals (go_ret; exact ⟨by first | (simp [bareB, powB, *]; done) | (simp [bareB, powB, *]; omega) | (simp_all [bareB, powB]; done) | (simp_all [bareB, powB]; omega), (Below.refl _ _).alloc (Nat.le_refl _) _⟩)
set_option maxHeartbeats 1000000 in
theorem good_crash (u t : ByteArray) (f : Bool) (n p : Int) (w : World) (h : rangeB n p = true) :
    Calls Tryz.prog 17 #[.agg #[.int .u8 4, .string u, .string t, .bool f, .int .i64 n, .int .i64 p]] w fun e w' => e = .returned (.bool (bareB u t f && (n == 0))) ∧ Below w.heap.size w w' := by
  obtain ⟨r1, r2, r3, r4⟩ := range_of h
  clear h
  go_enter Tryz.func17, Tryz.ntmps17
  go_wp2
  all_goals (go_ret; exact ⟨by first | (simp [bareB, powB, *]; done) | (simp [bareB, powB, *]; omega) | (simp_all [bareB, powB]; done) | (simp_all [bareB, powB]; omega), (Below.refl _ _).alloc (Nat.le_refl _) _⟩)
set_option maxHeartbeats 1000000 in
theorem good_none (k : Int) (u t : ByteArray) (f : Bool) (n p : Int) (w : World) (h : rangeB n p = true) (h1 : (k == 1) = false) (h2 : (k == 2) = false) (h3 : (k == 3) = false) (h4 : (k == 4) = false) :
    Calls Tryz.prog 17 #[.agg #[.int .u8 k, .string u, .string t, .bool f, .int .i64 n, .int .i64 p]] w fun e w' => e = .returned (.bool false) ∧ Below w.heap.size w w' := by
  obtain ⟨r1, r2, r3, r4⟩ := range_of h
  clear h
  go_enter Tryz.func17, Tryz.ntmps17
  go_wp2
  all_goals (go_ret; exact ⟨rfl, (Below.refl _ _).alloc (Nat.le_refl _) _⟩)
abbrev bs (l : List UInt8) : ByteArray := ⟨l.toArray⟩
/-- What a line begins with where the power is told. -/
def powS (n p : Int) : ByteArray := (((((⟨#[112, 111, 119, 101, 114, 32]⟩ : ByteArray) ++ bs (Lib.itoa n)) ++ (⟨#[32]⟩ : ByteArray)) ++ bs (Lib.itoa p)) ++ (⟨#[32]⟩ : ByteArray))
abbrev PowTab (w : World) : Prop := Lib.TabIs Tryz.prog w "internal/strconv.uint64pow10" .u64 Lib.pow10Tab
theorem tab_below {w W : World} (h : PowTab w) (hb : Below w.heap.size w W) : PowTab W := by
  have hg : Tryz.prog.globalNamed "internal/strconv.uint64pow10" = some 3 := by kernel_rfl
  unfold PowTab Lib.TabIs World.var? at h ⊢
  rw [hg] at h ⊢
  simp only [Option.bind_some] at h ⊢
  have hlt : 3 < w.heap.size := by
    rcases Nat.lt_or_ge 3 w.heap.size with h1 | h1
    · exact h1
    · rw [Array.getElem?_eq_none h1] at h; cases h
  rw [hb.block 3 hlt]
  exact h
@[irreducible] def KeepL (w w' : World) : Prop := Below w.heap.size w w' ∧ w.heap.size + 1 ≤ w'.heap.size
theorem KeepL.mk {w w' : World} (h : Below w.heap.size w w') (h2 : w.heap.size + 1 ≤ w'.heap.size) : KeepL w w' := by unfold KeepL; exact ⟨h, h2⟩
theorem KeepL.below {w w' : World} (h : KeepL w w') : Below w.heap.size w w' := by unfold KeepL at h; exact h.1
theorem KeepL.size {w w' : World} (h : KeepL w w') : w.heap.size + 1 ≤ w'.heap.size := by unfold KeepL at h; exact h.2
theorem KeepL.start (w : World) (O : Obj) : KeepL w ((w.alloc O).drew) :=
  .mk ⟨rfl, rfl, rfl, by simp, fun k hk => by show (w.heap.push O)[k]? = _; rw [Array.getElem?_push, if_neg (by omega)]⟩ (by simp)
theorem drewN_heap (w : World) (k : Nat) : (w.drewN k).heap = w.heap ∧ (w.drewN k).os = w.os ∧ (w.drewN k).tape = w.tape ∧ (w.drewN k).output = w.output := ⟨rfl, rfl, rfl, rfl⟩
theorem KeepL.grow {w W : World} (h : KeepL w W) (k : Nat) (os : Array Obj) : KeepL w (Go.Sort.grow (W.drewN k) os) := by
  have hb := h.below
  have hz := h.size
  refine .mk ⟨hb.os, hb.tape, hb.output, ?_, fun i hi => ?_⟩ ?_
  · show w.heap.size ≤ (W.heap ++ os).size; rw [Array.size_append]; have := hb.size; omega
  · show (W.heap ++ os)[i]? = _
    rw [Array.getElem?_append_left (by have := hb.size; omega)]
    exact hb.block i hi
  · show w.heap.size + 1 ≤ (W.heap ++ os).size; rw [Array.size_append]; omega
abbrev KeepC (w : World) (v0 v1 v2 v3 v4 v5 : Value) (W : World) : Prop := KeepL w W ∧ W.cell? ⟨w.heap.size, 0, none⟩ = some v0 ∧ W.cell? ⟨w.heap.size, 1, none⟩ = some v1 ∧ W.cell? ⟨w.heap.size, 2, none⟩ = some v2 ∧
  W.cell? ⟨w.heap.size, 3, none⟩ = some v3 ∧ W.cell? ⟨w.heap.size, 4, none⟩ = some v4 ∧ W.cell? ⟨w.heap.size, 5, none⟩ = some v5
theorem start_alloc (v0 v1 v2 v3 v4 v5 : Value) (w : World) : KeepC w v0 v1 v2 v3 v4 v5 (w.alloc (.cells #[v0, v1, v2, v3, v4, v5] 32)) :=
  ⟨.mk ((Below.refl _ _).alloc (Nat.le_refl _) _) (by simp), by simp, by simp, by simp, by simp, by simp, by simp⟩
theorem start_ok (v0 v1 v2 v3 v4 v5 : Value) (w : World) : KeepC w v0 v1 v2 v3 v4 v5 ((w.alloc (.cells #[v0, v1, v2, v3, v4, v5] 32)).drew) :=
  ⟨KeepL.start _ _, by simp, by simp, by simp, by simp, by simp, by simp⟩
theorem KeepC.grow {w W : World} {v0 v1 v2 v3 v4 v5 : Value} (h : KeepC w v0 v1 v2 v3 v4 v5 W) (k : Nat) (os : Array Obj) : KeepC w v0 v1 v2 v3 v4 v5 (Go.Sort.grow (W.drewN k) os) := by
  have hz := h.1.size
  have hc : ∀ j, (Go.Sort.grow (W.drewN k) os).cell? ⟨w.heap.size, j, none⟩ = W.cell? ⟨w.heap.size, j, none⟩ := fun j => by
    have : (Go.Sort.grow (W.drewN k) os).heap[w.heap.size]? = W.heap[w.heap.size]? := by
      show (W.heap ++ os)[w.heap.size]? = _
      exact Array.getElem?_append_left (by omega)
    unfold World.cell?
    simp only [this]
  obtain ⟨h1, h2, h3, h4, h5, h6, h7⟩ := h
  exact ⟨h1.grow k os, by rw [hc]; exact h2, by rw [hc]; exact h3, by rw [hc]; exact h4, by rw [hc]; exact h5, by rw [hc]; exact h6, by rw [hc]; exact h7⟩
set_option maxRecDepth 100000 in
set_option maxHeartbeats 2000000 in
theorem line_ask_no (u t : ByteArray) (n p : Int) (w : World) (r1 : 0 < n) (r2 : n ≤ 1099511627776) (r3 : 0 ≤ p) (r4 : p ≤ 1099511627776) (htab : PowTab w) (hu : u.size ≤ 1000000) (ht : t.size ≤ 1000000) :
    Calls Tryz.prog 19 #[.agg #[.int .u8 1, .string u, .string t, .bool false, .int .i64 n, .int .i64 p]] w fun e w' => e = .returned (.string (powS n p ++ u ++ (⟨#[58, 32]⟩ : ByteArray) ++ t)) ∧ Below w.heap.size w w' := by
  have la : (Lib.itoa n).length ≤ 40 := Nat.le_trans (Lib.itoa_length_le n (by omega) (by omega)) (by omega)
  have lb : (Lib.itoa p).length ≤ 40 := Nat.le_trans (Lib.itoa_length_le p (by omega) (by omega)) (by omega)
  have g1 : ¬ 9223372036854775807 < 6 + (Lib.itoa n).length := by omega
  have g2 : ¬ 9223372036854775807 < 6 + (Lib.itoa n).length + 1 := by omega
  have g3 : ¬ 9223372036854775807 < 6 + (Lib.itoa n).length + 1 + (Lib.itoa p).length := by omega
  have g4 : ¬ 9223372036854775807 < 6 + (Lib.itoa n).length + 1 + (Lib.itoa p).length + 1 := by omega
  have s1 : (⟨(Lib.itoa n).toArray⟩ : ByteArray).size = (Lib.itoa n).length := rfl
  have s2 : (⟨(Lib.itoa p).toArray⟩ : ByteArray).size = (Lib.itoa p).length := rfl
  go_enter Tryz.func19, Tryz.ntmps19
  go_wp2_with fail
  have key : ∀ (W : World), Below w.heap.size w W → PowTab W := fun W h => tab_below htab h
  go_region_held3 (fun w' => KeepL w w' ∧ w'.cell? ⟨w.heap.size, 0, none⟩ = some (.int .u8 1) ∧ w'.cell? ⟨w.heap.size, 1, none⟩ = some (.string u) ∧ w'.cell? ⟨w.heap.size, 2, none⟩ = some (.string t) ∧ w'.cell? ⟨w.heap.size, 3, none⟩ = some (.bool false) ∧ w'.cell? ⟨w.heap.size, 4, none⟩ = some (.int .i64 n) ∧ w'.cell? ⟨w.heap.size, 5, none⟩ = some (.int .i64 p))
    (first
      | exact start_ok _ _ _ _ _ _ _
      | exact (start_alloc _ _ _ _ _ _ _).grow _ _
      | exact ((start_alloc _ _ _ _ _ _ _).grow _ _).grow _ _
      | go_keep)
    (first
      | (go_at_call 36; refine (Tryz.strconv_Itoa _ (by omega) (by omega) _ (key _ (KeepL.below (KeepL.start _ _)))).mono ?_; rintro e w'' ⟨rfl, kk, os, rfl⟩)
      | (go_at_call 36; refine (Tryz.strconv_Itoa _ (by omega) (by omega) _ (key _ (KeepL.below (And.left ((start_alloc _ _ _ _ _ _ _).grow _ _))))).mono ?_; rintro e w'' ⟨rfl, kk, os, rfl⟩))
  go_wp2
  all_goals (go_ret; exact ⟨rfl, KeepL.below (And.left (((start_alloc _ _ _ _ _ _ _).grow _ _).grow _ _))⟩)
set_option maxRecDepth 100000 in
set_option maxHeartbeats 2000000 in
theorem line_ask_fail (u t : ByteArray) (n p : Int) (w : World) (r1 : 0 < n) (r2 : n ≤ 1099511627776) (r3 : 0 ≤ p) (r4 : p ≤ 1099511627776) (htab : PowTab w) (hu : u.size ≤ 1000000) (ht : t.size ≤ 1000000) :
    Calls Tryz.prog 19 #[.agg #[.int .u8 1, .string u, .string t, .bool true, .int .i64 n, .int .i64 p]] w fun e w' => e = .returned (.string (powS n p ++ u ++ (⟨#[33, 32]⟩ : ByteArray) ++ t)) ∧ Below w.heap.size w w' := by
  have la : (Lib.itoa n).length ≤ 40 := Nat.le_trans (Lib.itoa_length_le n (by omega) (by omega)) (by omega)
  have lb : (Lib.itoa p).length ≤ 40 := Nat.le_trans (Lib.itoa_length_le p (by omega) (by omega)) (by omega)
  have g1 : ¬ 9223372036854775807 < 6 + (Lib.itoa n).length := by omega
  have g2 : ¬ 9223372036854775807 < 6 + (Lib.itoa n).length + 1 := by omega
  have g3 : ¬ 9223372036854775807 < 6 + (Lib.itoa n).length + 1 + (Lib.itoa p).length := by omega
  have g4 : ¬ 9223372036854775807 < 6 + (Lib.itoa n).length + 1 + (Lib.itoa p).length + 1 := by omega
  have s1 : (⟨(Lib.itoa n).toArray⟩ : ByteArray).size = (Lib.itoa n).length := rfl
  have s2 : (⟨(Lib.itoa p).toArray⟩ : ByteArray).size = (Lib.itoa p).length := rfl
  go_enter Tryz.func19, Tryz.ntmps19
  go_wp2_with fail
  have key : ∀ (W : World), Below w.heap.size w W → PowTab W := fun W h => tab_below htab h
  go_region_held3 (fun w' => KeepL w w' ∧ w'.cell? ⟨w.heap.size, 0, none⟩ = some (.int .u8 1) ∧ w'.cell? ⟨w.heap.size, 1, none⟩ = some (.string u) ∧ w'.cell? ⟨w.heap.size, 2, none⟩ = some (.string t) ∧ w'.cell? ⟨w.heap.size, 3, none⟩ = some (.bool true) ∧ w'.cell? ⟨w.heap.size, 4, none⟩ = some (.int .i64 n) ∧ w'.cell? ⟨w.heap.size, 5, none⟩ = some (.int .i64 p))
    (first
      | exact start_ok _ _ _ _ _ _ _
      | exact (start_alloc _ _ _ _ _ _ _).grow _ _
      | exact ((start_alloc _ _ _ _ _ _ _).grow _ _).grow _ _
      | go_keep)
    (first
      | (go_at_call 36; refine (Tryz.strconv_Itoa _ (by omega) (by omega) _ (key _ (KeepL.below (KeepL.start _ _)))).mono ?_; rintro e w'' ⟨rfl, kk, os, rfl⟩)
      | (go_at_call 36; refine (Tryz.strconv_Itoa _ (by omega) (by omega) _ (key _ (KeepL.below (And.left ((start_alloc _ _ _ _ _ _ _).grow _ _))))).mono ?_; rintro e w'' ⟨rfl, kk, os, rfl⟩))
  go_wp2
  all_goals (go_ret; exact ⟨rfl, KeepL.below (And.left (((start_alloc _ _ _ _ _ _ _).grow _ _).grow _ _))⟩)
set_option maxRecDepth 100000 in
set_option maxHeartbeats 2000000 in
theorem line_tick (u t : ByteArray) (f : Bool) (n p : Int) (w : World) (r1 : 0 < n) (r2 : n ≤ 1099511627776) (r3 : 0 ≤ p) (r4 : p ≤ 1099511627776) (htab : PowTab w) (hu : u.size ≤ 1000000) (ht : t.size ≤ 1000000) :
    Calls Tryz.prog 19 #[.agg #[.int .u8 2, .string u, .string t, .bool f, .int .i64 n, .int .i64 p]] w fun e w' => e = .returned (.string (powS n p ++ (⟨#[116, 105, 99, 107]⟩ : ByteArray))) ∧ Below w.heap.size w w' := by
  have la : (Lib.itoa n).length ≤ 40 := Nat.le_trans (Lib.itoa_length_le n (by omega) (by omega)) (by omega)
  have lb : (Lib.itoa p).length ≤ 40 := Nat.le_trans (Lib.itoa_length_le p (by omega) (by omega)) (by omega)
  have g1 : ¬ 9223372036854775807 < 6 + (Lib.itoa n).length := by omega
  have g2 : ¬ 9223372036854775807 < 6 + (Lib.itoa n).length + 1 := by omega
  have g3 : ¬ 9223372036854775807 < 6 + (Lib.itoa n).length + 1 + (Lib.itoa p).length := by omega
  have g4 : ¬ 9223372036854775807 < 6 + (Lib.itoa n).length + 1 + (Lib.itoa p).length + 1 := by omega
  have s1 : (⟨(Lib.itoa n).toArray⟩ : ByteArray).size = (Lib.itoa n).length := rfl
  have s2 : (⟨(Lib.itoa p).toArray⟩ : ByteArray).size = (Lib.itoa p).length := rfl
  go_enter Tryz.func19, Tryz.ntmps19
  go_wp2_with fail
  have key : ∀ (W : World), Below w.heap.size w W → PowTab W := fun W h => tab_below htab h
  go_region_held3 (fun w' => KeepL w w' ∧ w'.cell? ⟨w.heap.size, 0, none⟩ = some (.int .u8 2) ∧ w'.cell? ⟨w.heap.size, 1, none⟩ = some (.string u) ∧ w'.cell? ⟨w.heap.size, 2, none⟩ = some (.string t) ∧ w'.cell? ⟨w.heap.size, 3, none⟩ = some (.bool f) ∧ w'.cell? ⟨w.heap.size, 4, none⟩ = some (.int .i64 n) ∧ w'.cell? ⟨w.heap.size, 5, none⟩ = some (.int .i64 p))
    (first
      | exact start_ok _ _ _ _ _ _ _
      | exact (start_alloc _ _ _ _ _ _ _).grow _ _
      | exact ((start_alloc _ _ _ _ _ _ _).grow _ _).grow _ _
      | go_keep)
    (first
      | (go_at_call 36; refine (Tryz.strconv_Itoa _ (by omega) (by omega) _ (key _ (KeepL.below (KeepL.start _ _)))).mono ?_; rintro e w'' ⟨rfl, kk, os, rfl⟩)
      | (go_at_call 36; refine (Tryz.strconv_Itoa _ (by omega) (by omega) _ (key _ (KeepL.below (And.left ((start_alloc _ _ _ _ _ _ _).grow _ _))))).mono ?_; rintro e w'' ⟨rfl, kk, os, rfl⟩))
  go_wp2
  all_goals (go_ret; exact ⟨rfl, KeepL.below (And.left (((start_alloc _ _ _ _ _ _ _).grow _ _).grow _ _))⟩)
set_option maxRecDepth 100000 in
set_option maxHeartbeats 2000000 in
theorem line_check (u t : ByteArray) (f : Bool) (n p : Int) (w : World) (r1 : 0 < n) (r2 : n ≤ 1099511627776) (r3 : 0 ≤ p) (r4 : p ≤ 1099511627776) (htab : PowTab w) (hu : u.size ≤ 1000000) (ht : t.size ≤ 1000000) :
    Calls Tryz.prog 19 #[.agg #[.int .u8 3, .string u, .string t, .bool f, .int .i64 n, .int .i64 p]] w fun e w' => e = .returned (.string (powS n p ++ (⟨#[99, 104, 101, 99, 107, 112, 111, 105, 110, 116]⟩ : ByteArray))) ∧ Below w.heap.size w w' := by
  have la : (Lib.itoa n).length ≤ 40 := Nat.le_trans (Lib.itoa_length_le n (by omega) (by omega)) (by omega)
  have lb : (Lib.itoa p).length ≤ 40 := Nat.le_trans (Lib.itoa_length_le p (by omega) (by omega)) (by omega)
  have g1 : ¬ 9223372036854775807 < 6 + (Lib.itoa n).length := by omega
  have g2 : ¬ 9223372036854775807 < 6 + (Lib.itoa n).length + 1 := by omega
  have g3 : ¬ 9223372036854775807 < 6 + (Lib.itoa n).length + 1 + (Lib.itoa p).length := by omega
  have g4 : ¬ 9223372036854775807 < 6 + (Lib.itoa n).length + 1 + (Lib.itoa p).length + 1 := by omega
  have s1 : (⟨(Lib.itoa n).toArray⟩ : ByteArray).size = (Lib.itoa n).length := rfl
  have s2 : (⟨(Lib.itoa p).toArray⟩ : ByteArray).size = (Lib.itoa p).length := rfl
  go_enter Tryz.func19, Tryz.ntmps19
  go_wp2_with fail
  have key : ∀ (W : World), Below w.heap.size w W → PowTab W := fun W h => tab_below htab h
  go_region_held3 (fun w' => KeepL w w' ∧ w'.cell? ⟨w.heap.size, 0, none⟩ = some (.int .u8 3) ∧ w'.cell? ⟨w.heap.size, 1, none⟩ = some (.string u) ∧ w'.cell? ⟨w.heap.size, 2, none⟩ = some (.string t) ∧ w'.cell? ⟨w.heap.size, 3, none⟩ = some (.bool f) ∧ w'.cell? ⟨w.heap.size, 4, none⟩ = some (.int .i64 n) ∧ w'.cell? ⟨w.heap.size, 5, none⟩ = some (.int .i64 p))
    (first
      | exact start_ok _ _ _ _ _ _ _
      | exact (start_alloc _ _ _ _ _ _ _).grow _ _
      | exact ((start_alloc _ _ _ _ _ _ _).grow _ _).grow _ _
      | go_keep)
    (first
      | (go_at_call 36; refine (Tryz.strconv_Itoa _ (by omega) (by omega) _ (key _ (KeepL.below (KeepL.start _ _)))).mono ?_; rintro e w'' ⟨rfl, kk, os, rfl⟩)
      | (go_at_call 36; refine (Tryz.strconv_Itoa _ (by omega) (by omega) _ (key _ (KeepL.below (And.left ((start_alloc _ _ _ _ _ _ _).grow _ _))))).mono ?_; rintro e w'' ⟨rfl, kk, os, rfl⟩))
  go_wp2
  all_goals (go_ret; exact ⟨rfl, KeepL.below (And.left (((start_alloc _ _ _ _ _ _ _).grow _ _).grow _ _))⟩)
set_option maxRecDepth 100000 in
set_option maxHeartbeats 2000000 in
theorem line0_ask_no (u t : ByteArray) (n p : Int) (w : World) (r1 : n ≤ 0) (r3 : 0 ≤ p) (r4 : p ≤ 1099511627776) (htab : PowTab w) (hu : u.size ≤ 1000000) (ht : t.size ≤ 1000000) :
    Calls Tryz.prog 19 #[.agg #[.int .u8 1, .string u, .string t, .bool false, .int .i64 n, .int .i64 p]] w fun e w' => e = .returned (.string (u ++ (⟨#[58, 32]⟩ : ByteArray) ++ t)) ∧ Below w.heap.size w w' := by
  go_enter Tryz.func19, Tryz.ntmps19
  go_wp2
  all_goals (go_ret; exact ⟨rfl, (Below.refl _ _).alloc (Nat.le_refl _) _⟩)
set_option maxRecDepth 100000 in
set_option maxHeartbeats 2000000 in
theorem line0_tick (u t : ByteArray) (f : Bool) (n p : Int) (w : World) (r1 : n ≤ 0) (r3 : 0 ≤ p) (r4 : p ≤ 1099511627776) (htab : PowTab w) (hu : u.size ≤ 1000000) (ht : t.size ≤ 1000000) :
    Calls Tryz.prog 19 #[.agg #[.int .u8 2, .string u, .string t, .bool f, .int .i64 n, .int .i64 p]] w fun e w' => e = .returned (.string ((⟨#[116, 105, 99, 107]⟩ : ByteArray))) ∧ Below w.heap.size w w' := by
  go_enter Tryz.func19, Tryz.ntmps19
  go_wp2
  all_goals (go_ret; exact ⟨rfl, (Below.refl _ _).alloc (Nat.le_refl _) _⟩)
set_option maxRecDepth 100000 in
set_option maxHeartbeats 2000000 in
theorem line_crash (k : Int) (u t : ByteArray) (f : Bool) (n p : Int) (w : World) (r1 : 0 < n) (r2 : n ≤ 1099511627776) (r3 : 0 ≤ p) (r4 : p ≤ 1099511627776) (htab : PowTab w) (hu : u.size ≤ 1000000) (ht : t.size ≤ 1000000) (k1 : (k == 1) = false) (k2 : (k == 2) = false) (k3 : (k == 3) = false) :
    Calls Tryz.prog 19 #[.agg #[.int .u8 k, .string u, .string t, .bool f, .int .i64 n, .int .i64 p]] w fun e w' => e = .returned (.string (powS n p ++ (⟨#[99, 114, 97, 115, 104, 32]⟩ : ByteArray) ++ bs (Lib.itoa p))) ∧ Below w.heap.size w w' := by
  have la : (Lib.itoa n).length ≤ 40 := Nat.le_trans (Lib.itoa_length_le n (by omega) (by omega)) (by omega)
  have lb : (Lib.itoa p).length ≤ 40 := Nat.le_trans (Lib.itoa_length_le p (by omega) (by omega)) (by omega)
  have g1 : ¬ 9223372036854775807 < 6 + (Lib.itoa n).length := by omega
  have g2 : ¬ 9223372036854775807 < 6 + (Lib.itoa n).length + 1 := by omega
  have g3 : ¬ 9223372036854775807 < 6 + (Lib.itoa n).length + 1 + (Lib.itoa p).length := by omega
  have g4 : ¬ 9223372036854775807 < 6 + (Lib.itoa n).length + 1 + (Lib.itoa p).length + 1 := by omega
  have s1 : (⟨(Lib.itoa n).toArray⟩ : ByteArray).size = (Lib.itoa n).length := rfl
  have s2 : (⟨(Lib.itoa p).toArray⟩ : ByteArray).size = (Lib.itoa p).length := rfl
  go_enter Tryz.func19, Tryz.ntmps19
  go_wp2_with fail
  have key : ∀ (W : World), Below w.heap.size w W → PowTab W := fun W h => tab_below htab h
  go_region_held3 (fun w' => KeepL w w' ∧ w'.cell? ⟨w.heap.size, 0, none⟩ = some (.int .u8 k) ∧ w'.cell? ⟨w.heap.size, 1, none⟩ = some (.string u) ∧ w'.cell? ⟨w.heap.size, 2, none⟩ = some (.string t) ∧ w'.cell? ⟨w.heap.size, 3, none⟩ = some (.bool f) ∧ w'.cell? ⟨w.heap.size, 4, none⟩ = some (.int .i64 n) ∧ w'.cell? ⟨w.heap.size, 5, none⟩ = some (.int .i64 p))
    (first
      | exact start_ok _ _ _ _ _ _ _
      | exact (start_alloc _ _ _ _ _ _ _).grow _ _
      | exact ((start_alloc _ _ _ _ _ _ _).grow _ _).grow _ _
      | go_keep)
    (first
      | (go_at_call 36; refine (Tryz.strconv_Itoa _ (by omega) (by omega) _ (key _ (KeepL.below (KeepL.start _ _)))).mono ?_; rintro e w'' ⟨rfl, kk, os, rfl⟩)
      | (go_at_call 36; refine (Tryz.strconv_Itoa _ (by omega) (by omega) _ (key _ (KeepL.below (And.left ((start_alloc _ _ _ _ _ _ _).grow _ _))))).mono ?_; rintro e w'' ⟨rfl, kk, os, rfl⟩))
  go_wp2_with (go_at_call 36; refine (Tryz.strconv_Itoa _ (by omega) (by omega) _ (key _ (KeepL.below (And.left (((start_alloc _ _ _ _ _ _ _).grow _ _).grow _ _))))).mono ?_; rintro e w'' ⟨rfl, kk3, os3, rfl⟩)
  all_goals (go_ret; exact ⟨rfl, KeepL.below (And.left ((((start_alloc _ _ _ _ _ _ _).grow _ _).grow _ _).grow _ _))⟩)
set_option maxRecDepth 100000 in
set_option maxHeartbeats 2000000 in
theorem line0_ask_fail (u t : ByteArray) (n p : Int) (w : World) (r1 : n ≤ 0) (r3 : 0 ≤ p) (r4 : p ≤ 1099511627776) (htab : PowTab w) (hu : u.size ≤ 1000000) (ht : t.size ≤ 1000000) :
    Calls Tryz.prog 19 #[.agg #[.int .u8 1, .string u, .string t, .bool true, .int .i64 n, .int .i64 p]] w fun e w' => e = .returned (.string (u ++ (⟨#[33, 32]⟩ : ByteArray) ++ t)) ∧ Below w.heap.size w w' := by
  go_enter Tryz.func19, Tryz.ntmps19
  go_wp2
  all_goals (go_ret; exact ⟨rfl, (Below.refl _ _).alloc (Nat.le_refl _) _⟩)
set_option maxRecDepth 100000 in
set_option maxHeartbeats 2000000 in
theorem line0_check (u t : ByteArray) (f : Bool) (n p : Int) (w : World) (r1 : n ≤ 0) (r3 : 0 ≤ p) (r4 : p ≤ 1099511627776) (htab : PowTab w) (hu : u.size ≤ 1000000) (ht : t.size ≤ 1000000) :
    Calls Tryz.prog 19 #[.agg #[.int .u8 3, .string u, .string t, .bool f, .int .i64 n, .int .i64 p]] w fun e w' => e = .returned (.string ((⟨#[99, 104, 101, 99, 107, 112, 111, 105, 110, 116]⟩ : ByteArray))) ∧ Below w.heap.size w w' := by
  go_enter Tryz.func19, Tryz.ntmps19
  go_wp2
  all_goals (go_ret; exact ⟨rfl, (Below.refl _ _).alloc (Nat.le_refl _) _⟩)
set_option maxRecDepth 100000 in
set_option maxHeartbeats 2000000 in
theorem line0_crash (k : Int) (u t : ByteArray) (f : Bool) (n p : Int) (w : World) (r1 : n ≤ 0) (r3 : 0 ≤ p) (r4 : p ≤ 1099511627776) (htab : PowTab w) (hu : u.size ≤ 1000000) (ht : t.size ≤ 1000000) (k1 : (k == 1) = false) (k2 : (k == 2) = false) (k3 : (k == 3) = false) :
    Calls Tryz.prog 19 #[.agg #[.int .u8 k, .string u, .string t, .bool f, .int .i64 n, .int .i64 p]] w fun e w' => e = .returned (.string ((⟨#[99, 114, 97, 115, 104, 32]⟩ : ByteArray) ++ bs (Lib.itoa p))) ∧ Below w.heap.size w w' := by
  have key : ∀ (W : World), Below w.heap.size w W → PowTab W := fun W h => tab_below htab h
  have lb : (Lib.itoa p).length ≤ 40 := Nat.le_trans (Lib.itoa_length_le p (by omega) (by omega)) (by omega)
  have g1 : ¬ 9223372036854775807 < 6 + (Lib.itoa p).length := by omega
  have s2 : (⟨(Lib.itoa p).toArray⟩ : ByteArray).size = (Lib.itoa p).length := rfl
  go_enter Tryz.func19, Tryz.ntmps19
  go_wp2_with (go_at_call 36; refine (Tryz.strconv_Itoa _ (by omega) (by omega) _ (key _ ((Below.refl _ _).alloc (Nat.le_refl _) _))).mono ?_; rintro e w'' ⟨rfl, kk3, os3, rfl⟩)
  all_goals (go_ret; exact ⟨rfl, KeepL.below (And.left ((start_alloc _ _ _ _ _ _ _).grow _ _))⟩)
theorem szB : (Tryz.prog.info? 49).map (·.size) = some 2 := by kernel_rfl
theorem liesB : liesAt Tryz.prog Tryz.prog.depth 49 (2 / Tryz.prog.cellsOf 49) 0 49 1 = true := by kernel_rfl
set_option maxRecDepth 100000 in
theorem copyCheck_used (b : Nat) (w : World) (h0 : w.cell? ⟨b, 0, none⟩ = some (.pointer (some ⟨b, 0, none⟩))) :
    Calls Tryz.prog 35 #[.pointer (some ⟨b, 0, none⟩)] w fun e w' => e = .returned (.tuple #[]) ∧ w' = w := by
  obtain ⟨j, hj, hjs⟩ := Option.map_eq_some_iff.1 szB
  go_enter Tryz.func35, Tryz.ntmps35
  go_wp2
  rw [Lib.run_neq_ptr_same w _ Tryz.underlying46 hj]
  go_wp2
  go_end0
  exact ⟨rfl, rfl⟩
set_option maxRecDepth 100000 in
theorem copyCheck_new (b : Nat) (w : World) (h0 : w.cell? ⟨b, 0, none⟩ = some (.pointer none)) (hsh : w.shape? b = some (49, 2)) (hf : w.frozen? ⟨b, 0, none⟩ = false) :
    Calls Tryz.prog 35 #[.pointer (some ⟨b, 0, none⟩)] w fun e w' => e = .returned (.tuple #[]) ∧ w' = w.setCell ⟨b, 0, none⟩ (.pointer (some ⟨b, 0, none⟩)) := by
  obtain ⟨j, hj, hjs⟩ := Option.map_eq_some_iff.1 szB
  go_enter Tryz.func35, Tryz.ntmps35
  go_wp2
  rw [Lib.run_to_unsafe w ⟨b, 0, none⟩ Tryz.underlying46 Tryz.underlying99 hj (by rw [hjs]; decide) hsh (Nat.zero_lt_succ 1)]
  simp only [Result.andThen]
  rw [Oper.upon_value]
  go_wp2
  rw [run_callFunc_extern Tryz.func57 (by kernel_rfl) (by kernel_rfl) (by kernel_rfl) (e := Extern.AbiNoEscape.same) (by kernel_rfl)]
  rw [Lib.run_noEscape]
  simp only [Result.andThen]
  rw [Oper.upon_value]
  go_wp2
  rw [Lib.run_from_unsafe w ⟨b, 0, none⟩ Tryz.underlying99 Tryz.underlying46 hj hsh liesB]
  simp only [Result.andThen]
  rw [Oper.upon_value]
  go_wp2
  go_end0
  exact ⟨rfl, rfl⟩
theorem copyCheck_calls (B b : Nat) (bs : List Value) (w : World) (h : Lib.IsBuilder 49 5 B b bs w) :
    Calls Tryz.prog 35 #[.pointer (some ⟨b, 0, none⟩)] w fun e w' => e = .returned (.tuple #[]) ∧ (Lib.BuilderAt 49 5 B b (.pointer (some ⟨b, 0, none⟩)) bs w' ∧ Below B w w') := by
  rcases h with h | h
  · refine (copyCheck_new b w h.cell0 h.shape h.frozen0).mono ?_
    rintro e w' ⟨rfl, rfl⟩
    exact ⟨rfl, h.used _, (Below.refl B w).setCell (p := ⟨b, 0, none⟩) h.1 _⟩
  · refine (copyCheck_used b w h.cell0).mono ?_
    rintro e w' ⟨rfl, rfl⟩
    exact ⟨rfl, h, Below.refl B _⟩
theorem infoByte : (Tryz.prog.info? 5).map (fun i => (i.zero, i.size, i.bytes)) = some (some (.int .u8 0), 1, 1) := by kernel_rfl
set_option maxHeartbeats 2000000 in
set_option maxRecDepth 100000 in
theorem writeString_calls (B b : Nat) (bs : List Value) (s : ByteArray) (w : World) (h : Lib.IsBuilder 49 5 B b bs w) (hlen : bs.length + s.size ≤ 140737488355328) (hBw : B ≤ w.heap.size) :
    Calls Tryz.prog 18 #[.pointer (some ⟨b, 0, none⟩), .string s] w fun e w' => e = .returned (.tuple #[.int .i64 s.size, .nilIface]) ∧ (Lib.BuilderAt 49 5 B b (.pointer (some ⟨b, 0, none⟩)) (bs ++ Lib.strCells s) w' ∧ Below B w w') := by
  obtain ⟨i0, hi, hz0, hz1, hz2⟩ := info_parts infoByte
  go_enter Tryz.func18, Tryz.ntmps18
  go_wp2_with (go_at_call 35; refine (copyCheck_calls B b bs _ h).mono ?_)
  rintro e w1 ⟨rfl, h1, hb1⟩
  obtain ⟨hB, v, hbk, hown, hne⟩ := h1
  have c0 : w1.cell? ⟨b, 0, none⟩ = some (.pointer (some ⟨b, 0, none⟩)) := by rw [Lib.cell_of_heap hbk]; rfl
  have c1 : w1.cell? ⟨b, 1, none⟩ = some v := by rw [Lib.cell_of_heap hbk]; rfl
  go_wp2_with (at_builtin; refine Lib.wpList_append_own_string _ rfl _ _ 47 9 rfl B 5 i0 Tryz.underlying47 Tryz.underlying9 hi hz0 hz1 hz2 _ _ _ rfl hown s rfl ?c3 ?c4 ?c5 ?_)
  case c3 => unfold maxLen; omega
  case c4 => omega
  case c5 => have := hb1.size; omega
  intro v' w2 hown' hgrow _
  have hlt : b < w1.heap.size := by
    rcases Nat.lt_or_ge b w1.heap.size with h' | h'
    · exact h'
    · simp [Array.getElem?_eq_none h'] at hbk
  have hb2 : w2.heap[b]? = some (.cells #[.pointer (some ⟨b, 0, none⟩), v] 49 (0, 0)) := by
    rw [hgrow.block b hlt (fun e => hne e.symm)]
    exact hbk
  have d0 : w2.cell? ⟨b, 0, none⟩ = some (.pointer (some ⟨b, 0, none⟩)) := by rw [Lib.cell_of_heap hb2]; rfl
  have d1 : w2.cell? ⟨b, 1, none⟩ = some v := by rw [Lib.cell_of_heap hb2]; rfl
  have f1 : w2.frozen? ⟨b, 1, none⟩ = false := Lib.frozen_of_heap hb2 1
  obtain ⟨ao, n', cap, rfl⟩ : ∃ ao n' cap, v' = .slice ao n' cap := by
    rcases hown'.2 with ⟨hv, _⟩ | ⟨g, cap, cur, hv, _⟩
    · exact ⟨_, _, _, hv⟩
    · exact ⟨_, _, _, hv⟩
  go_wp2
  go_ret2
  refine ⟨rfl, ?_, ?_⟩
  · exact Lib.BuilderAt.put (T := 49) (e := 5) hB hb2 (bs' := bs ++ Lib.strCells s) (by simpa [Lib.strCells_length] using hown') (by decide)
  · exact (hb1.grown hgrow (by have := hb1.size; omega) (fun k hk => (hown.lt k hk).1)).setCell (p := ⟨b, 1, none⟩) hB _
structure St where
  k : Int
  u : ByteArray
  t : ByteArray
  f : Bool
  n : Int
  p : Int
def CellsAt (w : World) (b o : Nat) (x : St) : Prop := w.cell? ⟨b, o, none⟩ = some (.int .u8 x.k) ∧ w.cell? ⟨b, o + 1, none⟩ = some (.string x.u) ∧ w.cell? ⟨b, o + 2, none⟩ = some (.string x.t) ∧ w.cell? ⟨b, o + 3, none⟩ = some (.bool x.f) ∧ w.cell? ⟨b, o + 4, none⟩ = some (.int .i64 x.n) ∧ w.cell? ⟨b, o + 5, none⟩ = some (.int .i64 x.p)
def StepsAt (w : World) (b o : Nat) (l : List St) : Prop := ∀ i (h : i < l.length), CellsAt w b (o + i * 6) l[i]
def goodS (x : St) : Bool := goodB x.k x.u x.t x.f x.n x.p
theorem good_calls (x : St) (w : World) (hu : x.u.size ≤ maxLen) :
    Calls Tryz.prog 17 #[.agg #[.int .u8 x.k, .string x.u, .string x.t, .bool x.f, .int .i64 x.n, .int .i64 x.p]] w fun e w' => e = .returned (.bool (goodS x)) ∧ Below w.heap.size w w' := by
  obtain ⟨k, u, t, f, n, p⟩ := x
  simp only [goodS, goodB]
  cases h : rangeB n p with
  | false => exact good_range k u t f n p w h
  | true =>
    simp only [Bool.true_and]
    by_cases h1 : k = 1
    · subst h1
      rw [if_pos rfl]
      exact good_ask u t f n p w hu h
    · rw [if_neg h1]
      by_cases h2 : k = 2
      · subst h2
        rw [if_pos (.inl rfl)]
        exact good_tick u t f n p w h
      · by_cases h3 : k = 3
        · subst h3
          rw [if_pos (.inr rfl)]
          exact good_check u t f n p w h
        · rw [if_neg (by omega)]
          by_cases h4 : k = 4
          · subst h4
            rw [if_pos rfl]
            exact good_crash u t f n p w h
          · rw [if_neg h4]
            exact good_none k u t f n p w h (beq_eq_false_iff_ne.mpr h1) (beq_eq_false_iff_ne.mpr h2) (beq_eq_false_iff_ne.mpr h3) (beq_eq_false_iff_ne.mpr h4)
def lineS (x : St) : ByteArray :=
  if 0 < x.n then
    (if x.k = 1 then (if x.f = true then powS x.n x.p ++ x.u ++ (⟨#[33, 32]⟩ : ByteArray) ++ x.t else powS x.n x.p ++ x.u ++ (⟨#[58, 32]⟩ : ByteArray) ++ x.t)
    else if x.k = 2 then powS x.n x.p ++ (⟨#[116, 105, 99, 107]⟩ : ByteArray)
    else if x.k = 3 then powS x.n x.p ++ (⟨#[99, 104, 101, 99, 107, 112, 111, 105, 110, 116]⟩ : ByteArray)
    else powS x.n x.p ++ (⟨#[99, 114, 97, 115, 104, 32]⟩ : ByteArray) ++ bs (Lib.itoa x.p))
  else
    (if x.k = 1 then (if x.f = true then x.u ++ (⟨#[33, 32]⟩ : ByteArray) ++ x.t else x.u ++ (⟨#[58, 32]⟩ : ByteArray) ++ x.t)
    else if x.k = 2 then (⟨#[116, 105, 99, 107]⟩ : ByteArray)
    else if x.k = 3 then (⟨#[99, 104, 101, 99, 107, 112, 111, 105, 110, 116]⟩ : ByteArray)
    else (⟨#[99, 114, 97, 115, 104, 32]⟩ : ByteArray) ++ bs (Lib.itoa x.p))
theorem line_calls (x : St) (w : World) (h : rangeB x.n x.p = true) (htab : PowTab w) (hu : x.u.size ≤ 1000000) (ht : x.t.size ≤ 1000000) :
    Calls Tryz.prog 19 #[.agg #[.int .u8 x.k, .string x.u, .string x.t, .bool x.f, .int .i64 x.n, .int .i64 x.p]] w fun e w' => e = .returned (.string (lineS x)) ∧ Below w.heap.size w w' := by
  obtain ⟨k, u, t, f, n, p⟩ := x
  obtain ⟨r1, r2, r3, r4⟩ := range_of h
  simp only [lineS]
  by_cases hn : 0 < n
  · rw [if_pos hn]
    by_cases h1 : k = 1
    · subst h1
      rw [if_pos rfl]
      cases f with
      | true => rw [if_pos rfl]; exact line_ask_fail u t n p w hn r2 r3 r4 htab hu ht
      | false => rw [if_neg (by simp)]; exact line_ask_no u t n p w hn r2 r3 r4 htab hu ht
    · rw [if_neg h1]
      by_cases h2 : k = 2
      · subst h2
        rw [if_pos rfl]
        exact line_tick u t f n p w hn r2 r3 r4 htab hu ht
      · rw [if_neg h2]
        by_cases h3 : k = 3
        · subst h3
          rw [if_pos rfl]
          exact line_check u t f n p w hn r2 r3 r4 htab hu ht
        · rw [if_neg h3]
          exact line_crash k u t f n p w hn r2 r3 r4 htab hu ht (beq_eq_false_iff_ne.mpr h1) (beq_eq_false_iff_ne.mpr h2) (beq_eq_false_iff_ne.mpr h3)
  · rw [if_neg hn]
    have hn : n ≤ 0 := by omega
    by_cases h1 : k = 1
    · subst h1
      rw [if_pos rfl]
      cases f with
      | true => rw [if_pos rfl]; exact line0_ask_fail u t n p w hn r3 r4 htab hu ht
      | false => rw [if_neg (by simp)]; exact line0_ask_no u t n p w hn r3 r4 htab hu ht
    · rw [if_neg h1]
      by_cases h2 : k = 2
      · subst h2
        rw [if_pos rfl]
        exact line0_tick u t f n p w hn r3 r4 htab hu ht
      · rw [if_neg h2]
        by_cases h3 : k = 3
        · subst h3
          rw [if_pos rfl]
          exact line0_check u t f n p w hn r3 r4 htab hu ht
        · rw [if_neg h3]
          exact line0_crash k u t f n p w hn r3 r4 htab hu ht (beq_eq_false_iff_ne.mpr h1) (beq_eq_false_iff_ne.mpr h2) (beq_eq_false_iff_ne.mpr h3)
theorem own_below {w w' : World} {B e size n : Nat} {v : Value} {xs : List Value} (h : w.ownsRow B e size v n xs) (hb : Below w.heap.size w w') : w'.ownsRow B e size v n xs := by
  refine ⟨h.1, ?_⟩
  rcases h.2 with hn | ⟨g, cap, cur, rfl, hg, hgg, rest⟩
  · exact .inl hn
  · exact .inr ⟨g, cap, cur, rfl, hg, by rw [hb.block g (Array.getElem?_eq_some_iff.1 hgg).1]; exact hgg, rest⟩
theorem builder_below {T e B b : Nat} {p : Value} {bs : List Value} {w w' : World} (h : Lib.BuilderAt T e B b p bs w) (hb : Below w.heap.size w w') : Lib.BuilderAt T e B b p bs w' := by
  have hlt := h.lt
  obtain ⟨h1, v, h2, h3, h4⟩ := h
  exact ⟨h1, v, by rw [hb.block b hlt]; exact h2, own_below h3 hb, h4⟩
theorem isBuilder_below {T e B b : Nat} {bs : List Value} {w w' : World} (h : Lib.IsBuilder T e B b bs w) (hb : Below w.heap.size w w') : Lib.IsBuilder T e B b bs w' := by
  rcases h with h | h
  · exact .inl (builder_below h hb)
  · exact .inr (builder_below h hb)
/-- The lines of steps, one behind the other. -/
def textOf : List St → List UInt8
  | [] => []
  | x :: l => (lineS x ++ (⟨#[10]⟩ : ByteArray)).data.toList ++ textOf l
theorem textOf_append (a b : List St) : textOf (a ++ b) = textOf a ++ textOf b := by
  induction a with
  | nil => rfl
  | cons x a ih => simp [textOf, ih]
theorem textOf_take_succ {l : List St} {k : Nat} (h : k < l.length) : textOf (l.take (k + 1)) = textOf (l.take k) ++ (lineS l[k] ++ (⟨#[10]⟩ : ByteArray)).data.toList := by
  rw [List.take_succ_eq_append_getElem h, textOf_append]
  simp [textOf]
theorem textOf_take_le (l : List St) (k : Nat) : (textOf (l.take k)).length ≤ (textOf l).length := by
  have : textOf l = textOf (l.take k) ++ textOf (l.drop k) := by rw [← textOf_append, List.take_append_drop]
  rw [this, List.length_append]
  omega
def AllGood (l : List St) (k : Nat) : Prop := ∀ j (h : j < l.length), j < k → goodS l[j] = true
@[irreducible] def Kept (w wr : World) : Prop := Below (w.heap.size + 1) (w.alloc (.cells #[.pointer none, .slice none 0 0] 49)) wr
theorem Kept.cell {w wr : World} (h : Kept w wr) {b o : Nat} {v : Value} (hb : b < w.heap.size) (hc : w.cell? ⟨b, o, none⟩ = some v) : wr.cell? ⟨b, o, none⟩ = some v := by
  unfold Kept at h
  rw [h.cell (p := ⟨b, o, none⟩) (by show b < w.heap.size + 1; omega), World.cell?_alloc_lt _ _ ⟨b, o, none⟩ hb]
  exact hc
theorem all_succ {l : List St} {k : Nat} {x : St} (h : k < l.length) (ha : AllGood l k) (hx : l[k] = x) (hg : goodS x = true) : AllGood l (k + 1) := fun j hj hjk => by
  by_cases e : j = k
  · subst e; rw [hx]; exact hg
  · exact ha j hj (by omega)
theorem Kept.builder {w wr : World} (h : Kept w wr) : Lib.IsBuilder 49 5 w.heap.size w.heap.size (Lib.byteCells []) wr := by
  unfold Kept at h
  exact isBuilder_below (Lib.fresh_isBuilder 49 5 w) (by simpa using h)
theorem Kept.below {w wr w' : World} (h : Kept w wr) (h' : Below wr.heap.size wr w') : Below w.heap.size w w' := by
  unfold Kept at h
  have hs := h.size
  simp at hs
  exact ((Below.refl w.heap.size w).alloc (Nat.le_refl _) _).trans ((h.mono (by omega)).trans (h'.mono (by omega)))
theorem Kept.trans {w wr w' : World} (h : Kept w wr) (h' : Below wr.heap.size wr w') : Kept w w' := by
  unfold Kept at h ⊢
  have hs := h.size
  simp at hs
  exact h.trans (h'.mono (by omega))
theorem below_step (w : World) (o : Obj) : Below w.heap.size w (w.alloc o) := (Below.refl _ _).alloc (Nat.le_refl _) _
theorem lineS_size (x : St) (h : rangeB x.n x.p = true) (hu : x.u.size ≤ 1000000) (ht : x.t.size ≤ 1000000) : (lineS x).size ≤ 3000000 := by
  obtain ⟨k, u, t, f, n, p⟩ := x
  obtain ⟨r1, r2, r3, r4⟩ := range_of h
  have la := Lib.itoa_length_le n (by simp at r1 r2; omega) (by simp at r1 r2; omega)
  have lb := Lib.itoa_length_le p (by simp at r3 r4; omega) (by simp at r3 r4; omega)
  have s1 : (bs (Lib.itoa n)).size = (Lib.itoa n).length := rfl
  have s2 : (bs (Lib.itoa p)).size = (Lib.itoa p).length := rfl
  have c1 : (⟨#[112, 111, 119, 101, 114, 32]⟩ : ByteArray).size = 6 := rfl
  have c2 : (⟨#[32]⟩ : ByteArray).size = 1 := rfl
  have c3 : (⟨#[33, 32]⟩ : ByteArray).size = 2 := rfl
  have c4 : (⟨#[58, 32]⟩ : ByteArray).size = 2 := rfl
  have c5 : (⟨#[116, 105, 99, 107]⟩ : ByteArray).size = 4 := rfl
  have c6 : (⟨#[99, 104, 101, 99, 107, 112, 111, 105, 110, 116]⟩ : ByteArray).size = 10 := rfl
  have c7 : (⟨#[99, 114, 97, 115, 104, 32]⟩ : ByteArray).size = 6 := rfl
  simp only at hu ht
  unfold lineS powS
  simp only
  repeat' split
  all_goals simp only [ByteArray.size_append, s1, s2, c1, c2, c3, c4, c5, c6, c7]
  all_goals omega
theorem cells_len (A : List UInt8) (s : ByteArray) : (A ++ s.data.toList).length = (Lib.byteCells A).length + (Lib.strCells s).length := by
  rw [Lib.strCells_length, List.length_append]
  simp [Lib.byteCells]
/-- What Write answers. -/
def writeF (l : List St) : ByteArray × Int :=
  if l.all goodS then (if 65536 < (textOf l).length then (⟨#[]⟩, 2) else (⟨(textOf l).toArray⟩, 0)) else (⟨#[]⟩, 1)
theorem writeF_bad {l : List St} {k : Nat} {x : St} (h : k < l.length) (hx : l[k] = x) (hg : goodS x = false) : writeF l = (⟨#[]⟩, 1) := by
  unfold writeF
  rw [if_neg]
  intro ha
  have := List.all_eq_true.1 ha l[k] (List.getElem_mem h)
  rw [hx, hg] at this
  cases this
theorem all_good {l : List St} (h : AllGood l l.length) : l.all goodS = true := List.all_eq_true.2 fun x hx => by
  obtain ⟨i, hi, rfl⟩ := List.mem_iff_getElem.1 hx
  exact h i hi hi
theorem writeF_long {l : List St} {k : Nat} (h : AllGood l l.length) (hk : 65536 < (textOf (l.take k)).length) : writeF l = (⟨#[]⟩, 2) := by
  unfold writeF
  rw [if_pos (all_good h), if_pos (Nat.lt_of_lt_of_le hk (textOf_take_le l k))]
theorem writeF_ok {l : List St} (h : AllGood l l.length) (hk : (textOf l).length ≤ 65536) : writeF l = (⟨(textOf l).toArray⟩, 0) := by
  unfold writeF
  rw [if_pos (all_good h), if_neg (by omega)]
theorem good_user {x : St} (h : goodS x = true) : x.u.size ≤ 1000000 := by
  unfold goodS goodB at h
  have bare : ∀ {u t : ByteArray} {f : Bool}, bareB u t f = true → u.size ≤ 1000000 := fun {u t f} hb => by
    unfold bareB at hb
    simp only [Bool.and_eq_true, beq_iff_eq] at hb
    have h1 := hb.1.1
    rw [Lib.toList_data] at h1
    have h2 : u.size = 0 := by rw [Lib.size_eq, h1]; rfl
    omega
  rw [Bool.and_eq_true] at h
  have h := h.2
  split at h
  · simp only [Bool.and_eq_true] at h
    have hn := h.1.1
    unfold nameB at hn
    simp only [Bool.and_eq_true, decide_eq_true_eq] at hn
    have := hn.1.1.2
    omega
  · split at h
    · exact bare (Bool.and_eq_true_iff.1 h).1
    · split at h
      · exact bare (Bool.and_eq_true_iff.1 h).1
      · cases h
set_option maxRecDepth 100000 in
set_option maxHeartbeats 2000000 in
theorem write_try (b o cap : Nat) (l : List St) (w : World) (hl2 : l.length ≤ 1000) (hc : StepsAt w b o l) (hb : b < w.heap.size) (hu : ∀ i (h : i < l.length), l[i].u.size ≤ maxLen) (hs : ∀ i (h : i < l.length), l[i].t.size ≤ 1000000) (htab : PowTab w) :
    Calls Tryz.prog 10 #[.slice (some ⟨b, o, none⟩) l.length cap] w fun e w' => e = .returned (.tuple #[.string (writeF l).1, .int .i64 (writeF l).2]) ∧ Below w.heap.size w w' := by
  have HC := Aside.mk hc
  have HU := Aside.mk hu
  have HS := Aside.mk hs
  clear hc hu hs
  go_enter Tryz.func10, Tryz.ntmps10
  go_wp2
  go_loopw [11] (fun i wr => ∃ k : Nat, k ≤ l.length ∧ i = .int .i64 k ∧ Aside (AllGood l k) ∧ Kept w wr) (fun i _ => l.length - (intOf i).toNat)
  case atStart => exact ⟨0, Nat.zero_le _, rfl, ⟨fun j _ hj => absurd hj (by omega)⟩, by unfold Kept; exact Below.refl _ _⟩
  case round =>
    obtain ⟨k, hk, rfl, ho, hB⟩ := hrel
    by_cases hlt : k < l.length
    · obtain ⟨e0, e1, e2, e3, e4, e5⟩ := HC.out k hlt
      have hu := HU.out k hlt
      generalize hx : l[k] = x at e0 e1 e2 e3 e4 e5 hu
      have d0 := hB.cell hb e0
      have d1 := hB.cell hb e1
      have d2 := hB.cell hb e2
      have d3 := hB.cell hb e3
      have d4 := hB.cell hb e4
      have d5 := hB.cell hb e5
      clear e0 e1 e2 e3 e4 e5
      have HX := Aside.mk hx
      clear hx
      cases hg : goodS x with
      | false =>
        have HG := Aside.mk hg
        clear hg
        go_wp2_with (go_at_call 17; refine (good_calls x _ hu).mono ?_; rintro e w' ⟨rfl, hb'⟩; rw [HG.out])
        go_ret2
        exact ⟨by rw [writeF_bad hlt HX.out HG.out]; rfl, hB.below ((below_step _ _).trans (hb'.mono (by simp)))⟩
      | true =>
        have HG := Aside.mk hg
        clear hg
        go_wp2_with (go_at_call 17; refine (good_calls x _ hu).mono ?_; rintro e w' ⟨rfl, hb'⟩; rw [HG.out])
        go_roundw
        case rel => exact ⟨k + 1, by omega, by go_num, ⟨all_succ hlt ho.out HX.out HG.out⟩, hB.trans ((below_step _ _).trans (hb'.mono (by simp)))⟩
        case measure => simp [intOf]; omega
    · have hk2 : k = l.length := by omega
      subst hk2
      have hI := hB.builder
      go_wp2
      go_loopw [21] (fun i wr => ∃ k : Nat, k ≤ l.length ∧ i = .int .i64 k ∧ Aside ((textOf (l.take k)).length ≤ 65536) ∧ Aside (Lib.IsBuilder 49 5 w.heap.size w.heap.size (Lib.byteCells (textOf (l.take k))) wr) ∧ Aside (Below w.heap.size w wr)) (fun i _ => l.length - (intOf i).toNat)
      case atStart => exact ⟨0, Nat.zero_le _, rfl, ⟨by simp [textOf]⟩, ⟨hI⟩, ⟨hB.below (Below.refl _ _)⟩⟩
      case round =>
        obtain ⟨k, hk, rfl, hT, hI, hW⟩ := hrel
        by_cases hlt : k < l.length
        · obtain ⟨e0, e1, e2, e3, e4, e5⟩ := HC.out k hlt
          have hx1 := HS.out k hlt
          have hx2 := ho.out k hlt hlt
          have d0 := hW.out.cell (p := ⟨b, o + k * 6, none⟩) hb
          have d1 := hW.out.cell (p := ⟨b, o + k * 6 + 1, none⟩) hb
          have d2 := hW.out.cell (p := ⟨b, o + k * 6 + 2, none⟩) hb
          have d3 := hW.out.cell (p := ⟨b, o + k * 6 + 3, none⟩) hb
          have d4 := hW.out.cell (p := ⟨b, o + k * 6 + 4, none⟩) hb
          have d5 := hW.out.cell (p := ⟨b, o + k * 6 + 5, none⟩) hb
          rw [e0] at d0
          rw [e1] at d1
          rw [e2] at d2
          rw [e3] at d3
          rw [e4] at d4
          rw [e5] at d5
          have hts := textOf_take_succ hlt
          generalize hx : l[k] = x at d0 d1 d2 d3 d4 d5 hx1 hx2 hts
          have HX := Aside.mk hx
          have HT := Aside.mk hts
          have hr : rangeB x.n x.p = true := by
            unfold goodS goodB at hx2
            simp only [Bool.and_eq_true] at hx2
            exact hx2.1
          have HR := Aside.mk hr
          have hx3 := good_user hx2
          have hx4 := hx1
          have hls := lineS_size x HR.out hx3 hx4
          have hz : ¬ 9223372036854775807 < (lineS x).size + 1 := by omega
          clear e0 e1 e2 e3 e4 e5 hx hts hr hx2
          go_wp2_with (go_at_call 19; refine (line_calls x _ HR.out (tab_below htab (hW.out.trans ((below_step _ _).mono (by have := hW.out.size; omega)))) hx3 hx4).mono ?_; rintro e w1 ⟨rfl, hb1⟩)
          have hI1 := isBuilder_below (isBuilder_below hI.out (below_step wr _)) hb1
          have hz1 : w.heap.size ≤ w1.heap.size := by have := hW.out.size; have := hb1.size; simp at this; omega
          have hlen : (Lib.byteCells (textOf (l.take k))).length + (lineS x ++ (⟨#[10]⟩ : ByteArray)).size ≤ 140737488355328 := by
            rw [Lib.byteCells_length, ByteArray.size_append]
            have := hT.out
            have h1 : (⟨#[10]⟩ : ByteArray).size = 1 := rfl
            omega
          refine (writeString_calls w.heap.size w.heap.size _ _ w1 hI1 hlen hz1).mono ?_
          rintro e w2 ⟨rfl, hI2, hb2⟩
          go_wp2_with (go_at_call 20; refine (Tryz.Builder_Len w.heap.size w.heap.size _ _ (.inr hI2)).mono ?_; rintro e w' ⟨rfl, rfl⟩)
          · have h65 : (65536 : Int) < ((Lib.byteCells (textOf (l.take k))).length : Int) + ((Lib.strCells (lineS x ++ (⟨#[10]⟩ : ByteArray))).length : Int) := by assumption
            go_ret2
            exact ⟨by rw [writeF_long ho.out (k := k + 1) (by rw [HT.out, cells_len]; omega)]; rfl, hW.out.trans ((below_step _ _).mono (by have := hW.out.size; omega) |>.trans ((hb1.mono (by have := hW.out.size; simp; omega)).trans hb2))⟩
          · have h65 : ((Lib.byteCells (textOf (l.take k))).length : Int) + ((Lib.strCells (lineS x ++ (⟨#[10]⟩ : ByteArray))).length : Int) ≤ 65536 := by assumption
            go_roundw
            case rel => exact ⟨k + 1, by omega, by go_num, ⟨by rw [HT.out, cells_len]; omega⟩, ⟨by rw [HT.out, Lib.byteCells_append, ← Lib.strCells_eq]; exact .inr hI2⟩, ⟨hW.out.trans ((below_step _ _).mono (by have := hW.out.size; omega) |>.trans ((hb1.mono (by have := hW.out.size; simp; omega)).trans hb2))⟩⟩
            case measure => simp [intOf]; omega
        · have hk2 : k = l.length := by omega
          subst hk2
          rw [List.take_length] at hT hI
          go_wp2_with (go_at_call 21; refine (Tryz.Builder_String_any w.heap.size w.heap.size _ _ hI.out (by have := hW.out.size; omega)).mono ?_; rintro e w' ⟨rfl, hb3⟩)
          go_ret2
          exact ⟨by rw [writeF_ok ho.out hT.out]; rfl, hW.out.trans hb3⟩
end Go.Proofs.YtilpifbaolmdlaaGreatDoor
