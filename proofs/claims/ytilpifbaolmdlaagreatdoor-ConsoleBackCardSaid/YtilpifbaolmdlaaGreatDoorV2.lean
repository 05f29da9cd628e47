/-
  The reference's side of lines, steps and the writer. No condition but those written in each statement.
-/
import Derived.Test.YtilpifbaolmdlaaGreatDoorV1
import Derived.Lib.SmallJoins
import Derived.Lib.IndexLaws
import Derived.Laws.AppendOwnNone
set_option linter.unusedVariables false
set_option linter.unusedSimpArgs false
set_option linter.unusedSectionVars false
namespace Go.Proofs.YtilpifbaolmdlaaGreatDoor
open Go Go.RowKit
theorem toList_size (s : ByteArray) : s.toList.length = s.size := by
  rw [Lib.toList_data, Lib.size_eq]
theorem nameB_empty {s : ByteArray} (h : s.size = 0) : nameB s = false := by
  have : s.toList = [] := List.eq_nil_of_length_eq_zero (by rw [toList_size]; exact h)
  unfold nameB
  rw [this]
  simp
theorem name_full {s : ByteArray} (h0 : ¬ s.size = 0) (h1 : ¬ s.toList = [110, 111, 116]) (h2 : ¬ s.toList = [115, 97, 121, 115]) (h3 : (s.size : Int) ≤ 16) (ho : ∀ j (h : j < s.size), okAt j s[j] = true) : nameB s = true := by
  rw [name_yes h1 h2 h3 ho]
  have : ¬ s.toList = [] := fun h => h0 (by rw [← toList_size, h]; rfl)
  simp [this]
set_option maxHeartbeats 4000000 in
theorem refName_calls (s : ByteArray) (w : World) (hs : s.size ≤ maxLen) : Calls Tryz.prog 37 #[.string s] w fun e w' => e = .returned (.bool (nameB s)) ∧ w' = w := by
  unfold maxLen at hs
  by_cases h0 : s.size = 0
  · have HR := Aside.mk (nameB_empty h0)
    go_enter Tryz.func37, Tryz.ntmps37
    go_wp2
    go_ret
    exact ⟨by rw [HR.out]; rfl, rfl⟩
  · have b0 : ((s.size : Int) == 0) = false := beq_eq_false_iff_ne.mpr (by omega)
    by_cases h3 : (s.size : Int) ≤ 16
    · have b4 : decide (16 < (s.size : Int)) = false := decide_eq_false (by omega)
      by_cases h1 : s.toList = [110, 111, 116]
      · have hr : nameB s = false := by unfold nameB; rw [h1]; rfl
        have HR := Aside.mk hr
        clear hr
        go_enter Tryz.func37, Tryz.ntmps37
        go_wp2
        go_ret
        exact ⟨by rw [HR.out]; rfl, rfl⟩
      · by_cases h2 : s.toList = [115, 97, 121, 115]
        · have hr : nameB s = false := by unfold nameB; rw [h2]; simp
          have HR := Aside.mk hr
          clear hr
          go_enter Tryz.func37, Tryz.ntmps37
          go_wp2
          go_ret
          exact ⟨by rw [HR.out]; rfl, rfl⟩
        · have b1 : (s.toList == [110, 111, 116]) = false := beq_eq_false_iff_ne.mpr h1
          have b2 : (s.toList == [115, 97, 121, 115]) = false := beq_eq_false_iff_ne.mpr h2
          go_enter Tryz.func37, Tryz.ntmps37
          go_wp2
          clear b1 b2 b4 b0
          go_loop [3] (fun i => ∃ k : Nat, k ≤ s.size ∧ i = .int .i64 k ∧ OkTo s k) (fun i => s.size - (intOf i).toNat)
          case atStart => exact ⟨0, Nat.zero_le _, rfl, fun j _ hj => absurd hj (by omega)⟩
          case round =>
            obtain ⟨k, hk, rfl, ho⟩ := hrel
            by_cases hlt : k < s.size
            · have hno : okAt k s[k] = false → Aside (nameB s = false) := fun h => ⟨name_no hlt h⟩
              have hyes : okAt k s[k] = true → Aside (OkTo s (k + 1)) := fun h => ⟨okTo_succ hlt ho h⟩
              have HO := Aside.mk ho
              clear ho
              by_cases c1 : 97 ≤ (s[k].toNat : Int)
              · have e4 : ¬ (s[k].toNat : Int) < 48 := by omega
                by_cases c2 : (s[k].toNat : Int) ≤ 122
                · have HY := hyes (by simp [okAt]; omega)
                  clear hno hyes
                  go_wp2
                  all_goals
                    go_round
                    case rel => exact ⟨k + 1, by omega, by go_num, HY.out⟩
                    case measure => simp [intOf]; omega
                · have HN := hno (by simp [okAt]; omega)
                  clear hno hyes
                  have d3 : ((s[k].toNat : Int) == 95) = false := beq_eq_false_iff_ne.mpr (by omega)
                  have d5 : ¬ (s[k].toNat : Int) ≤ 57 := by omega
                  go_wp2
                  all_goals (go_ret; exact ⟨by rw [HN.out]; rfl, rfl⟩)
              · have e1 : ¬ 97 ≤ (s[k].toNat : Int) := c1
                by_cases c3 : k = 0
                · have HN := hno (by simp [okAt]; omega)
                  clear hno hyes
                  subst c3
                  go_wp2
                  all_goals first
                    | (go_ret; exact ⟨by rw [HN.out]; rfl, rfl⟩)
                    | (exfalso; simp at *; omega)
                · have c7 : 0 < k := by omega
                  by_cases c4 : (s[k].toNat : Int) < 48
                  · have HN := hno (by simp [okAt]; omega)
                    have d3 : ((s[k].toNat : Int) == 95) = false := beq_eq_false_iff_ne.mpr (by omega)
                    clear hno hyes
                    go_wp2
                    all_goals (go_ret; exact ⟨by rw [HN.out]; rfl, rfl⟩)
                  · by_cases c5 : (s[k].toNat : Int) ≤ 57
                    · have HY := hyes (by simp [okAt]; omega)
                      clear hno hyes
                      go_wp2
                      all_goals
                        go_round
                        case rel => exact ⟨k + 1, by omega, by go_num, HY.out⟩
                        case measure => simp [intOf]; omega
                    · by_cases c6 : (s[k].toNat : Int) = 95
                      · have HY := hyes (by simp [okAt]; omega)
                        have d3 : ((s[k].toNat : Int) == 95) = true := beq_iff_eq.mpr c6
                        clear hno hyes c6
                        go_wp2
                        all_goals
                          go_round
                          case rel => exact ⟨k + 1, by omega, by go_num, HY.out⟩
                          case measure => simp [intOf]; omega
                      · have HN := hno (by simp [okAt]; omega)
                        have d3 : ((s[k].toNat : Int) == 95) = false := beq_eq_false_iff_ne.mpr c6
                        clear hno hyes
                        go_wp2
                        all_goals (go_ret; exact ⟨by rw [HN.out]; rfl, rfl⟩)
            · have HY : Aside (nameB s = true) := ⟨name_full h0 h1 h2 h3 (fun j hj => ho j hj (by omega))⟩
              clear ho
              go_wp2
              go_ret
              exact ⟨by rw [HY.out]; rfl, rfl⟩
    · have hr : nameB s = false := by unfold nameB; rw [decide_eq_false h3]; simp
      have HR := Aside.mk hr
      clear hr
      go_enter Tryz.func37, Tryz.ntmps37
      go_wp2
      go_ret
      exact ⟨by rw [HR.out]; rfl, rfl⟩
def b2n : Value → Nat | .bool true => 1 | _ => 0
theorem digit_conv {P : Program} (w : World) (T S e : TypeId) (n : Nat) (hT : P.underlying T = some (.slice e)) (he : P.underlying e = some (.int .u8)) (hS : P.underlying S = some .string) (hn : n < 256) :
    (convert T S (.slice (some ⟨w.heap.size, 0, none⟩) 1 1)).run P (w.alloc (.cells #[.int .u8 (n : Int)] e)) = .ok (.string ⟨#[UInt8.ofNat n]⟩) (w.alloc (.cells #[.int .u8 (n : Int)] e)) := by
  have := run_convert_bytes_back (P := P) (w.alloc (.cells #[.int .u8 (n : Int)] e)) T S e ⟨w.heap.size, 0, none⟩ 1 [UInt8.ofNat n] hT he hS (fun j hj => by
    have hj : j < 1 := hj
    obtain rfl : j = 0 := by omega
    show (w.alloc _).cell? ⟨w.heap.size, 0, none⟩ = _
    rw [World.cell?_alloc_mark]
    simp [UInt8.toNat_ofNat', Nat.mod_eq_of_lt hn])
  exact this
theorem grow_alloc {w : World} {k : Nat} {os : Array Obj} (o : Obj) : (Go.Sort.grow (w.drewN k) os).alloc o = Go.Sort.grow (w.drewN k) (os.push o) := by
  rw [Go.Sort.alloc_eq_grow, Go.Sort.grow_grow]
  congr 1
set_option maxRecDepth 100000 in
set_option maxHeartbeats 4000000 in
theorem number_calls (N : Nat) (hN : N ≤ 1099511627776) (w : World) :
    Calls Tryz.prog 59 #[.int .i64 (N : Int)] w fun e w' => e = .returned (.string (bs (Lib.itoa (N : Int)))) ∧ ∃ k os, w' = Go.Sort.grow (w.drewN k) os := by
  rw [Lib.itoa_nonneg]
  have d1 : ((N : Int) == -9223372036854775808) = false := beq_eq_false_iff_ne.mpr (by omega)
  have kc : ∀ (n : Nat) (w : World), (convert 47 9 (.slice (some ⟨w.heap.size, 0, none⟩) 1 1)).run Tryz.prog (w.alloc (.cells #[.int .u8 (48 + (n : Int) % 10)] 5)) = .ok (.string ⟨#[UInt8.ofNat (48 + n % 10)]⟩) (w.alloc (.cells #[.int .u8 (48 + (n : Int) % 10)] 5)) := fun n w => by
    have := digit_conv (P := Tryz.prog) w 47 9 5 (48 + n % 10) Tryz.underlying47 Tryz.underlying5 Tryz.underlying9 (by omega)
    rw [show ((48 + n % 10 : Nat) : Int) = 48 + (n : Int) % 10 by omega] at this
    exact this
  go_enter Tryz.func59, Tryz.ntmps59
  go_wp2
  go_loopw [0, 3, 4] (fun vn vo vb wr => ∃ (n : Nat) (out : List UInt8) (b : Bool), vn = .int .i64 n ∧ vo = .string (bs out) ∧ vb = .bool b ∧ n ≤ N ∧ Aside (b = true → Lib.decDigits N = Lib.decDigits n ++ out) ∧ Aside (b = false → n = 0 ∧ Lib.decDigits N = out) ∧ Aside (∃ k os, wr = Go.Sort.grow (w.drewN k) os)) (fun vn _ vb _ => (intOf vn).toNat + b2n vb)
  case atStart => exact ⟨N, [], true, rfl, rfl, rfl, Nat.le_refl _, ⟨fun _ => by simp⟩, ⟨fun h => by cases h⟩, ⟨0, #[], by simp; rfl⟩⟩
  case round =>
    obtain ⟨n, out, b, rfl, rfl, rfl, hn, h1, h2, h3⟩ := hrel
    cases b with
    | true =>
      have hd : n % 10 < 10 := Nat.mod_lt _ (by decide)
      have hlen : out.length ≤ 20 := by
        have h := congrArg List.length (h1.out rfl)
        rw [List.length_append, Lib.decDigits_length] at h
        have := Lib.nDigits_le20 N (by omega)
        omega
      have hdig : Aside (Lib.decDigits N = Lib.decDigits n ++ out) := ⟨h1.out rfl⟩
      clear h1 h2
      have s1 : (bs out).size = out.length := rfl
      have hz : ¬ 9223372036854775807 < 1 + out.length := by omega
      go_wp2
      clear hd d1
      have hds : n < 10 → Lib.decDigits n = [UInt8.ofNat (48 + n % 10)] := fun h => by rw [Lib.decDigits_one h, Nat.mod_eq_of_lt h]
      have hdb : ¬ n < 10 → Lib.decDigits n = Lib.decDigits (n / 10) ++ [UInt8.ofNat (48 + n % 10)] := fun h => by rw [Lib.decDigits, dif_neg h]
      refine ⟨⟨n / 10, UInt8.ofNat (48 + n % 10) :: out, decide (0 < n / 10), by rw [show ((n / 10 : Nat) : Int) = (n : Int) / 10 by omega], ?_, ?_, by omega, ⟨fun h => ?_⟩, ⟨fun h => ?_⟩, ⟨?_⟩⟩, ?_⟩
      · have : (48 : UInt8) + UInt8.ofNat (n % 10) = UInt8.ofNat (48 + n % 10) := by rw [UInt8.ofNat_add]; rfl
        rw [this]
        congr 1
      · congr 1
        simp only [decide_eq_decide]
        omega
      · rw [hdig.out, hdb (by have := of_decide_eq_true h; omega), List.append_assoc]
        rfl
      · have h0 : n / 10 = 0 := by have := of_decide_eq_false h; omega
        refine ⟨h0, ?_⟩
        rw [hdig.out, hds (by omega)]
        rfl
      · obtain ⟨k, os, rfl⟩ := h3.out
        exact ⟨k, os.push _, grow_alloc _⟩
      · by_cases h0 : 0 < n / 10
        · have : (0 : Int) < (n : Int) / 10 := by omega
          simp only [intOf, b2n, decide_eq_true this]
          omega
        · have : ¬ (0 : Int) < (n : Int) / 10 := by omega
          simp only [intOf, b2n, decide_eq_false this]
          omega
    | false =>
      have h4 : Aside (Lib.decDigits N = out) := ⟨(h2.out rfl).2⟩
      clear h1 h2
      go_wp2
      go_ret
      exact ⟨by rw [h4.out]; rfl, h3.out⟩
theorem num_calls (n : Int) (h0 : 0 ≤ n) (hn : n ≤ 1099511627776) (w : World) :
    Calls Tryz.prog 38 #[.int .i64 n] w fun e w' => e = .returned (.string (bs (Lib.itoa n))) ∧ ∃ k os, w' = Go.Sort.grow (w.drewN k) os := by
  obtain ⟨N, rfl⟩ : ∃ N : Nat, n = N := ⟨n.toNat, by omega⟩
  go_enter Tryz.func38, Tryz.ntmps38
  go_wp2_with (go_at_call 59; refine (number_calls N (by omega) _).mono ?_; rintro e w' ⟨rfl, k, os, rfl⟩)
  go_ret
  exact ⟨rfl, k, os, rfl⟩
set_option maxRecDepth 100000 in
set_option maxHeartbeats 2000000 in
theorem rline_ask_no (u t : ByteArray) (n p : Int) (w : World) (r1 : 0 < n) (r2 : n ≤ 1099511627776) (r3 : 0 ≤ p) (r4 : p ≤ 1099511627776) (hu : u.size ≤ 1000000) (ht : t.size ≤ 1000000) :
    Calls Tryz.prog 23 #[.agg #[.int .u8 1, .string u, .string t, .bool false, .int .i64 n, .int .i64 p]] w fun e w' => e = .returned (.string (powS n p ++ u ++ (⟨#[58, 32]⟩ : ByteArray) ++ t)) ∧ Below w.heap.size w w' := by
  have la : (Lib.itoa n).length ≤ 40 := Nat.le_trans (Lib.itoa_length_le n (by omega) (by omega)) (by omega)
  have lb : (Lib.itoa p).length ≤ 40 := Nat.le_trans (Lib.itoa_length_le p (by omega) (by omega)) (by omega)
  have g1 : ¬ 9223372036854775807 < 6 + (Lib.itoa n).length := by omega
  have g2 : ¬ 9223372036854775807 < 6 + (Lib.itoa n).length + 1 := by omega
  have g3 : ¬ 9223372036854775807 < 6 + (Lib.itoa n).length + 1 + (Lib.itoa p).length := by omega
  have g4 : ¬ 9223372036854775807 < 6 + (Lib.itoa n).length + 1 + (Lib.itoa p).length + 1 := by omega
  have s1 : (⟨(Lib.itoa n).toArray⟩ : ByteArray).size = (Lib.itoa n).length := rfl
  have s2 : (⟨(Lib.itoa p).toArray⟩ : ByteArray).size = (Lib.itoa p).length := rfl
  go_enter Tryz.func23, Tryz.ntmps23
  go_wp2_with fail
  go_region_held3 (fun w' => KeepL w w' ∧ w'.cell? ⟨w.heap.size, 0, none⟩ = some (.int .u8 1) ∧ w'.cell? ⟨w.heap.size, 1, none⟩ = some (.string u) ∧ w'.cell? ⟨w.heap.size, 2, none⟩ = some (.string t) ∧ w'.cell? ⟨w.heap.size, 3, none⟩ = some (.bool false) ∧ w'.cell? ⟨w.heap.size, 4, none⟩ = some (.int .i64 n) ∧ w'.cell? ⟨w.heap.size, 5, none⟩ = some (.int .i64 p))
    (first
      | exact start_ok _ _ _ _ _ _ _
      | exact (start_alloc _ _ _ _ _ _ _).grow _ _
      | exact ((start_alloc _ _ _ _ _ _ _).grow _ _).grow _ _
      | go_keep)
    (first
      | (go_at_call 38; refine (num_calls _ (by omega) (by omega) _).mono ?_; rintro e w'' ⟨rfl, kk, os, rfl⟩)
      | (go_at_call 38; refine (num_calls _ (by omega) (by omega) _).mono ?_; rintro e w'' ⟨rfl, kk, os, rfl⟩))
  go_wp2
  all_goals (go_ret; exact ⟨rfl, KeepL.below (And.left (((start_alloc _ _ _ _ _ _ _).grow _ _).grow _ _))⟩)
set_option maxRecDepth 100000 in
set_option maxHeartbeats 2000000 in
theorem rline_ask_fail (u t : ByteArray) (n p : Int) (w : World) (r1 : 0 < n) (r2 : n ≤ 1099511627776) (r3 : 0 ≤ p) (r4 : p ≤ 1099511627776) (hu : u.size ≤ 1000000) (ht : t.size ≤ 1000000) :
    Calls Tryz.prog 23 #[.agg #[.int .u8 1, .string u, .string t, .bool true, .int .i64 n, .int .i64 p]] w fun e w' => e = .returned (.string (powS n p ++ u ++ (⟨#[33, 32]⟩ : ByteArray) ++ t)) ∧ Below w.heap.size w w' := by
  have la : (Lib.itoa n).length ≤ 40 := Nat.le_trans (Lib.itoa_length_le n (by omega) (by omega)) (by omega)
  have lb : (Lib.itoa p).length ≤ 40 := Nat.le_trans (Lib.itoa_length_le p (by omega) (by omega)) (by omega)
  have g1 : ¬ 9223372036854775807 < 6 + (Lib.itoa n).length := by omega
  have g2 : ¬ 9223372036854775807 < 6 + (Lib.itoa n).length + 1 := by omega
  have g3 : ¬ 9223372036854775807 < 6 + (Lib.itoa n).length + 1 + (Lib.itoa p).length := by omega
  have g4 : ¬ 9223372036854775807 < 6 + (Lib.itoa n).length + 1 + (Lib.itoa p).length + 1 := by omega
  have s1 : (⟨(Lib.itoa n).toArray⟩ : ByteArray).size = (Lib.itoa n).length := rfl
  have s2 : (⟨(Lib.itoa p).toArray⟩ : ByteArray).size = (Lib.itoa p).length := rfl
  go_enter Tryz.func23, Tryz.ntmps23
  go_wp2_with fail
  go_region_held3 (fun w' => KeepL w w' ∧ w'.cell? ⟨w.heap.size, 0, none⟩ = some (.int .u8 1) ∧ w'.cell? ⟨w.heap.size, 1, none⟩ = some (.string u) ∧ w'.cell? ⟨w.heap.size, 2, none⟩ = some (.string t) ∧ w'.cell? ⟨w.heap.size, 3, none⟩ = some (.bool true) ∧ w'.cell? ⟨w.heap.size, 4, none⟩ = some (.int .i64 n) ∧ w'.cell? ⟨w.heap.size, 5, none⟩ = some (.int .i64 p))
    (first
      | exact start_ok _ _ _ _ _ _ _
      | exact (start_alloc _ _ _ _ _ _ _).grow _ _
      | exact ((start_alloc _ _ _ _ _ _ _).grow _ _).grow _ _
      | go_keep)
    (first
      | (go_at_call 38; refine (num_calls _ (by omega) (by omega) _).mono ?_; rintro e w'' ⟨rfl, kk, os, rfl⟩)
      | (go_at_call 38; refine (num_calls _ (by omega) (by omega) _).mono ?_; rintro e w'' ⟨rfl, kk, os, rfl⟩))
  go_wp2
  all_goals (go_ret; exact ⟨rfl, KeepL.below (And.left (((start_alloc _ _ _ _ _ _ _).grow _ _).grow _ _))⟩)
set_option maxRecDepth 100000 in
set_option maxHeartbeats 2000000 in
theorem rline_tick (u t : ByteArray) (f : Bool) (n p : Int) (w : World) (r1 : 0 < n) (r2 : n ≤ 1099511627776) (r3 : 0 ≤ p) (r4 : p ≤ 1099511627776) (hu : u.size ≤ 1000000) (ht : t.size ≤ 1000000) :
    Calls Tryz.prog 23 #[.agg #[.int .u8 2, .string u, .string t, .bool f, .int .i64 n, .int .i64 p]] w fun e w' => e = .returned (.string (powS n p ++ (⟨#[116, 105, 99, 107]⟩ : ByteArray))) ∧ Below w.heap.size w w' := by
  have la : (Lib.itoa n).length ≤ 40 := Nat.le_trans (Lib.itoa_length_le n (by omega) (by omega)) (by omega)
  have lb : (Lib.itoa p).length ≤ 40 := Nat.le_trans (Lib.itoa_length_le p (by omega) (by omega)) (by omega)
  have g1 : ¬ 9223372036854775807 < 6 + (Lib.itoa n).length := by omega
  have g2 : ¬ 9223372036854775807 < 6 + (Lib.itoa n).length + 1 := by omega
  have g3 : ¬ 9223372036854775807 < 6 + (Lib.itoa n).length + 1 + (Lib.itoa p).length := by omega
  have g4 : ¬ 9223372036854775807 < 6 + (Lib.itoa n).length + 1 + (Lib.itoa p).length + 1 := by omega
  have s1 : (⟨(Lib.itoa n).toArray⟩ : ByteArray).size = (Lib.itoa n).length := rfl
  have s2 : (⟨(Lib.itoa p).toArray⟩ : ByteArray).size = (Lib.itoa p).length := rfl
  go_enter Tryz.func23, Tryz.ntmps23
  go_wp2_with fail
  go_region_held3 (fun w' => KeepL w w' ∧ w'.cell? ⟨w.heap.size, 0, none⟩ = some (.int .u8 2) ∧ w'.cell? ⟨w.heap.size, 1, none⟩ = some (.string u) ∧ w'.cell? ⟨w.heap.size, 2, none⟩ = some (.string t) ∧ w'.cell? ⟨w.heap.size, 3, none⟩ = some (.bool f) ∧ w'.cell? ⟨w.heap.size, 4, none⟩ = some (.int .i64 n) ∧ w'.cell? ⟨w.heap.size, 5, none⟩ = some (.int .i64 p))
    (first
      | exact start_ok _ _ _ _ _ _ _
      | exact (start_alloc _ _ _ _ _ _ _).grow _ _
      | exact ((start_alloc _ _ _ _ _ _ _).grow _ _).grow _ _
      | go_keep)
    (first
      | (go_at_call 38; refine (num_calls _ (by omega) (by omega) _).mono ?_; rintro e w'' ⟨rfl, kk, os, rfl⟩)
      | (go_at_call 38; refine (num_calls _ (by omega) (by omega) _).mono ?_; rintro e w'' ⟨rfl, kk, os, rfl⟩))
  go_wp2
  all_goals (go_ret; exact ⟨rfl, KeepL.below (And.left (((start_alloc _ _ _ _ _ _ _).grow _ _).grow _ _))⟩)
set_option maxRecDepth 100000 in
set_option maxHeartbeats 2000000 in
theorem rline_check (u t : ByteArray) (f : Bool) (n p : Int) (w : World) (r1 : 0 < n) (r2 : n ≤ 1099511627776) (r3 : 0 ≤ p) (r4 : p ≤ 1099511627776) (hu : u.size ≤ 1000000) (ht : t.size ≤ 1000000) :
    Calls Tryz.prog 23 #[.agg #[.int .u8 3, .string u, .string t, .bool f, .int .i64 n, .int .i64 p]] w fun e w' => e = .returned (.string (powS n p ++ (⟨#[99, 104, 101, 99, 107, 112, 111, 105, 110, 116]⟩ : ByteArray))) ∧ Below w.heap.size w w' := by
  have la : (Lib.itoa n).length ≤ 40 := Nat.le_trans (Lib.itoa_length_le n (by omega) (by omega)) (by omega)
  have lb : (Lib.itoa p).length ≤ 40 := Nat.le_trans (Lib.itoa_length_le p (by omega) (by omega)) (by omega)
  have g1 : ¬ 9223372036854775807 < 6 + (Lib.itoa n).length := by omega
  have g2 : ¬ 9223372036854775807 < 6 + (Lib.itoa n).length + 1 := by omega
  have g3 : ¬ 9223372036854775807 < 6 + (Lib.itoa n).length + 1 + (Lib.itoa p).length := by omega
  have g4 : ¬ 9223372036854775807 < 6 + (Lib.itoa n).length + 1 + (Lib.itoa p).length + 1 := by omega
  have s1 : (⟨(Lib.itoa n).toArray⟩ : ByteArray).size = (Lib.itoa n).length := rfl
  have s2 : (⟨(Lib.itoa p).toArray⟩ : ByteArray).size = (Lib.itoa p).length := rfl
  go_enter Tryz.func23, Tryz.ntmps23
  go_wp2_with fail
  go_region_held3 (fun w' => KeepL w w' ∧ w'.cell? ⟨w.heap.size, 0, none⟩ = some (.int .u8 3) ∧ w'.cell? ⟨w.heap.size, 1, none⟩ = some (.string u) ∧ w'.cell? ⟨w.heap.size, 2, none⟩ = some (.string t) ∧ w'.cell? ⟨w.heap.size, 3, none⟩ = some (.bool f) ∧ w'.cell? ⟨w.heap.size, 4, none⟩ = some (.int .i64 n) ∧ w'.cell? ⟨w.heap.size, 5, none⟩ = some (.int .i64 p))
    (first
      | exact start_ok _ _ _ _ _ _ _
      | exact (start_alloc _ _ _ _ _ _ _).grow _ _
      | exact ((start_alloc _ _ _ _ _ _ _).grow _ _).grow _ _
      | go_keep)
    (first
      | (go_at_call 38; refine (num_calls _ (by omega) (by omega) _).mono ?_; rintro e w'' ⟨rfl, kk, os, rfl⟩)
      | (go_at_call 38; refine (num_calls _ (by omega) (by omega) _).mono ?_; rintro e w'' ⟨rfl, kk, os, rfl⟩))
  go_wp2
  all_goals (go_ret; exact ⟨rfl, KeepL.below (And.left (((start_alloc _ _ _ _ _ _ _).grow _ _).grow _ _))⟩)
set_option maxRecDepth 100000 in
set_option maxHeartbeats 2000000 in
theorem rline0_ask_no (u t : ByteArray) (n p : Int) (w : World) (r1 : n ≤ 0) (r3 : 0 ≤ p) (r4 : p ≤ 1099511627776) (hu : u.size ≤ 1000000) (ht : t.size ≤ 1000000) :
    Calls Tryz.prog 23 #[.agg #[.int .u8 1, .string u, .string t, .bool false, .int .i64 n, .int .i64 p]] w fun e w' => e = .returned (.string (u ++ (⟨#[58, 32]⟩ : ByteArray) ++ t)) ∧ Below w.heap.size w w' := by
  go_enter Tryz.func23, Tryz.ntmps23
  go_wp2
  all_goals (go_ret; exact ⟨rfl, (Below.refl _ _).alloc (Nat.le_refl _) _⟩)
set_option maxRecDepth 100000 in
set_option maxHeartbeats 2000000 in
theorem rline0_tick (u t : ByteArray) (f : Bool) (n p : Int) (w : World) (r1 : n ≤ 0) (r3 : 0 ≤ p) (r4 : p ≤ 1099511627776) (hu : u.size ≤ 1000000) (ht : t.size ≤ 1000000) :
    Calls Tryz.prog 23 #[.agg #[.int .u8 2, .string u, .string t, .bool f, .int .i64 n, .int .i64 p]] w fun e w' => e = .returned (.string ((⟨#[116, 105, 99, 107]⟩ : ByteArray))) ∧ Below w.heap.size w w' := by
  go_enter Tryz.func23, Tryz.ntmps23
  go_wp2
  all_goals (go_ret; exact ⟨rfl, (Below.refl _ _).alloc (Nat.le_refl _) _⟩)
set_option maxRecDepth 100000 in
set_option maxHeartbeats 2000000 in
theorem rline_crash (k : Int) (u t : ByteArray) (f : Bool) (n p : Int) (w : World) (r1 : 0 < n) (r2 : n ≤ 1099511627776) (r3 : 0 ≤ p) (r4 : p ≤ 1099511627776) (hu : u.size ≤ 1000000) (ht : t.size ≤ 1000000) (k1 : (k == 1) = false) (k2 : (k == 2) = false) (k3 : (k == 3) = false) :
    Calls Tryz.prog 23 #[.agg #[.int .u8 k, .string u, .string t, .bool f, .int .i64 n, .int .i64 p]] w fun e w' => e = .returned (.string (powS n p ++ (⟨#[99, 114, 97, 115, 104, 32]⟩ : ByteArray) ++ bs (Lib.itoa p))) ∧ Below w.heap.size w w' := by
  have la : (Lib.itoa n).length ≤ 40 := Nat.le_trans (Lib.itoa_length_le n (by omega) (by omega)) (by omega)
  have lb : (Lib.itoa p).length ≤ 40 := Nat.le_trans (Lib.itoa_length_le p (by omega) (by omega)) (by omega)
  have g1 : ¬ 9223372036854775807 < 6 + (Lib.itoa n).length := by omega
  have g2 : ¬ 9223372036854775807 < 6 + (Lib.itoa n).length + 1 := by omega
  have g3 : ¬ 9223372036854775807 < 6 + (Lib.itoa n).length + 1 + (Lib.itoa p).length := by omega
  have g4 : ¬ 9223372036854775807 < 6 + (Lib.itoa n).length + 1 + (Lib.itoa p).length + 1 := by omega
  have s1 : (⟨(Lib.itoa n).toArray⟩ : ByteArray).size = (Lib.itoa n).length := rfl
  have s2 : (⟨(Lib.itoa p).toArray⟩ : ByteArray).size = (Lib.itoa p).length := rfl
  go_enter Tryz.func23, Tryz.ntmps23
  go_wp2_with fail
  go_region_held3 (fun w' => KeepL w w' ∧ w'.cell? ⟨w.heap.size, 0, none⟩ = some (.int .u8 k) ∧ w'.cell? ⟨w.heap.size, 1, none⟩ = some (.string u) ∧ w'.cell? ⟨w.heap.size, 2, none⟩ = some (.string t) ∧ w'.cell? ⟨w.heap.size, 3, none⟩ = some (.bool f) ∧ w'.cell? ⟨w.heap.size, 4, none⟩ = some (.int .i64 n) ∧ w'.cell? ⟨w.heap.size, 5, none⟩ = some (.int .i64 p))
    (first
      | exact start_ok _ _ _ _ _ _ _
      | exact (start_alloc _ _ _ _ _ _ _).grow _ _
      | exact ((start_alloc _ _ _ _ _ _ _).grow _ _).grow _ _
      | go_keep)
    (first
      | (go_at_call 38; refine (num_calls _ (by omega) (by omega) _).mono ?_; rintro e w'' ⟨rfl, kk, os, rfl⟩)
      | (go_at_call 38; refine (num_calls _ (by omega) (by omega) _).mono ?_; rintro e w'' ⟨rfl, kk, os, rfl⟩))
  go_wp2_with (go_at_call 38; refine (num_calls _ (by omega) (by omega) _).mono ?_; rintro e w'' ⟨rfl, kk3, os3, rfl⟩)
  all_goals (go_ret; exact ⟨rfl, KeepL.below (And.left ((((start_alloc _ _ _ _ _ _ _).grow _ _).grow _ _).grow _ _))⟩)
set_option maxRecDepth 100000 in
set_option maxHeartbeats 2000000 in
theorem rline0_ask_fail (u t : ByteArray) (n p : Int) (w : World) (r1 : n ≤ 0) (r3 : 0 ≤ p) (r4 : p ≤ 1099511627776) (hu : u.size ≤ 1000000) (ht : t.size ≤ 1000000) :
    Calls Tryz.prog 23 #[.agg #[.int .u8 1, .string u, .string t, .bool true, .int .i64 n, .int .i64 p]] w fun e w' => e = .returned (.string (u ++ (⟨#[33, 32]⟩ : ByteArray) ++ t)) ∧ Below w.heap.size w w' := by
  go_enter Tryz.func23, Tryz.ntmps23
  go_wp2
  all_goals (go_ret; exact ⟨rfl, (Below.refl _ _).alloc (Nat.le_refl _) _⟩)
set_option maxRecDepth 100000 in
set_option maxHeartbeats 2000000 in
theorem rline0_check (u t : ByteArray) (f : Bool) (n p : Int) (w : World) (r1 : n ≤ 0) (r3 : 0 ≤ p) (r4 : p ≤ 1099511627776) (hu : u.size ≤ 1000000) (ht : t.size ≤ 1000000) :
    Calls Tryz.prog 23 #[.agg #[.int .u8 3, .string u, .string t, .bool f, .int .i64 n, .int .i64 p]] w fun e w' => e = .returned (.string ((⟨#[99, 104, 101, 99, 107, 112, 111, 105, 110, 116]⟩ : ByteArray))) ∧ Below w.heap.size w w' := by
  go_enter Tryz.func23, Tryz.ntmps23
  go_wp2
  all_goals (go_ret; exact ⟨rfl, (Below.refl _ _).alloc (Nat.le_refl _) _⟩)
set_option maxRecDepth 100000 in
set_option maxHeartbeats 2000000 in
theorem rline0_crash (k : Int) (u t : ByteArray) (f : Bool) (n p : Int) (w : World) (r1 : n ≤ 0) (r3 : 0 ≤ p) (r4 : p ≤ 1099511627776) (hu : u.size ≤ 1000000) (ht : t.size ≤ 1000000) (k1 : (k == 1) = false) (k2 : (k == 2) = false) (k3 : (k == 3) = false) :
    Calls Tryz.prog 23 #[.agg #[.int .u8 k, .string u, .string t, .bool f, .int .i64 n, .int .i64 p]] w fun e w' => e = .returned (.string ((⟨#[99, 114, 97, 115, 104, 32]⟩ : ByteArray) ++ bs (Lib.itoa p))) ∧ Below w.heap.size w w' := by
  have lb : (Lib.itoa p).length ≤ 40 := Nat.le_trans (Lib.itoa_length_le p (by omega) (by omega)) (by omega)
  have g1 : ¬ 9223372036854775807 < 6 + (Lib.itoa p).length := by omega
  have s2 : (⟨(Lib.itoa p).toArray⟩ : ByteArray).size = (Lib.itoa p).length := rfl
  go_enter Tryz.func23, Tryz.ntmps23
  go_wp2_with (go_at_call 38; refine (num_calls _ (by omega) (by omega) _).mono ?_; rintro e w'' ⟨rfl, kk3, os3, rfl⟩)
  all_goals (go_ret; exact ⟨rfl, KeepL.below (And.left ((start_alloc _ _ _ _ _ _ _).grow _ _))⟩)
theorem rline_calls (x : St) (w : World) (h : rangeB x.n x.p = true) (hu : x.u.size ≤ 1000000) (ht : x.t.size ≤ 1000000) :
    Calls Tryz.prog 23 #[.agg #[.int .u8 x.k, .string x.u, .string x.t, .bool x.f, .int .i64 x.n, .int .i64 x.p]] w fun e w' => e = .returned (.string (lineS x)) ∧ Below w.heap.size w w' := by
  obtain ⟨k, u, t, f, n, p⟩ := x
  obtain ⟨r1, r2, r3, r4⟩ := range_of h
  simp only [lineS]
  by_cases hn : 0 < n
  · rw [if_pos hn]
    by_cases h1 : k = 1
    · subst h1
      rw [if_pos rfl]
      cases f with
      | true => rw [if_pos rfl]; exact rline_ask_fail u t n p w hn r2 r3 r4 hu ht
      | false => rw [if_neg (by simp)]; exact rline_ask_no u t n p w hn r2 r3 r4 hu ht
    · rw [if_neg h1]
      by_cases h2 : k = 2
      · subst h2
        rw [if_pos rfl]
        exact rline_tick u t f n p w hn r2 r3 r4 hu ht
      · rw [if_neg h2]
        by_cases h3 : k = 3
        · subst h3
          rw [if_pos rfl]
          exact rline_check u t f n p w hn r2 r3 r4 hu ht
        · rw [if_neg h3]
          exact rline_crash k u t f n p w hn r2 r3 r4 hu ht (beq_eq_false_iff_ne.mpr h1) (beq_eq_false_iff_ne.mpr h2) (beq_eq_false_iff_ne.mpr h3)
  · rw [if_neg hn]
    have hn : n ≤ 0 := by omega
    by_cases h1 : k = 1
    · subst h1
      rw [if_pos rfl]
      cases f with
      | true => rw [if_pos rfl]; exact rline0_ask_fail u t n p w hn r3 r4 hu ht
      | false => rw [if_neg (by simp)]; exact rline0_ask_no u t n p w hn r3 r4 hu ht
    · rw [if_neg h1]
      by_cases h2 : k = 2
      · subst h2
        rw [if_pos rfl]
        exact rline0_tick u t f n p w hn r3 r4 hu ht
      · rw [if_neg h2]
        by_cases h3 : k = 3
        · subst h3
          rw [if_pos rfl]
          exact rline0_check u t f n p w hn r3 r4 hu ht
        · rw [if_neg h3]
          exact rline0_crash k u t f n p w hn r3 r4 hu ht (beq_eq_false_iff_ne.mpr h1) (beq_eq_false_iff_ne.mpr h2) (beq_eq_false_iff_ne.mpr h3)

def NoNL (t : ByteArray) (k : Nat) : Prop := ∀ j (h : j < t.size), j < k → ¬ (t[j].toNat : Int) = 10
theorem data_getElem? (t : ByteArray) (k : Nat) (h : k < t.size) : t.data.toList[k]? = some t[k] := by
  rw [List.getElem?_eq_getElem (show k < t.data.toList.length from h)]
  rfl
theorem nl_yes {t : ByteArray} {k : Nat} (h : k < t.size) (hc : (t[k].toNat : Int) = 10) : hasNL t = true := by
  unfold hasNL
  refine decide_eq_true ?_
  have hge := Lib.indexByte_ge t.data.toList 10
  rcases Int.lt_or_le (Lib.indexByte t.data.toList 10) 0 with h1 | h1
  · exfalso
    have := Lib.indexByte_none (show Lib.indexByte t.data.toList 10 = -1 by omega) k
    rw [data_getElem? t k h] at this
    exact this (congrArg some (UInt8.toNat.inj (show t[k].toNat = 10 by omega)))
  · exact h1
theorem nl_no {t : ByteArray} (ho : NoNL t t.size) : hasNL t = false := by
  unfold hasNL
  refine decide_eq_false fun h => ?_
  obtain ⟨o, ho'⟩ : ∃ o : Nat, Lib.indexByte t.data.toList 10 = o := ⟨(Lib.indexByte t.data.toList 10).toNat, by omega⟩
  have hs := (Lib.indexByte_some ho').1
  have hlt : o < t.size := (List.getElem?_eq_some_iff.1 hs).1
  rw [data_getElem? t o hlt] at hs
  have := ho o hlt hlt
  rw [Option.some.inj hs] at this
  exact this rfl
theorem noNL_succ {t : ByteArray} {k : Nat} (h : k < t.size) (ho : NoNL t k) (hc : ¬ (t[k].toNat : Int) = 10) : NoNL t (k + 1) := fun j hj hjk => by
  by_cases e : j = k
  · subst e; exact hc
  · exact ho j hj (by omega)
theorem toList_nil (u : ByteArray) : (u.toList == []) = decide (u.size = 0) := by
  by_cases h : u.size = 0
  · rw [decide_eq_true h]
    have : u.toList = [] := List.eq_nil_of_length_eq_zero (by rw [toList_size]; exact h)
    rw [this]; rfl
  · rw [decide_eq_false h]
    exact beq_eq_false_iff_ne.mpr fun e => h (by rw [← toList_size, e]; rfl)
theorem bareB_eq (u t : ByteArray) (f : Bool) : bareB u t f = (decide (u.size = 0) && decide (t.size = 0) && !f) := by
  unfold bareB
  rw [toList_nil, toList_nil]
set_option maxHeartbeats 1000000 in
theorem refGood_range (k : Int) (u t : ByteArray) (f : Bool) (n p : Int) (w : World) (h : rangeB n p = false) :
    Calls Tryz.prog 22 #[.agg #[.int .u8 k, .string u, .string t, .bool f, .int .i64 n, .int .i64 p]] w fun e w' => e = .returned (.bool false) ∧ Below w.heap.size w w' := by
  by_cases h1 : n < 0
  · go_enter Tryz.func22, Tryz.ntmps22
    go_wp2
    go_ret
    exact ⟨rfl, (Below.refl _ _).alloc (Nat.le_refl _) _⟩
  · by_cases h2 : n ≤ 1099511627776
    · by_cases h3 : p < 0
      · go_enter Tryz.func22, Tryz.ntmps22
        go_wp2
        go_ret
        exact ⟨rfl, (Below.refl _ _).alloc (Nat.le_refl _) _⟩
      · have h4 : ¬ p ≤ 1099511627776 := fun h5 => by
          unfold rangeB at h
          rw [decide_eq_true (show 0 ≤ n by omega), decide_eq_true h2, decide_eq_true (show 0 ≤ p by omega), decide_eq_true h5] at h
          cases h
        go_enter Tryz.func22, Tryz.ntmps22
        go_wp2
        go_ret
        exact ⟨rfl, (Below.refl _ _).alloc (Nat.le_refl _) _⟩
    · go_enter Tryz.func22, Tryz.ntmps22
      go_wp2
      go_ret
      exact ⟨rfl, (Below.refl _ _).alloc (Nat.le_refl _) _⟩
set_option maxHeartbeats 4000000 in
theorem refGood_ask (u t : ByteArray) (f : Bool) (n p : Int) (w : World) (hu : u.size ≤ maxLen) (ht : t.size ≤ 1000000000) (h : rangeB n p = true) :
    Calls Tryz.prog 22 #[.agg #[.int .u8 1, .string u, .string t, .bool f, .int .i64 n, .int .i64 p]] w fun e w' => e = .returned (.bool (nameB u && !hasNL t && powB n p)) ∧ Below w.heap.size w w' := by
  obtain ⟨r1, r2, r3, r4⟩ := range_of h
  clear h
  go_enter Tryz.func22, Tryz.ntmps22
  go_wp2
  go_loop [3] (fun i => ∃ k : Nat, k ≤ t.size ∧ i = .int .i64 k ∧ NoNL t k) (fun i => t.size - (intOf i).toNat)
  case atStart => exact ⟨0, Nat.zero_le _, rfl, fun j _ hj => absurd hj (by omega)⟩
  case round =>
    obtain ⟨k, hk, rfl, ho⟩ := hrel
    by_cases hlt : k < t.size
    · by_cases c : (t[k].toNat : Int) = 10
      · have HN : Aside (hasNL t = true) := ⟨nl_yes hlt c⟩
        have d : ((t[k].toNat : Int) == 10) = true := beq_iff_eq.mpr c
        clear ho c
        go_wp2
        go_ret
        exact ⟨by rw [HN.out]; simp, (Below.refl _ _).alloc (Nat.le_refl _) _⟩
      · have HN : Aside (NoNL t (k + 1)) := ⟨noNL_succ hlt ho c⟩
        have d : ((t[k].toNat : Int) == 10) = false := beq_eq_false_iff_ne.mpr c
        clear ho c
        go_wp2
        go_round
        case rel => exact ⟨k + 1, by omega, by go_num, HN.out⟩
        case measure => simp [intOf]; omega
    · have HC : Aside (hasNL t = false) := ⟨nl_no fun j hj _ => ho j hj (by omega)⟩
      clear ho
      cases hn : nameB u with
      | false =>
        have HN := Aside.mk hn
        clear hn
        go_wp2_with (go_at_call 37; refine (refName_calls _ _ hu).mono ?_; rintro e w' ⟨rfl, rfl⟩; rw [HN.out])
        all_goals (go_ret; exact ⟨by rw [HN.out]; rfl, (Below.refl _ _).alloc (Nat.le_refl _) _⟩)
      | true =>
        have HN := Aside.mk hn
        clear hn
        by_cases hp : 0 < n
        · have HP : Aside (powB n p = true) := ⟨by unfold powB; rw [decide_eq_true hp]; rfl⟩
          go_wp2_with (go_at_call 37; refine (refName_calls _ _ hu).mono ?_; rintro e w' ⟨rfl, rfl⟩; rw [HN.out])
          all_goals (go_ret; exact ⟨by rw [HN.out, HC.out, HP.out]; first | rfl | (simp; done) | (simp; omega), (Below.refl _ _).alloc (Nat.le_refl _) _⟩)
        · by_cases hq : p = 0
          · have HP : Aside (powB n p = true) := ⟨by unfold powB; rw [hq]; simp⟩
            subst hq
            go_wp2_with (go_at_call 37; refine (refName_calls _ _ hu).mono ?_; rintro e w' ⟨rfl, rfl⟩; rw [HN.out])
            all_goals (go_ret; exact ⟨by rw [HN.out, HC.out, HP.out]; first | rfl | (simp; done) | (simp; omega), (Below.refl _ _).alloc (Nat.le_refl _) _⟩)
          · have HP : Aside (powB n p = false) := ⟨by unfold powB; rw [decide_eq_false hp, beq_eq_false_iff_ne.mpr hq]; rfl⟩
            have d1 : (p == 0) = false := beq_eq_false_iff_ne.mpr hq
            clear hq
            go_wp2_with (go_at_call 37; refine (refName_calls _ _ hu).mono ?_; rintro e w' ⟨rfl, rfl⟩; rw [HN.out])
            all_goals (go_ret; exact ⟨by rw [HN.out, HC.out, HP.out]; first | rfl | (simp; done) | (simp; omega), (Below.refl _ _).alloc (Nat.le_refl _) _⟩)
set_option maxHeartbeats 1000000 in
theorem refGood_nobare (k : Int) (u t : ByteArray) (f : Bool) (n p : Int) (w : World) (h : rangeB n p = true) (h1 : (k == 1) = false) (hb : bareB u t f = false) :
    Calls Tryz.prog 22 #[.agg #[.int .u8 k, .string u, .string t, .bool f, .int .i64 n, .int .i64 p]] w fun e w' => e = .returned (.bool false) ∧ Below w.heap.size w w' := by
  obtain ⟨r1, r2, r3, r4⟩ := range_of h
  clear h
  rw [bareB_eq] at hb
  by_cases hu0 : u.size = 0
  · by_cases ht0 : t.size = 0
    · cases f with
      | false => rw [decide_eq_true hu0, decide_eq_true ht0] at hb; cases hb
      | true =>
        clear hb
        go_enter Tryz.func22, Tryz.ntmps22
        go_wp2
        go_ret
        exact ⟨rfl, (Below.refl _ _).alloc (Nat.le_refl _) _⟩
    · have hp : 0 < (t.size : Int) := by omega
      clear hb ht0
      go_enter Tryz.func22, Tryz.ntmps22
      go_wp2
      all_goals first | (go_ret; exact ⟨rfl, (Below.refl _ _).alloc (Nat.le_refl _) _⟩) | (exfalso; simp_all; done)
  · have hp : 0 < (u.size : Int) := by omega
    clear hb hu0
    go_enter Tryz.func22, Tryz.ntmps22
    go_wp2
    all_goals first | (go_ret; exact ⟨rfl, (Below.refl _ _).alloc (Nat.le_refl _) _⟩) | (exfalso; simp_all; done)
theorem bare_parts {u t : ByteArray} {f : Bool} (hb : bareB u t f = true) : ¬ 0 < (u.size : Int) ∧ ¬ 0 < (t.size : Int) ∧ f = false := by
  rw [bareB_eq] at hb
  simp only [Bool.and_eq_true, decide_eq_true_eq, Bool.not_eq_true'] at hb
  exact ⟨by omega, by omega, hb.2⟩
set_option maxHeartbeats 1000000 in
theorem refGood_crash (u t : ByteArray) (f : Bool) (n p : Int) (w : World) (h : rangeB n p = true) (hb : bareB u t f = true) :
    Calls Tryz.prog 22 #[.agg #[.int .u8 4, .string u, .string t, .bool f, .int .i64 n, .int .i64 p]] w fun e w' => e = .returned (.bool (n == 0)) ∧ Below w.heap.size w w' := by
  obtain ⟨r1, r2, r3, r4⟩ := range_of h
  clear h
  obtain ⟨hu0, ht0, rfl⟩ := bare_parts hb
  clear hb
  go_enter Tryz.func22, Tryz.ntmps22
  go_wp2
  all_goals first | (exfalso; simp_all; done) | (go_ret; exact ⟨by first | rfl | (simp [*]; done) | (simp_all; done) | (simp_all; omega), (Below.refl _ _).alloc (Nat.le_refl _) _⟩)
set_option maxHeartbeats 1000000 in
theorem refGood_tick (k : Int) (hk : k = 2 ∨ k = 3) (u t : ByteArray) (f : Bool) (n p : Int) (w : World) (h : rangeB n p = true) (hb : bareB u t f = true) :
    Calls Tryz.prog 22 #[.agg #[.int .u8 k, .string u, .string t, .bool f, .int .i64 n, .int .i64 p]] w fun e w' => e = .returned (.bool (powB n p)) ∧ Below w.heap.size w w' := by
  obtain ⟨r1, r2, r3, r4⟩ := range_of h
  clear h
  obtain ⟨hu0, ht0, rfl⟩ := bare_parts hb
  clear hb
  rcases hk with rfl | rfl
  · go_enter Tryz.func22, Tryz.ntmps22
    go_wp2
    all_goals first | (exfalso; simp_all; done) | (go_ret; exact ⟨by first | (simp [powB, *]; done) | (simp [powB, *]; omega) | (simp_all [powB]; done) | (simp_all [powB]; omega), (Below.refl _ _).alloc (Nat.le_refl _) _⟩)
  · go_enter Tryz.func22, Tryz.ntmps22
    go_wp2
    all_goals first | (exfalso; simp_all; done) | (go_ret; exact ⟨by first | (simp [powB, *]; done) | (simp [powB, *]; omega) | (simp_all [powB]; done) | (simp_all [powB]; omega), (Below.refl _ _).alloc (Nat.le_refl _) _⟩)
set_option maxHeartbeats 1000000 in
theorem refGood_none (k : Int) (u t : ByteArray) (f : Bool) (n p : Int) (w : World) (h : rangeB n p = true) (h1 : (k == 1) = false) (h2 : (k == 2) = false) (h3 : (k == 3) = false) (h4 : (k == 4) = false) (hb : bareB u t f = true) :
    Calls Tryz.prog 22 #[.agg #[.int .u8 k, .string u, .string t, .bool f, .int .i64 n, .int .i64 p]] w fun e w' => e = .returned (.bool false) ∧ Below w.heap.size w w' := by
  obtain ⟨r1, r2, r3, r4⟩ := range_of h
  clear h
  obtain ⟨hu0, ht0, rfl⟩ := bare_parts hb
  clear hb
  go_enter Tryz.func22, Tryz.ntmps22
  go_wp2
  all_goals first | (exfalso; simp_all; done) | (go_ret; exact ⟨rfl, (Below.refl _ _).alloc (Nat.le_refl _) _⟩)
theorem refGood_calls (x : St) (w : World) (hu : x.u.size ≤ maxLen) (ht : x.t.size ≤ 1000000000) :
    Calls Tryz.prog 22 #[.agg #[.int .u8 x.k, .string x.u, .string x.t, .bool x.f, .int .i64 x.n, .int .i64 x.p]] w fun e w' => e = .returned (.bool (goodS x)) ∧ Below w.heap.size w w' := by
  obtain ⟨k, u, t, f, n, p⟩ := x
  simp only [goodS, goodB]
  cases h : rangeB n p with
  | false => exact refGood_range k u t f n p w h
  | true =>
    simp only [Bool.true_and]
    by_cases h1 : k = 1
    · subst h1
      rw [if_pos rfl]
      exact refGood_ask u t f n p w hu ht h
    · rw [if_neg h1]
      have k1 : (k == 1) = false := beq_eq_false_iff_ne.mpr h1
      cases hb : bareB u t f with
      | false =>
        simp only [Bool.false_and, ite_self]
        exact refGood_nobare k u t f n p w h k1 hb
      | true =>
        simp only [Bool.true_and]
        by_cases h2 : k = 2 ∨ k = 3
        · rw [if_pos h2]
          exact refGood_tick k h2 u t f n p w h hb
        · rw [if_neg h2]
          by_cases h4 : k = 4
          · subst h4
            rw [if_pos rfl]
            exact refGood_crash u t f n p w h hb
          · rw [if_neg h4]
            exact refGood_none k u t f n p w h k1 (beq_eq_false_iff_ne.mpr fun e => h2 (.inl e)) (beq_eq_false_iff_ne.mpr fun e => h2 (.inr e)) (beq_eq_false_iff_ne.mpr h4) hb
theorem bs_append (A : List UInt8) (B : ByteArray) : bs A ++ B = bs (A ++ B.data.toList) := by
  apply ByteArray.ext
  rw [ByteArray.data_append]
  simp
theorem text_len (A : List UInt8) (s : ByteArray) : (A ++ s.data.toList).length = A.length + s.size := by
  rw [List.length_append]; rfl
set_option maxRecDepth 100000 in
set_option maxHeartbeats 4000000 in
theorem refWrite_calls (b o cap : Nat) (l : List St) (w : World) (hl2 : l.length ≤ 1000) (hc : StepsAt w b o l) (hb : b < w.heap.size) (hs : ∀ i (h : i < l.length), l[i].u.size ≤ 1000000 ∧ l[i].t.size ≤ 1000000) :
    Calls Tryz.prog 11 #[.slice (some ⟨b, o, none⟩) l.length cap] w fun e w' => e = .returned (.tuple #[.string (writeF l).1, .int .i64 (writeF l).2]) ∧ Below w.heap.size w w' := by
  have HC := Aside.mk hc
  have HS := Aside.mk hs
  clear hc hs
  go_enter Tryz.func11, Tryz.ntmps11
  go_wp2
  go_loopw [4] (fun i wr => ∃ k : Nat, k ≤ l.length ∧ i = .int .i64 k ∧ Aside (AllGood l k) ∧ Aside (Below w.heap.size w wr)) (fun i _ => l.length - (intOf i).toNat)
  case atStart => exact ⟨0, Nat.zero_le _, rfl, ⟨fun j _ hj => absurd hj (by omega)⟩, ⟨Below.refl _ _⟩⟩
  case round =>
    obtain ⟨k, hk, rfl, ho, hW⟩ := hrel
    by_cases hlt : k < l.length
    · obtain ⟨e0, e1, e2, e3, e4, e5⟩ := HC.out k hlt
      have hx1 := HS.out k hlt
      generalize hx : l[k] = x at e0 e1 e2 e3 e4 e5 hx1
      have d0 := (hW.out.cell (p := ⟨b, o + k * 6, none⟩) hb).trans e0
      have d1 := (hW.out.cell (p := ⟨b, o + k * 6 + 1, none⟩) hb).trans e1
      have d2 := (hW.out.cell (p := ⟨b, o + k * 6 + 2, none⟩) hb).trans e2
      have d3 := (hW.out.cell (p := ⟨b, o + k * 6 + 3, none⟩) hb).trans e3
      have d4 := (hW.out.cell (p := ⟨b, o + k * 6 + 4, none⟩) hb).trans e4
      have d5 := (hW.out.cell (p := ⟨b, o + k * 6 + 5, none⟩) hb).trans e5
      clear e0 e1 e2 e3 e4 e5
      have HX := Aside.mk hx
      obtain ⟨hx3, hx4⟩ := hx1
      have hu : x.u.size ≤ maxLen := by unfold maxLen; omega
      have ht : x.t.size ≤ 1000000000 := by omega
      clear hx
      cases hg : goodS x with
      | false =>
        have HG := Aside.mk hg
        clear hg
        go_wp2_with (go_at_call 22; refine (refGood_calls x _ hu ht).mono ?_; rintro e w' ⟨rfl, hb'⟩; rw [HG.out])
        go_ret2
        exact ⟨by rw [writeF_bad hlt HX.out HG.out]; rfl, hW.out.trans (hb'.mono hW.out.size)⟩
      | true =>
        have HG := Aside.mk hg
        clear hg
        go_wp2_with (go_at_call 22; refine (refGood_calls x _ hu ht).mono ?_; rintro e w' ⟨rfl, hb'⟩; rw [HG.out])
        go_roundw
        case rel => exact ⟨k + 1, by omega, by go_num, ⟨all_succ hlt ho.out HX.out HG.out⟩, ⟨hW.out.trans (hb'.mono hW.out.size)⟩⟩
        case measure => simp [intOf]; omega
    · have hk2 : k = l.length := by omega
      subst hk2
      go_wp2
      go_loopw [5, 6] (fun ov i wr => ∃ k : Nat, k ≤ l.length ∧ i = .int .i64 k ∧ ov = .string (bs (textOf (l.take k))) ∧ Aside ((textOf (l.take k)).length ≤ 65536) ∧ Aside (Below w.heap.size w wr)) (fun _ i _ => l.length - (intOf i).toNat)
      case atStart => exact ⟨0, Nat.zero_le _, rfl, by simp [textOf], ⟨by simp [textOf]⟩, ⟨hW.out⟩⟩
      case round =>
        obtain ⟨k, hk, rfl, rfl, hT, hW⟩ := hrel
        by_cases hlt : k < l.length
        · obtain ⟨e0, e1, e2, e3, e4, e5⟩ := HC.out k hlt
          have hx1 := HS.out k hlt
          have hx2 := ho.out k hlt hlt
          have hts := textOf_take_succ hlt
          generalize hx : l[k] = x at e0 e1 e2 e3 e4 e5 hx1 hx2 hts
          have d0 := (hW.out.cell (p := ⟨b, o + k * 6, none⟩) hb).trans e0
          have d1 := (hW.out.cell (p := ⟨b, o + k * 6 + 1, none⟩) hb).trans e1
          have d2 := (hW.out.cell (p := ⟨b, o + k * 6 + 2, none⟩) hb).trans e2
          have d3 := (hW.out.cell (p := ⟨b, o + k * 6 + 3, none⟩) hb).trans e3
          have d4 := (hW.out.cell (p := ⟨b, o + k * 6 + 4, none⟩) hb).trans e4
          have d5 := (hW.out.cell (p := ⟨b, o + k * 6 + 5, none⟩) hb).trans e5
          have HT := Aside.mk hts
          have hr : rangeB x.n x.p = true := by
            unfold goodS goodB at hx2
            simp only [Bool.and_eq_true] at hx2
            exact hx2.1
          have HR := Aside.mk hr
          obtain ⟨hx3, hx4⟩ := hx1
          have hls := lineS_size x HR.out hx3 hx4
          have hT2 := hT.out
          generalize hA : textOf (l.take k) = A at HT hT2 ⊢
          have HA := Aside.mk hA
          clear hA
          have hz : ¬ 9223372036854775807 < (lineS x).size + 1 := by omega
          have hz2 : ¬ 9223372036854775807 < A.length + ((lineS x).size + 1) := by omega
          clear e0 e1 e2 e3 e4 e5 hx hts hr hx2 hls hT2 hT
          go_wp2_with fail
          refine (rline_calls x _ HR.out hx3 hx4).mono ?_
          rintro e w1 ⟨rfl, hb1⟩
          dsimp only
          generalize hY : lineS x = Y at hz hz2 HT ⊢
          have HY := Aside.mk hY
          have s1 : (bs A).size = A.length := rfl
          rw [← s1] at hz2
          generalize hB : bs A = B at s1 hz2 ⊢
          have HS1 := Aside.mk s1
          have HB := Aside.mk hB
          clear s1 hB hY
          iterate 15 go_step
          clear hz hz2
          generalize hC : B ++ (Y ++ (⟨#[10]⟩ : ByteArray)) = C
          have h0 : bs (textOf (l.take (k + 1))) = C := by
            rw [HT.out, ← hC, ← HB.out]
            exact (bs_append _ _).symm
          have h1 : (textOf (l.take (k + 1))).length = C.size := by
            have := congrArg ByteArray.size h0
            exact this
          have H0 := Aside.mk h0
          have H1 := Aside.mk h1
          clear hC h0 h1
          by_cases h65 : (65536 : Int) < (C.size : Int)
          · go_wp2
            go_ret2
            exact ⟨by rw [writeF_long ho.out (k := k + 1) (by rw [H1.out]; omega)]; rfl, hW.out.trans (hb1.mono hW.out.size)⟩
          · go_wp2
            go_roundw
            case rel => exact ⟨k + 1, by omega, by go_num, by rw [H0.out], ⟨by rw [H1.out]; omega⟩, ⟨hW.out.trans (hb1.mono hW.out.size)⟩⟩
            case measure => simp [intOf]; omega
        · have hk2 : k = l.length := by omega
          subst hk2
          rw [List.take_length] at hT ⊢
          go_wp2
          go_ret2
          exact ⟨by rw [writeF_ok ho.out hT.out]; rfl, hW.out⟩
set_option maxRecDepth 100000 in
theorem refWrite_nil (ao : Option Addr) (cap : Nat) (w : World) :
    Calls Tryz.prog 11 #[.slice ao 0 cap] w fun e w' => e = .returned (.tuple #[.string (writeF []).1, .int .i64 (writeF []).2]) ∧ w' = w := by
  go_enter Tryz.func11, Tryz.ntmps11
  go_wp2
  go_loop [4] (fun i => i = .int .i64 0) (fun _ => 0)
  case atStart => rfl
  case round =>
    obtain rfl := hrel
    go_wp2
    go_loop [5, 6] (fun ov i => ov = .string ⟨#[]⟩ ∧ i = .int .i64 0) (fun _ _ => 0)
    case atStart => exact ⟨rfl, rfl⟩
    case round =>
      obtain ⟨rfl, rfl⟩ := hrel
      go_wp2
      go_ret2
      exact ⟨rfl, rfl⟩
def cellsOf1 (x : St) : List Value := [.int .u8 x.k, .string x.u, .string x.t, .bool x.f, .int .i64 x.n, .int .i64 x.p]
def cellsS (l : List St) : List Value := l.flatMap cellsOf1
theorem cellsS_length (l : List St) : (cellsS l).length = l.length * 6 := by
  induction l with
  | nil => rfl
  | cons x l ih => simp only [cellsS, List.flatMap_cons, List.length_append] at ih ⊢; rw [ih]; simp [cellsOf1]; omega
theorem cellsS_get : ∀ (l : List St) (i r : Nat) (h : i < l.length) (_ : r < 6), (cellsS l)[i * 6 + r]? = (cellsOf1 l[i])[r]?
  | x :: l, 0, r, _, hr => by
    simp only [cellsS, List.flatMap_cons]
    rw [List.getElem?_append_left (by simp [cellsOf1]; omega)]
    simp
  | x :: l, i + 1, r, h, hr => by
    have ih := cellsS_get l i r (by simpa using h) hr
    simp only [cellsS, List.flatMap_cons] at ih ⊢
    rw [List.getElem?_append_right (by simp [cellsOf1]; omega)]
    rw [show (i + 1) * 6 + r - (cellsOf1 x).length = i * 6 + r by simp [cellsOf1]; omega, ih]
    simp
theorem cellsS_one (l : List St) : ∀ u ∈ cellsS l, u.oneCell' = true := by
  intro u hu
  obtain ⟨x, _, hx⟩ := List.mem_flatMap.1 hu
  simp [cellsOf1] at hx
  rcases hx with rfl | rfl | rfl | rfl | rfl | rfl <;> rfl
/-- The steps' cells, place for place. -/
theorem steps_cells {w : World} {b o : Nat} {l : List St} (hc : StepsAt w b o l) : ∀ j u, (cellsS l)[j]? = some u → w.cell? ((⟨b, o, none⟩ : Addr).add j) = some u := by
  intro j u hj
  have hlt : j < l.length * 6 := by rw [← cellsS_length]; exact (List.getElem?_eq_some_iff.1 hj).1
  have hi : j / 6 < l.length := by omega
  have hr : j % 6 < 6 := Nat.mod_lt _ (by decide)
  rw [show j = j / 6 * 6 + j % 6 by omega] at hj
  rw [cellsS_get l (j / 6) (j % 6) hi hr] at hj
  rw [Addr.add_lit]
  obtain ⟨e0, e1, e2, e3, e4, e5⟩ := hc (j / 6) hi
  rw [show o + j = o + j / 6 * 6 + j % 6 by omega]
  generalize j % 6 = r at hj hr
  match r, hr, hj with
  | 0, _, hj => rw [Nat.add_zero, e0]; exact hj
  | 1, _, hj => rw [e1]; exact hj
  | 2, _, hj => rw [e2]; exact hj
  | 3, _, hj => rw [e3]; exact hj
  | 4, _, hj => rw [e4]; exact hj
  | 5, _, hj => rw [e5]; exact hj
/-- .. and back. -/
theorem steps_of_cells {w : World} {b o : Nat} {l : List St} (hc : ∀ j u, (cellsS l)[j]? = some u → w.cell? ((⟨b, o, none⟩ : Addr).add j) = some u) : StepsAt w b o l := by
  intro i hi
  have key : ∀ r u, r < 6 → (cellsOf1 l[i])[r]? = some u → w.cell? ⟨b, o + i * 6 + r, none⟩ = some u := fun r u hr hu => by
    have := hc (i * 6 + r) u (by rw [cellsS_get l i r hi hr]; exact hu)
    rw [Addr.add_lit, show o + (i * 6 + r) = o + i * 6 + r by omega] at this
    exact this
  exact ⟨key 0 _ (by decide) rfl, key 1 _ (by decide) rfl, key 2 _ (by decide) rfl, key 3 _ (by decide) rfl, key 4 _ (by decide) rfl, key 5 _ (by decide) rfl⟩
theorem stepsAt_below {w w' : World} {b o : Nat} {l : List St} (hc : StepsAt w b o l) (hb : b < w.heap.size) (h : Below w.heap.size w w') : StepsAt w' b o l := by
  intro i hi
  obtain ⟨e0, e1, e2, e3, e4, e5⟩ := hc i hi
  exact ⟨(h.cell hb).trans e0, (h.cell hb).trans e1, (h.cell hb).trans e2, (h.cell hb).trans e3, (h.cell hb).trans e4, (h.cell hb).trans e5⟩
end Go.Proofs.YtilpifbaolmdlaaGreatDoor
