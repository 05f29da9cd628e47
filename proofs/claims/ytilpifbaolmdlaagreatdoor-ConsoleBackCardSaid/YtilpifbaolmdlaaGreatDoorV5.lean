/-
  The reference's readers. No condition but those written in each statement.
-/
import Derived.Test.YtilpifbaolmdlaaGreatDoorV4
set_option linter.unusedVariables false
set_option linter.unusedSimpArgs false
set_option linter.unusedSectionVars false
namespace Go.Proofs.YtilpifbaolmdlaaGreatDoor
open Go Go.RowKit
theorem grow_below (w : World) (k : Nat) (os : Array Obj) : Below w.heap.size w (Go.Sort.grow (w.drewN k) os) :=
  ⟨rfl, rfl, rfl, by show w.heap.size ≤ (w.heap ++ os).size; rw [Array.size_append]; omega, fun j hj => by show (w.heap ++ os)[j]? = _; exact Array.getElem?_append_left hj⟩
set_option maxRecDepth 100000 in
set_option maxHeartbeats 4000000 in
theorem number_big (N : Nat) (hN : N ≤ 9223372036854775807) (w : World) :
    Calls Tryz.prog 59 #[.int .i64 (N : Int)] w fun e w' => e = .returned (.string (bs (Lib.itoa (N : Int)))) ∧ ∃ k os, w' = Go.Sort.grow (w.drewN k) os := by
  rw [Lib.itoa_nonneg]
  have d1 : ((N : Int) == -9223372036854775808) = false := beq_eq_false_iff_ne.mpr (by omega)
  have kc : ∀ (n : Nat) (w : World), (convert 47 9 (.slice (some ⟨w.heap.size, 0, none⟩) 1 1)).run Tryz.prog (w.alloc (.cells #[.int .u8 (48 + (n : Int) % 10)] 5)) = .ok (.string ⟨#[UInt8.ofNat (48 + n % 10)]⟩) (w.alloc (.cells #[.int .u8 (48 + (n : Int) % 10)] 5)) := fun n w => by
    have := digit_conv (P := Tryz.prog) w 47 9 5 (48 + n % 10) Tryz.underlying47 Tryz.underlying5 Tryz.underlying9 (by omega)
    rw [show ((48 + n % 10 : Nat) : Int) = 48 + (n : Int) % 10 by omega] at this
    exact this
  go_enter Tryz.func59, Tryz.ntmps59
  go_wp2
  go_loopw [0, 3, 4] (fun vn vo vb wr => ∃ (n : Nat) (out : List UInt8) (b : Bool), vn = .int .i64 n ∧ vo = .string (bs out) ∧ vb = .bool b ∧ n ≤ N ∧ Aside (b = true → Lib.decDigits N = Lib.decDigits n ++ out) ∧ Aside (b = false → n = 0 ∧ Lib.decDigits N = out) ∧ Aside (∃ k os, wr = Go.Sort.grow (w.drewN k) os)) (fun vn _ vb _ => (intOf vn).toNat + b2n vb)
  case atStart => exact ⟨N, [], true, rfl, rfl, rfl, Nat.le_refl _, ⟨fun _ => by simp⟩, ⟨fun h => by cases h⟩, ⟨0, #[], by simp; rfl⟩⟩
  case round =>
    obtain ⟨n, out, b, rfl, rfl, rfl, hn, h1, h2, h3⟩ := hrel
    cases b with
    | true =>
      have hd : n % 10 < 10 := Nat.mod_lt _ (by decide)
      have hlen : out.length ≤ 20 := by
        have h := congrArg List.length (h1.out rfl)
        rw [List.length_append, Lib.decDigits_length] at h
        have := Lib.nDigits_le20 N (by omega)
        omega
      have hdig : Aside (Lib.decDigits N = Lib.decDigits n ++ out) := ⟨h1.out rfl⟩
      clear h1 h2
      have s1 : (bs out).size = out.length := rfl
      have hz : ¬ 9223372036854775807 < 1 + out.length := by omega
      go_wp2
      clear hd d1
      have hds : n < 10 → Lib.decDigits n = [UInt8.ofNat (48 + n % 10)] := fun h => by rw [Lib.decDigits_one h, Nat.mod_eq_of_lt h]
      have hdb : ¬ n < 10 → Lib.decDigits n = Lib.decDigits (n / 10) ++ [UInt8.ofNat (48 + n % 10)] := fun h => by rw [Lib.decDigits, dif_neg h]
      refine ⟨⟨n / 10, UInt8.ofNat (48 + n % 10) :: out, decide (0 < n / 10), by rw [show ((n / 10 : Nat) : Int) = (n : Int) / 10 by omega], ?_, ?_, by omega, ⟨fun h => ?_⟩, ⟨fun h => ?_⟩, ⟨?_⟩⟩, ?_⟩
      · have : (48 : UInt8) + UInt8.ofNat (n % 10) = UInt8.ofNat (48 + n % 10) := by rw [UInt8.ofNat_add]; rfl
        rw [this]
        congr 1
      · congr 1
        simp only [decide_eq_decide]
        omega
      · rw [hdig.out, hdb (by have := of_decide_eq_true h; omega), List.append_assoc]
        rfl
      · have h0 : n / 10 = 0 := by have := of_decide_eq_false h; omega
        refine ⟨h0, ?_⟩
        rw [hdig.out, hds (by omega)]
        rfl
      · obtain ⟨k, os, rfl⟩ := h3.out
        exact ⟨k, os.push _, grow_alloc _⟩
      · by_cases h0 : 0 < n / 10
        · have : (0 : Int) < (n : Int) / 10 := by omega
          simp only [intOf, b2n, decide_eq_true this]
          omega
        · have : ¬ (0 : Int) < (n : Int) / 10 := by omega
          simp only [intOf, b2n, decide_eq_false this]
          omega
    | false =>
      have h4 : Aside (Lib.decDigits N = out) := ⟨(h2.out rfl).2⟩
      clear h1 h2
      go_wp2
      go_ret
      exact ⟨by rw [h4.out]; rfl, h3.out⟩
set_option maxRecDepth 100000 in
set_option maxHeartbeats 4000000 in
theorem number_min (w : World) :
    Calls Tryz.prog 59 #[.int .i64 (-9223372036854775808)] w fun e w' => e = .returned (.string (bs (Lib.itoa (-9223372036854775808)))) ∧ Below w.heap.size w w' := by
  have h : bs (Lib.itoa (-9223372036854775808)) = ⟨#[45, 57, 50, 50, 51, 51, 55, 50, 48, 51, 54, 56, 53, 52, 55, 55, 53, 56, 48, 56]⟩ := by decide +kernel
  have H := Aside.mk h
  clear h
  go_enter Tryz.func59, Tryz.ntmps59
  go_wp2
  go_ret
  exact ⟨by rw [H.out]; rfl, Below.refl _ _⟩
set_option maxRecDepth 100000 in
set_option maxHeartbeats 4000000 in
theorem number_neg (N : Nat) (h1 : 1 ≤ N) (hN : N ≤ 9223372036854775807) (w : World) :
    Calls Tryz.prog 59 #[.int .i64 (-(N : Int))] w fun e w' => e = .returned (.string (bs (Lib.itoa (-(N : Int))))) ∧ Below w.heap.size w w' := by
  have d1 : ((-(N : Int)) == -9223372036854775808) = false := beq_eq_false_iff_ne.mpr (by omega)
  have d2 : (-(N : Int)) < 0 := by omega
  have hl : (Lib.itoa (N : Int)).length ≤ 21 := Lib.itoa_length_le _ (by omega) (by omega)
  have s1 : (bs (Lib.itoa (N : Int))).size = (Lib.itoa (N : Int)).length := rfl
  have hz : ¬ 9223372036854775807 < 1 + (Lib.itoa (N : Int)).length := by omega
  have HB := Aside.mk (number_big N hN w)
  have HE : Aside ((⟨#[45]⟩ : ByteArray) ++ bs (Lib.itoa (N : Int)) = bs (Lib.itoa (-(N : Int)))) := ⟨by
    rw [Lib.itoa_neg N h1, Lib.itoa_nonneg]
    apply ByteArray.ext
    rw [ByteArray.data_append]
    simp⟩
  go_enter Tryz.func59, Tryz.ntmps59
  go_wp2_with (go_at_call 59; refine HB.out.mono ?_; rintro e w' ⟨rfl, k, os, rfl⟩)
  all_goals (go_ret; exact ⟨by rw [← HE.out]; rfl, grow_below _ _ _⟩)
theorem number_all (n : Int) (h0 : -9223372036854775808 ≤ n) (h1 : n ≤ 9223372036854775807) (w : World) :
    Calls Tryz.prog 59 #[.int .i64 n] w fun e w' => e = .returned (.string (bs (Lib.itoa n))) ∧ Below w.heap.size w w' := by
  by_cases hm : n = -9223372036854775808
  · subst hm; exact number_min w
  · by_cases hn : n < 0
    · obtain ⟨N, rfl⟩ : ∃ N : Nat, n = -(N : Int) := ⟨n.natAbs, by omega⟩
      exact number_neg N (by omega) (by omega) w
    · obtain ⟨N, rfl⟩ : ∃ N : Nat, n = N := ⟨n.toNat, by omega⟩
      exact (number_big N (by omega) w).mono fun e w' ⟨he, k, os, hw⟩ => ⟨he, by rw [hw]; exact grow_below _ _ _⟩
theorem post56 {R : Ending → World → Prop} {tmps : Array Value} {b : Nat} {sym : ByteArray} {num : Int} {ok : Bool} {w : World} (h2 : tmps.getD 2 undef = .pointer (some ⟨b, 0, none⟩)) (h3 : tmps.getD 3 undef = .bool ok)
    (c0 : w.cell? ⟨b, 0, none⟩ = some (.string sym)) (c1 : w.cell? ⟨b, 1, none⟩ = some (.int .i64 num)) (hR : R (.returned (.tuple #[.agg #[.string sym, .int .i64 num], .bool ok])) w) :
    bodyPost Tryz.prog Tryz.f56 R .ret { tmps := tmps, defers := [] } w := by
  refine bodyPost_ret (v := .tuple #[.agg #[.string sym, .int .i64 num], .bool ok]) ?_ rfl hR
  show (results Tryz.f56 tmps).run Tryz.prog w = _
  rw [results_cell_tmp (ty := 89) (p := 2) (u := 3) rfl, h2, h3]
  simp [go_sem, c0, c1, loadVar, asAddr, Tryz.underlying89]
/-- The digits so far, from place 0: a number's text. -/
def NegSays (s : ByteArray) (k m : Nat) : Prop := ∀ n : Int, 0 ≤ n → n ≤ 1099511627776 → dl s = Lib.itoa n → m = worth ((dl s).take k)
theorem cells56 {w w2 : World} (hb : Below (w.alloc (.cells #[.string ⟨#[]⟩, .int .i64 0] 89)).heap.size (w.alloc (.cells #[.string ⟨#[]⟩, .int .i64 0] 89)) w2) :
    w2.cell? ⟨w.heap.size, 0, none⟩ = some (.string ⟨#[]⟩) ∧ w2.cell? ⟨w.heap.size, 1, none⟩ = some (.int .i64 0) ∧ w2.frozen? ⟨w.heap.size, 0, none⟩ = false ∧ w2.frozen? ⟨w.heap.size, 1, none⟩ = false := by
  have hA : w.heap.size < (w.alloc (.cells #[.string ⟨#[]⟩, .int .i64 0] 89)).heap.size := by simp
  refine ⟨(hb.cell hA).trans ?_, (hb.cell hA).trans ?_, (hb.frozen hA).trans ?_, (hb.frozen hA).trans ?_⟩ <;> simp [go_sem]
theorem below56 {w w2 : World} (hb : Below (w.alloc (.cells #[.string ⟨#[]⟩, .int .i64 0] 89)).heap.size (w.alloc (.cells #[.string ⟨#[]⟩, .int .i64 0] 89)) w2) : Below w.heap.size w w2 :=
  ((Below.refl _ _).alloc (Nat.le_refl _) _).trans (hb.mono (by simp))
theorem refuse_eq (x : Int) (h0 : 0 ≤ x) (h1 : x ≤ 9) : (-9223372036854775808 + x).tdiv 10 = -((9223372036854775808 - x) / 10) := by
  rw [show -9223372036854775808 + x = -(9223372036854775808 - x) by omega, Int.neg_tdiv, Int.tdiv_eq_ediv_of_nonneg (by omega)]
set_option maxRecDepth 100000 in
set_option maxHeartbeats 8000000 in
theorem refRead_calls (s : ByteArray) (w : World) (hs : s.size ≤ 1000000) :
    Calls Tryz.prog 56 #[.string s] w fun e w' => ReadOut s e ∧ Below w.heap.size w w' := by
  have hm : s.size ≤ maxLen := by unfold maxLen; omega
  cases hn : nameB s with
  | true =>
    have HS : Aside (ReadSays s s 0 true) := ⟨fun n h0 _ h => by rw [itoa_not_name h0 h] at hn; cases hn⟩
    have HN := Aside.mk hn
    clear hn
    go_enter Tryz.func56, Tryz.ntmps56
    go_wp2_with (go_at_call 37; refine (refName_calls _ _ hm).mono ?_; rintro e w' ⟨rfl, hw⟩; rw [hw, HN.out]; clear hw)
    all_goals ((try simp only [Exit.inBlock, Exit.then]); exact post56 rfl rfl (by simp) (by simp) ⟨readOut HS.out, (Below.refl _ _).alloc (Nat.le_refl _) _⟩)
  | false =>
    have HN := Aside.mk hn
    clear hn
    have hsz : ∀ n : Int, 0 ≤ n → n ≤ 1099511627776 → dl s = Lib.itoa n → 0 < s.size ∧ s.size ≤ 13 ∧ ∀ (h : 0 < s.size), s[0].toNat ≠ 45 := fun n h0 h1 e => by
      have e2 : s.size = (dl s).length := rfl
      refine ⟨by rw [e2, e]; exact itoa_pos h0, by rw [e2, e]; exact itoa_small h0 h1, fun h => ?_⟩
      have := itoa_digit h0 e 0 h
      omega
    have HZ := Aside.mk hsz
    clear hsz
    by_cases hA : s.size = 0
    · have HNO : Aside (ReadSays s ⟨#[]⟩ 0 false) := ⟨readSays_no fun n h0 h1 e => by have := HZ.out n h0 h1 e; omega⟩
      go_enter Tryz.func56, Tryz.ntmps56
      go_wp2_with (go_at_call 37; refine (refName_calls _ _ hm).mono ?_; rintro e w' ⟨rfl, hw⟩; rw [hw, HN.out]; clear hw)
      all_goals ((try simp only [Exit.inBlock, Exit.then]); exact post56 rfl rfl (by simp) (by simp) ⟨readOut HNO.out, (Below.refl _ _).alloc (Nat.le_refl _) _⟩)
    have hpos : 0 < s.size := by omega
    have gpos : (0 : Int) < (s.size : Int) := by omega
    by_cases hB : (20 : Int) < (s.size : Int)
    · have HNO : Aside (ReadSays s ⟨#[]⟩ 0 false) := ⟨readSays_no fun n h0 h1 e => by have := HZ.out n h0 h1 e; omega⟩
      go_enter Tryz.func56, Tryz.ntmps56
      go_wp2_with (go_at_call 37; refine (refName_calls _ _ hm).mono ?_; rintro e w' ⟨rfl, hw⟩; rw [hw, HN.out]; clear hw)
      all_goals ((try simp only [Exit.inBlock, Exit.then]); exact post56 rfl rfl (by simp) (by simp) ⟨readOut HNO.out, (Below.refl _ _).alloc (Nat.le_refl _) _⟩)
    clear hA
    by_cases hz : (s[0].toNat : Int) = 45
    · have HV : Aside (∀ n : Int, 0 ≤ n → n ≤ 1099511627776 → dl s = Lib.itoa n → False) := ⟨fun n h0 h1 e => by have := (HZ.out n h0 h1 e).2.2 hpos; omega⟩
      have hz2 : ((s[0].toNat : Int) == 45) = true := beq_iff_eq.mpr hz
      have hsz0 : ((s.size : Int) == 0) = false := beq_eq_false_iff_ne.mpr (by omega)
      clear hz
      by_cases hone : s.size = 1
      · have hone2 : ((s.size : Int) == 1) = true := beq_iff_eq.mpr (by omega)
        have HNO : Aside (ReadSays s ⟨#[]⟩ 0 false) := ⟨fun n h0 h1 e => absurd e (HV.out n h0 h1)⟩
        clear hone
        go_enter Tryz.func56, Tryz.ntmps56
        go_wp2_with (go_at_call 37; refine (refName_calls _ _ hm).mono ?_; rintro e w' ⟨rfl, hw⟩; rw [hw, HN.out]; clear hw)
        all_goals ((try simp only [Exit.inBlock, Exit.then]); exact post56 rfl rfl (by simp) (by simp) ⟨readOut HNO.out, (Below.refl _ _).alloc (Nat.le_refl _) _⟩)
      · have hone2 : ((s.size : Int) == 1) = false := beq_eq_false_iff_ne.mpr (by omega)
        clear hone
        go_enter Tryz.func56, Tryz.ntmps56
        go_wp2_with (go_at_call 37; refine (refName_calls _ _ hm).mono ?_; rintro e w' ⟨rfl, hw⟩; rw [hw, HN.out]; clear hw)
        clear hz2 hsz0 hone2
        go_loop [5, 6] (fun nv iv => ∃ k m : Nat, k ≤ s.size ∧ iv = .int .i64 k ∧ nv = .int .i64 (-(m : Int)) ∧ m ≤ 9223372036854775808 ∧ Aside (NegSays s k m)) (fun _ iv => s.size - (intOf iv).toNat)
        case atStart => exact ⟨1, 0, hpos, rfl, rfl, by omega, ⟨fun n h0 h1 e => absurd e (HV.out n h0 h1)⟩⟩
        case round =>
          obtain ⟨k, m, hk, rfl, rfl, hm63, hD⟩ := hrel
          by_cases hlt : k < s.size
          · have hno : (s[k].toNat < 48 ∨ 57 < s[k].toNat) → Aside (ReadSays s ⟨#[]⟩ 0 false) := fun h => ⟨readSays_no fun n h0 h1 e => by
              have := itoa_digit h0 e k hlt
              omega⟩
            have hbyte : s[k].toNat < 256 := s[k].toNat_lt
            by_cases c1 : (s[k].toNat : Int) - 48 < 0
            · have HNO := hno (.inl (by omega))
              clear hno
              go_wp2
              all_goals ((try simp only [Exit.inBlock, Exit.then]); exact post56 rfl rfl (by simp) (by simp) ⟨readOut HNO.out, (Below.refl _ _).alloc (Nat.le_refl _) _⟩)
            · by_cases c2 : (9 : Int) < (s[k].toNat : Int) - 48
              · have HNO := hno (.inr (by omega))
                clear hno
                go_wp2
                all_goals ((try simp only [Exit.inBlock, Exit.then]); exact post56 rfl rfl (by simp) (by simp) ⟨readOut HNO.out, (Below.refl _ _).alloc (Nat.le_refl _) _⟩)
              · clear hno
                by_cases c3 : -(m : Int) < (-9223372036854775808 + ((s[k].toNat : Int) - 48)).tdiv 10
                · have HNO : Aside (ReadSays s ⟨#[]⟩ 0 false) := ⟨readSays_no fun n h0 h1 e => by
                    rw [refuse_eq _ (by omega) (by omega)] at c3
                    have h2 := hD.out n h0 h1 e
                    have h3 := worth_bound h0 h1 e k
                    omega⟩
                  go_wp2
                  all_goals ((try simp only [Exit.inBlock, Exit.then]); exact post56 rfl rfl (by simp) (by simp) ⟨readOut HNO.out, (Below.refl _ _).alloc (Nat.le_refl _) _⟩)
                · have hrange : 10 * m + (s[k].toNat - 48) ≤ 9223372036854775808 := by rw [refuse_eq _ (by omega) (by omega)] at c3; omega
                  have HS : Aside (NegSays s (k + 1) (10 * m + (s[k].toNat - 48))) := ⟨fun n h0 h1 e => by rw [hD.out n h0 h1 e, worth_succ s k hlt]⟩
                  go_wp2
                  refine ⟨⟨k + 1, 10 * m + (s[k].toNat - 48), by omega, by congr 1, by congr 1; omega, hrange, HS⟩, by simp [intOf]; omega⟩
          · have hk2 : k = s.size := by omega
            subst hk2
            have hm2 : -9223372036854775808 ≤ (-(m : Int)) := by omega
            have HC := Aside.mk fun w2 => number_all (-(m : Int)) (by omega) (by omega) w2
            by_cases hq : Lib.itoa (-(m : Int)) = s.toList
            · have HNO : Aside (ReadSays s ⟨#[]⟩ (-(m : Int)) true) := ⟨fun n h0 h1 e => absurd e (HV.out n h0 h1)⟩
              have hqb : (Lib.itoa (-(m : Int)) == s.toList) = true := beq_iff_eq.mpr hq
              clear hq
              go_wp2_with (go_at_call 59; refine (HC.out _).mono ?_; rintro e w2 ⟨rfl, hb⟩; obtain ⟨c0, c1, f0, f1⟩ := cells56 hb; have HB := Aside.mk (below56 hb); clear hb; dsimp only)
              all_goals ((try simp only [Exit.inBlock, Exit.then]); exact post56 rfl rfl (by simp [go_sem, c0, c1]) (by simp [go_sem, c0, c1]) ⟨readOut HNO.out, (HB.out.setCell (by simp) _).setCell (by simp) _⟩)
            · have HNO : Aside (ReadSays s ⟨#[]⟩ 0 false) := ⟨fun n h0 h1 e => absurd e (HV.out n h0 h1)⟩
              have hqb : (Lib.itoa (-(m : Int)) == s.toList) = false := beq_eq_false_iff_ne.mpr hq
              clear hq
              go_wp2_with (go_at_call 59; refine (HC.out _).mono ?_; rintro e w2 ⟨rfl, hb⟩; obtain ⟨c0, c1, f0, f1⟩ := cells56 hb; have HB := Aside.mk (below56 hb); clear hb; dsimp only)
              all_goals ((try simp only [Exit.inBlock, Exit.then]); exact post56 rfl rfl (by simp [go_sem, c0, c1]) (by simp [go_sem, c0, c1]) ⟨readOut HNO.out, (HB.out.setCell (by simp) _).setCell (by simp) _⟩)
    · have hz2 : ((s[0].toNat : Int) == 45) = false := beq_eq_false_iff_ne.mpr hz
      have hsz0 : ((s.size : Int) == 0) = false := beq_eq_false_iff_ne.mpr (by omega)
      clear hz
      go_enter Tryz.func56, Tryz.ntmps56
      go_wp2_with (go_at_call 37; refine (refName_calls _ _ hm).mono ?_; rintro e w' ⟨rfl, hw⟩; rw [hw, HN.out]; clear hw)
      clear hz2 hsz0
      go_loop [5, 6] (fun nv iv => ∃ k m : Nat, k ≤ s.size ∧ iv = .int .i64 k ∧ nv = .int .i64 (-(m : Int)) ∧ m ≤ 9223372036854775808 ∧ Aside (NegSays s k m)) (fun _ iv => s.size - (intOf iv).toNat)
      case atStart => exact ⟨0, 0, Nat.zero_le _, rfl, rfl, by omega, ⟨fun n h0 h1 e => by simp [worth]⟩⟩
      case round =>
        obtain ⟨k, m, hk, rfl, rfl, hm63, hD⟩ := hrel
        by_cases hlt : k < s.size
        · have hno : (s[k].toNat < 48 ∨ 57 < s[k].toNat) → Aside (ReadSays s ⟨#[]⟩ 0 false) := fun h => ⟨readSays_no fun n h0 h1 e => by
            have := itoa_digit h0 e k hlt
            omega⟩
          have hbyte : s[k].toNat < 256 := s[k].toNat_lt
          by_cases c1 : (s[k].toNat : Int) - 48 < 0
          · have HNO := hno (.inl (by omega))
            clear hno
            go_wp2
            all_goals ((try simp only [Exit.inBlock, Exit.then]); exact post56 rfl rfl (by simp) (by simp) ⟨readOut HNO.out, (Below.refl _ _).alloc (Nat.le_refl _) _⟩)
          · by_cases c2 : (9 : Int) < (s[k].toNat : Int) - 48
            · have HNO := hno (.inr (by omega))
              clear hno
              go_wp2
              all_goals ((try simp only [Exit.inBlock, Exit.then]); exact post56 rfl rfl (by simp) (by simp) ⟨readOut HNO.out, (Below.refl _ _).alloc (Nat.le_refl _) _⟩)
            · clear hno
              by_cases c3 : -(m : Int) < (-9223372036854775808 + ((s[k].toNat : Int) - 48)).tdiv 10
              · have HNO : Aside (ReadSays s ⟨#[]⟩ 0 false) := ⟨readSays_no fun n h0 h1 e => by
                  rw [refuse_eq _ (by omega) (by omega)] at c3
                  have h2 := hD.out n h0 h1 e
                  have h3 := worth_bound h0 h1 e k
                  omega⟩
                go_wp2
                all_goals ((try simp only [Exit.inBlock, Exit.then]); exact post56 rfl rfl (by simp) (by simp) ⟨readOut HNO.out, (Below.refl _ _).alloc (Nat.le_refl _) _⟩)
              · have hrange : 10 * m + (s[k].toNat - 48) ≤ 9223372036854775808 := by rw [refuse_eq _ (by omega) (by omega)] at c3; omega
                have HS : Aside (NegSays s (k + 1) (10 * m + (s[k].toNat - 48))) := ⟨fun n h0 h1 e => by rw [hD.out n h0 h1 e, worth_succ s k hlt]⟩
                go_wp2
                refine ⟨⟨k + 1, 10 * m + (s[k].toNat - 48), by omega, by congr 1, by congr 1; omega, hrange, HS⟩, by simp [intOf]; omega⟩
        · have hk2 : k = s.size := by omega
          subst hk2
          have hend : ∀ n : Int, 0 ≤ n → n ≤ 1099511627776 → dl s = Lib.itoa n → (m : Int) = n := fun n h0 h1 e => by
            rw [hD.out n h0 h1 e, show (dl s).take s.size = dl s from List.take_of_length_le (Nat.le_refl _)]
            exact worth_all h0 e
          have HE := Aside.mk hend
          clear hend
          by_cases hmm : m = 9223372036854775808
          · have HNO : Aside (ReadSays s ⟨#[]⟩ 0 false) := ⟨readSays_no fun n h0 h1 e => by have := HE.out n h0 h1 e; omega⟩
            have hm2 : (-(m : Int)) = -9223372036854775808 := by omega
            rw [hm2]
            clear hm2 hmm hD
            go_wp2
            all_goals ((try simp only [Exit.inBlock, Exit.then]); exact post56 rfl rfl (by simp) (by simp) ⟨readOut HNO.out, (Below.refl _ _).alloc (Nat.le_refl _) _⟩)
          · have hm2 : ((-(m : Int)) == -9223372036854775808) = false := beq_eq_false_iff_ne.mpr (by omega)
            have hm3 : (m : Int) ≤ 9223372036854775807 := by omega
            have HC := Aside.mk fun w2 => number_all (m : Int) (by omega) (by omega) w2
            by_cases hq : Lib.itoa (m : Int) = s.toList
            · have HNO : Aside (ReadSays s ⟨#[]⟩ (m : Int) true) := ⟨fun n h0 h1 e => ⟨rfl, HE.out n h0 h1 e, rfl⟩⟩
              have hqb : (Lib.itoa (m : Int) == s.toList) = true := beq_iff_eq.mpr hq
              clear hq hmm
              go_wp2_with (go_at_call 59; refine (HC.out _).mono ?_; rintro e w2 ⟨rfl, hb⟩; obtain ⟨c0, c1, f0, f1⟩ := cells56 hb; have HB := Aside.mk (below56 hb); clear hb; dsimp only)
              all_goals ((try simp only [Exit.inBlock, Exit.then]); exact post56 rfl rfl (by simp [go_sem, c0, c1]) (by simp [go_sem, c0, c1]) ⟨readOut HNO.out, (HB.out.setCell (by simp) _).setCell (by simp) _⟩)
            · have HNO : Aside (ReadSays s ⟨#[]⟩ 0 false) := ⟨readSays_no fun n h0 h1 e => hq (by rw [HE.out n h0 h1 e, ← e, ByteArray.toList_eq])⟩
              have hqb : (Lib.itoa (m : Int) == s.toList) = false := beq_eq_false_iff_ne.mpr hq
              clear hq hmm
              go_wp2_with (go_at_call 59; refine (HC.out _).mono ?_; rintro e w2 ⟨rfl, hb⟩; obtain ⟨c0, c1, f0, f1⟩ := cells56 hb; have HB := Aside.mk (below56 hb); clear hb; dsimp only)
              all_goals ((try simp only [Exit.inBlock, Exit.then]); exact post56 rfl rfl (by simp [go_sem, c0, c1]) (by simp [go_sem, c0, c1]) ⟨readOut HNO.out, (HB.out.setCell (by simp) _).setCell (by simp) _⟩)
/-- What word does: it hands the number back, or a number below every other, and there was none. -/
def WordOut (s : ByteArray) (e : Ending) : Prop := ∃ v r, e = .returned (.tuple #[.int .i64 v, .string r]) ∧ r.size ≤ s.size ∧ ((0 ≤ v ∧ v ≤ 1099511627776 ∧ NumSays s v r) ∨ (v = -1 ∧ NumNot s))
def No32 (s : ByteArray) (k : Nat) : Prop := ∀ j (h : j < s.size), j < k → ¬ (s[j].toNat : Int) = 32
theorem no32_succ {s : ByteArray} {k : Nat} (h : k < s.size) (ho : No32 s k) (hc : ¬ (s[k].toNat : Int) = 32) : No32 s (k + 1) := fun j hj hjk => by
  by_cases e : j = k
  · subst e; exact hc
  · exact ho j hj (by omega)
theorem no32_take {s : ByteArray} {k : Nat} (hk : k ≤ s.size) (ho : No32 s k) : (32 : UInt8) ∉ (dl s).take k := fun h => by
  obtain ⟨j, hj, e⟩ := List.mem_iff_getElem.1 h
  have hlen : (dl s).length = s.size := rfl
  rw [List.length_take] at hj
  rw [List.getElem_take] at e
  have h1 : s[j]'(by omega) = 32 := e
  exact ho j (by omega) (by omega) (by rw [h1]; rfl)
theorem word_cut {s : ByteArray} {k : Nat} (hk : k < s.size) (ho : No32 s k) (hc : (s[k].toNat : Int) = 32) :
    s.extract 0 k = ⟨(Lib.cut (dl s) [32]).1.toArray⟩ ∧ s.extract (k + 1) s.size = ⟨(Lib.cut (dl s) [32]).2.1.toArray⟩ := by
  have hlen : (dl s).length = s.size := rfl
  have hs : dl s = (dl s).take k ++ 32 :: (dl s).drop (k + 1) := by
    conv => lhs; rw [← List.take_append_drop k (dl s)]
    congr 1
    rw [List.drop_eq_getElem_cons (by omega)]
    congr 1
    show s[k] = 32
    exact UInt8.toNat.inj (show s[k].toNat = 32 by omega)
  have hcut := cut_at _ ((dl s).drop (k + 1)) (no32_take (by omega) ho)
  rw [← hs] at hcut
  rw [hcut]
  constructor
  · apply ByteArray.ext
    apply Array.toList_inj.1
    simp [dl]
  · apply ByteArray.ext
    apply Array.toList_inj.1
    simp [dl]
    exact List.take_of_length_le (by simp)
theorem word_whole {s : ByteArray} (ho : No32 s s.size) :
    s.extract 0 s.size = ⟨(Lib.cut (dl s) [32]).1.toArray⟩ ∧ (⟨#[]⟩ : ByteArray) = ⟨(Lib.cut (dl s) [32]).2.1.toArray⟩ := by
  have hlen : (dl s).length = s.size := rfl
  have h := no32_take (Nat.le_refl _) ho
  rw [show (dl s).take s.size = dl s from List.take_of_length_le (Nat.le_refl _)] at h
  rw [cut_no _ h]
  exact ⟨by simp [dl], rfl⟩
theorem wcases (sym : ByteArray) (num : Int) (ok : Bool) : ok = false ∨ (ok = true ∧ (0 : Int) < sym.size) ∨ (ok = true ∧ sym = ⟨#[]⟩ ∧ num < 0) ∨ (ok = true ∧ sym = ⟨#[]⟩ ∧ 0 ≤ num ∧ 1099511627776 < num) ∨ (ok = true ∧ sym = ⟨#[]⟩ ∧ 0 ≤ num ∧ num ≤ 1099511627776) := by
  cases ok with
  | false => exact .inl rfl
  | true =>
    by_cases hs : sym.size = 0
    · have he : sym = ⟨#[]⟩ := ByteArray.ext (Array.eq_empty_of_size_eq_zero hs)
      by_cases h0 : num < 0
      · exact .inr (.inr (.inl ⟨rfl, he, h0⟩))
      · by_cases h1 : 1099511627776 < num
        · exact .inr (.inr (.inr (.inl ⟨rfl, he, by omega, h1⟩)))
        · exact .inr (.inr (.inr (.inr ⟨rfl, he, by omega, by omega⟩)))
    · exact .inr (.inl ⟨rfl, by omega⟩)
set_option maxRecDepth 100000 in
set_option maxHeartbeats 8000000 in
theorem word32 (s : ByteArray) (w : World) (hs : s.size ≤ 1000000) :
    Calls Tryz.prog 32 #[.string s] w fun e w' => WordOut s e ∧ Below w.heap.size w w' := by
  go_enter Tryz.func32, Tryz.ntmps32
  go_wp2
  go_loop [4] (fun i => ∃ k : Nat, k ≤ s.size ∧ i = .int .i64 k ∧ No32 s k) (fun i => s.size - (intOf i).toNat)
  case atStart => exact ⟨0, Nat.zero_le _, rfl, fun j _ hj => absurd hj (by omega)⟩
  case round =>
    obtain ⟨k, hk, rfl, ho⟩ := hrel
    by_cases hlt : k < s.size
    · by_cases c : (s[k].toNat : Int) = 32
      · have hw := word_cut hlt ho c
        have hE1 : (s.extract 0 k).size ≤ 1000000 := by rw [ByteArray.size_extract]; omega
        have hE2 : (s.extract (k + 1) s.size).size ≤ s.size := by rw [ByteArray.size_extract]; omega
        obtain ⟨word, hword⟩ : ∃ word : ByteArray, word = s.extract 0 k := ⟨_, rfl⟩
        rw [← hword] at hw hE1
        have HW := Aside.mk hw
        have d : ((s[k].toNat : Int) == 32) = true := beq_iff_eq.mpr c
        clear ho c hw
        go_wp2_with (go_at_call 56; rw [← hword]; refine (refRead_calls word _ hE1).mono ?_; rintro e w2 ⟨⟨sym, num, ok, rfl, hR⟩, hb⟩; have HR := Aside.mk hR; clear hR; rcases wcases sym num ok with rfl | ⟨rfl, hp⟩ | ⟨rfl, rfl, hp⟩ | ⟨rfl, rfl, hp0, hp⟩ | ⟨rfl, rfl, hp0, hp1⟩)
        all_goals first
          | (go_ret2; exact ⟨⟨_, _, rfl, Nat.zero_le _, .inr ⟨rfl, numNot_of HW.out.1 HR.out (fun m h0 h1 hx => by
              obtain ⟨e1, e2, e3⟩ := hx
              try subst e1
              first
                | omega
                | contradiction
                | (simp at *; done))⟩⟩, hb.alloc (by have := hb.size; exact this) _⟩)
          | skip
        all_goals (
          refine wp_region_held_drew (S := fun w' => w' = (w2.alloc (.cells #[.string ⟨#[]⟩, .int .i64 num] 89)).drew) (by kernel_rfl) rfl (fun hHeld => ?_)
          refine wpAnyH_take (i := 0) (oi := _) (v := .pointer (some ⟨w2.heap.size, 1, none⟩)) rfl (by kernel_rfl) (by kernel_rfl) (by kernel_rfl) (fun _ _ _ h => h) (Or.inl ⟨by rfl, fun w hSw => by (subst hSw; clear hHeld; go_simp; try (intro hx; omega))⟩) hHeld ?_
          try dsimp only [Act.put, List.getElem_toArray, List.getElem_cons_zero, List.getElem_cons_succ]
          try simp only [Act.put, List.setIfInBounds_toArray, List.set_cons_zero, List.set_cons_succ]
          refine wpAnyH_take (i := 1) (oi := _) (v := .int .i64 num) rfl (by kernel_rfl) (by kernel_rfl) (by kernel_rfl) (fun _ _ _ h => h) (Or.inl ⟨by rfl, fun w hSw => by (subst hSw; clear hHeld; go_simp; try (intro hx; omega))⟩) hHeld ?_
          try dsimp only [Act.put, List.getElem_toArray, List.getElem_cons_zero, List.getElem_cons_succ]
          try simp only [Act.put, List.setIfInBounds_toArray, List.set_cons_zero, List.set_cons_succ]
          refine wpAnyH_take (i := 2) (oi := _) (v := .string s) rfl (by kernel_rfl) (by kernel_rfl) (by kernel_rfl) (fun _ _ _ h => h) (Or.inl ⟨by rfl, fun w hSw => by (subst hSw; clear hHeld; go_simp; try (intro hx; omega))⟩) hHeld ?_
          try dsimp only [Act.put, List.getElem_toArray, List.getElem_cons_zero, List.getElem_cons_succ]
          try simp only [Act.put, List.setIfInBounds_toArray, List.set_cons_zero, List.set_cons_succ]
          refine wpAnyH_take (i := 3) (oi := _) (v := .int .i64 ((k : Int) + 1)) rfl (by kernel_rfl) (by kernel_rfl) (by kernel_rfl) (fun _ _ _ h => h) (Or.inl ⟨by rfl, fun w hSw => by (subst hSw; clear hHeld; go_simp; try (intro hx; omega))⟩) hHeld ?_
          try dsimp only [Act.put, List.getElem_toArray, List.getElem_cons_zero, List.getElem_cons_succ]
          try simp only [Act.put, List.setIfInBounds_toArray, List.set_cons_zero, List.set_cons_succ]
          refine wpAnyH_take (i := 4) (oi := _) (v := .string (s.extract (k + 1) s.size)) rfl (by kernel_rfl) (by kernel_rfl) (by kernel_rfl) (fun _ _ _ h => h) (Or.inl ⟨by rfl, fun w hSw => by (subst hSw; clear hHeld; go_simp; try (intro hx; omega))⟩) hHeld ?_
          try dsimp only [Act.put, List.getElem_toArray, List.getElem_cons_zero, List.getElem_cons_succ]
          try simp only [Act.put, List.setIfInBounds_toArray, List.set_cons_zero, List.set_cons_succ]
          refine wpAnyH_take (i := 5) (oi := _) (v := .int .i64 num) rfl (by kernel_rfl) (by kernel_rfl) (by kernel_rfl) (fun _ _ _ h => h) (Or.inl ⟨by rfl, fun w hSw => by (subst hSw; clear hHeld; go_simp; try (intro hx; omega))⟩) hHeld ?_
          try dsimp only [Act.put, List.getElem_toArray, List.getElem_cons_zero, List.getElem_cons_succ]
          try simp only [Act.put, List.setIfInBounds_toArray, List.set_cons_zero, List.set_cons_succ]
          refine wpAnyH_take (i := 6) (oi := _) (v := .string (s.extract (k + 1) s.size)) rfl (by kernel_rfl) (by kernel_rfl) (by kernel_rfl) (fun _ _ _ h => h) (Or.inl ⟨by rfl, fun w hSw => by (subst hSw; clear hHeld; go_simp; try (intro hx; omega))⟩) hHeld ?_
          try dsimp only [Act.put, List.getElem_toArray, List.getElem_cons_zero, List.getElem_cons_succ]
          try simp only [Act.put, List.setIfInBounds_toArray, List.set_cons_zero, List.set_cons_succ]
          refine wpAnyH_done (by kernel_rfl) ?_ _
          go_wp2
          go_ret2
          exact ⟨⟨_, _, rfl, hE2, .inl ⟨by omega, by omega, numSays_of HW.out.1 HW.out.2 HR.out⟩⟩, (hb.alloc (by have := hb.size; exact this) _).drew⟩)
      · have HN : Aside (No32 s (k + 1)) := ⟨no32_succ hlt ho c⟩
        have d : ((s[k].toNat : Int) == 32) = false := beq_eq_false_iff_ne.mpr c
        clear ho c
        go_wp2
        go_round
        case rel => exact ⟨k + 1, by omega, by go_num, HN.out⟩
        case measure => simp [intOf]; omega
    · have hk2 : k = s.size := by omega
      subst hk2
      have hw := word_whole ho
      rw [show s.extract 0 s.size = s by apply ByteArray.ext; simp] at hw
      have hE2 : (⟨#[]⟩ : ByteArray).size ≤ s.size := Nat.zero_le _
      have HW := Aside.mk hw
      clear ho hw
      go_wp2_with (go_at_call 56; refine (refRead_calls s _ hs).mono ?_; rintro e w2 ⟨⟨sym, num, ok, rfl, hR⟩, hb⟩; have HR := Aside.mk hR; clear hR; rcases wcases sym num ok with rfl | ⟨rfl, hp⟩ | ⟨rfl, rfl, hp⟩ | ⟨rfl, rfl, hp0, hp⟩ | ⟨rfl, rfl, hp0, hp1⟩)
      all_goals first
          | (go_ret2; exact ⟨⟨_, _, rfl, hE2, .inl ⟨by omega, by omega, numSays_of HW.out.1 HW.out.2 HR.out⟩⟩, hb.alloc (by have := hb.size; exact this) _⟩)
          | (go_ret2; exact ⟨⟨_, _, rfl, Nat.zero_le _, .inr ⟨rfl, numNot_of HW.out.1 HR.out (fun m h0 h1 hx => by
              obtain ⟨e1, e2, e3⟩ := hx
              try subst e1
              first
                | omega
                | contradiction
                | (simp at *; done))⟩⟩, hb.alloc (by have := hb.size; exact this) _⟩)
noncomputable def body16 : Code := Tryz.f16.body.getD .skip
abbrev zS : St := ⟨0, eB, eB, false, 0, 0⟩
theorem post16 {R : Ending → World → Prop} {tmps : Array Value} {b : Nat} {x : St} {ok : Bool} {w : World} (h2 : tmps.getD 2 undef = .pointer (some ⟨b, 0, none⟩)) (h3 : tmps.getD 3 undef = .bool ok)
    (c0 : w.cell? ⟨b, 0, none⟩ = some (.int .u8 x.k)) (c1 : w.cell? ⟨b, 1, none⟩ = some (.string x.u)) (c2 : w.cell? ⟨b, 2, none⟩ = some (.string x.t)) (c3 : w.cell? ⟨b, 3, none⟩ = some (.bool x.f)) (c4 : w.cell? ⟨b, 4, none⟩ = some (.int .i64 x.n)) (c5 : w.cell? ⟨b, 5, none⟩ = some (.int .i64 x.p)) (hR : R (.returned (.tuple #[aggS x, .bool ok])) w) :
    bodyPost Tryz.prog Tryz.f16 R .ret { tmps := tmps, defers := [] } w := by
  refine bodyPost_ret (v := .tuple #[aggS x, .bool ok]) ?_ rfl hR
  show (results Tryz.f16 tmps).run Tryz.prog w = _
  rw [results_cell_tmp (ty := 32) (p := 2) (u := 3) rfl, h2, h3]
  simp [go_sem, c0, c1, c2, c3, c4, c5, loadVar, asAddr, Tryz.underlying32]
/-- The world while Step runs: its answer's step lies in a block of its own, the step that it builds in the next. -/
structure At16 (w0 W : World) (x : St) : Prop where
  below : Below w0.heap.size w0 W
  cells : CellsAt W (w0.heap.size + 1) 0 x
  res : CellsAt W w0.heap.size 0 zS
  frA : ∀ j, W.frozen? ⟨w0.heap.size + 1, j, none⟩ = false
  frB : ∀ j, W.frozen? ⟨w0.heap.size, j, none⟩ = false
theorem cells_below2 {W W' : World} {b : Nat} {x : St} (h : CellsAt W b 0 x) (hA : b < W.heap.size) (hb : Below W.heap.size W W') : CellsAt W' b 0 x := by
  obtain ⟨c0, c1, c2, c3, c4, c5⟩ := h
  exact ⟨(hb.cell hA).trans c0, (hb.cell hA).trans c1, (hb.cell hA).trans c2, (hb.cell hA).trans c3, (hb.cell hA).trans c4, (hb.cell hA).trans c5⟩
theorem At16.step {w0 W W' : World} {x : St} (h : At16 w0 W x) (hb : Below W.heap.size W W') : At16 w0 W' x := by
  have hA : w0.heap.size + 1 < W.heap.size := World.block_lt_of_cell? _ _ h.cells.1
  exact ⟨h.below.trans (hb.mono (by omega)), cells_below2 h.cells hA hb, cells_below2 h.res (by omega) hb, fun j => (hb.frozen hA).trans (h.frA j), fun j => (hb.frozen (show w0.heap.size < W.heap.size by omega)).trans (h.frB j)⟩
def S16 (w0 : World) (x : St) (W : World) : Prop := W.cell? ⟨w0.heap.size + 1, 0, none⟩ = some (.int .u8 x.k) ∧ W.cell? ⟨w0.heap.size + 1, 1, none⟩ = some (.string x.u) ∧ W.cell? ⟨w0.heap.size + 1, 2, none⟩ = some (.string x.t) ∧ W.cell? ⟨w0.heap.size + 1, 3, none⟩ = some (.bool x.f) ∧ W.cell? ⟨w0.heap.size + 1, 4, none⟩ = some (.int .i64 x.n) ∧ W.cell? ⟨w0.heap.size + 1, 5, none⟩ = some (.int .i64 x.p) ∧ W.cell? ⟨w0.heap.size, 0, none⟩ = some (.int .u8 0) ∧ W.cell? ⟨w0.heap.size, 1, none⟩ = some (.string ⟨#[]⟩) ∧ W.cell? ⟨w0.heap.size, 2, none⟩ = some (.string ⟨#[]⟩) ∧ W.cell? ⟨w0.heap.size, 3, none⟩ = some (.bool false) ∧ W.cell? ⟨w0.heap.size, 4, none⟩ = some (.int .i64 0) ∧ W.cell? ⟨w0.heap.size, 5, none⟩ = some (.int .i64 0) ∧ W.frozen? ⟨w0.heap.size + 1, 0, none⟩ = false ∧ W.frozen? ⟨w0.heap.size + 1, 1, none⟩ = false ∧ W.frozen? ⟨w0.heap.size + 1, 2, none⟩ = false ∧ W.frozen? ⟨w0.heap.size + 1, 3, none⟩ = false ∧ W.frozen? ⟨w0.heap.size + 1, 4, none⟩ = false ∧ W.frozen? ⟨w0.heap.size + 1, 5, none⟩ = false ∧ W.frozen? ⟨w0.heap.size, 0, none⟩ = false ∧ W.frozen? ⟨w0.heap.size, 1, none⟩ = false ∧ W.frozen? ⟨w0.heap.size, 2, none⟩ = false ∧ W.frozen? ⟨w0.heap.size, 3, none⟩ = false ∧ W.frozen? ⟨w0.heap.size, 4, none⟩ = false ∧ W.frozen? ⟨w0.heap.size, 5, none⟩ = false
theorem s16_of {w0 W : World} {x : St} (h : At16 w0 W x) : S16 w0 x W := by
  have hc := h.cells
  have hr := h.res
  unfold CellsAt at hc hr
  simp only [Nat.zero_add] at hc hr
  obtain ⟨c0, c1, c2, c3, c4, c5⟩ := hc
  obtain ⟨d0, d1, d2, d3, d4, d5⟩ := hr
  exact ⟨c0, c1, c2, c3, c4, c5, d0, d1, d2, d3, d4, d5, h.frA 0, h.frA 1, h.frA 2, h.frA 3, h.frA 4, h.frA 5, h.frB 0, h.frB 1, h.frB 2, h.frB 3, h.frB 4, h.frB 5⟩
theorem At16.kind {w0 W : World} {x : St} (h : At16 w0 W x) (k : Int) : At16 w0 (W.setCell ⟨w0.heap.size + 1, 0, none⟩ (.int .u8 k)) { x with k := k } := by
  obtain ⟨hb, ⟨c0, c1, c2, c3, c4, c5⟩, ⟨d0, d1, d2, d3, d4, d5⟩, fA, fB⟩ := h
  simp only [Nat.zero_add] at c1 c2 c3 c4 c5 d1 d2 d3 d4 d5
  refine ⟨hb.setCell (by simp) _, ⟨?_, ?_, ?_, ?_, ?_, ?_⟩, ⟨?_, ?_, ?_, ?_, ?_, ?_⟩, fun j => ?_, fun j => ?_⟩
  all_goals simp [go_sem, c0, c1, c2, c3, c4, c5, d0, d1, d2, d3, d4, d5, fA, fB]
theorem At16.user {w0 W : World} {x : St} (h : At16 w0 W x) (u : ByteArray) : At16 w0 (W.setCell ⟨w0.heap.size + 1, 1, none⟩ (.string u)) { x with u := u } := by
  obtain ⟨hb, ⟨c0, c1, c2, c3, c4, c5⟩, ⟨d0, d1, d2, d3, d4, d5⟩, fA, fB⟩ := h
  simp only [Nat.zero_add] at c1 c2 c3 c4 c5 d1 d2 d3 d4 d5
  refine ⟨hb.setCell (by simp) _, ⟨?_, ?_, ?_, ?_, ?_, ?_⟩, ⟨?_, ?_, ?_, ?_, ?_, ?_⟩, fun j => ?_, fun j => ?_⟩
  all_goals simp [go_sem, c0, c1, c2, c3, c4, c5, d0, d1, d2, d3, d4, d5, fA, fB]
theorem At16.text {w0 W : World} {x : St} (h : At16 w0 W x) (t : ByteArray) : At16 w0 (W.setCell ⟨w0.heap.size + 1, 2, none⟩ (.string t)) { x with t := t } := by
  obtain ⟨hb, ⟨c0, c1, c2, c3, c4, c5⟩, ⟨d0, d1, d2, d3, d4, d5⟩, fA, fB⟩ := h
  simp only [Nat.zero_add] at c1 c2 c3 c4 c5 d1 d2 d3 d4 d5
  refine ⟨hb.setCell (by simp) _, ⟨?_, ?_, ?_, ?_, ?_, ?_⟩, ⟨?_, ?_, ?_, ?_, ?_, ?_⟩, fun j => ?_, fun j => ?_⟩
  all_goals simp [go_sem, c0, c1, c2, c3, c4, c5, d0, d1, d2, d3, d4, d5, fA, fB]
theorem At16.fail {w0 W : World} {x : St} (h : At16 w0 W x) (f : Bool) : At16 w0 (W.setCell ⟨w0.heap.size + 1, 3, none⟩ (.bool f)) { x with f := f } := by
  obtain ⟨hb, ⟨c0, c1, c2, c3, c4, c5⟩, ⟨d0, d1, d2, d3, d4, d5⟩, fA, fB⟩ := h
  simp only [Nat.zero_add] at c1 c2 c3 c4 c5 d1 d2 d3 d4 d5
  refine ⟨hb.setCell (by simp) _, ⟨?_, ?_, ?_, ?_, ?_, ?_⟩, ⟨?_, ?_, ?_, ?_, ?_, ?_⟩, fun j => ?_, fun j => ?_⟩
  all_goals simp [go_sem, c0, c1, c2, c3, c4, c5, d0, d1, d2, d3, d4, d5, fA, fB]
theorem At16.units {w0 W : World} {x : St} (h : At16 w0 W x) (n : Int) : At16 w0 (W.setCell ⟨w0.heap.size + 1, 4, none⟩ (.int .i64 n)) { x with n := n } := by
  obtain ⟨hb, ⟨c0, c1, c2, c3, c4, c5⟩, ⟨d0, d1, d2, d3, d4, d5⟩, fA, fB⟩ := h
  simp only [Nat.zero_add] at c1 c2 c3 c4 c5 d1 d2 d3 d4 d5
  refine ⟨hb.setCell (by simp) _, ⟨?_, ?_, ?_, ?_, ?_, ?_⟩, ⟨?_, ?_, ?_, ?_, ?_, ?_⟩, fun j => ?_, fun j => ?_⟩
  all_goals simp [go_sem, c0, c1, c2, c3, c4, c5, d0, d1, d2, d3, d4, d5, fA, fB]
theorem At16.keep {w0 W : World} {x : St} (h : At16 w0 W x) (p : Int) : At16 w0 (W.setCell ⟨w0.heap.size + 1, 5, none⟩ (.int .i64 p)) { x with p := p } := by
  obtain ⟨hb, ⟨c0, c1, c2, c3, c4, c5⟩, ⟨d0, d1, d2, d3, d4, d5⟩, fA, fB⟩ := h
  simp only [Nat.zero_add] at c1 c2 c3 c4 c5 d1 d2 d3 d4 d5
  refine ⟨hb.setCell (by simp) _, ⟨?_, ?_, ?_, ?_, ?_, ?_⟩, ⟨?_, ?_, ?_, ?_, ?_, ?_⟩, fun j => ?_, fun j => ?_⟩
  all_goals simp [go_sem, c0, c1, c2, c3, c4, c5, d0, d1, d2, d3, d4, d5, fA, fB]
set_option maxRecDepth 1000000 in
set_option maxHeartbeats 8000000 in
theorem step_end (s : ByteArray) (w0 W : World) (x : St) (v1 v5 v6 v7 v8 v9 v10 v11 v12 v13 v14 v15 v16 v17 v18 v19 v20 v21 v22 v23 v24 v25 v26 v27 v28 v29 v30 v31 v32 v33 v34 v35 v36 v37 v38 v39 v40 v41 v42 v43 v44 v45 v46 v47 v48 v49 v50 v51 v52 v53 v54 v55 v56 v57 v58 v59 v60 v61 v62 v63 v64 v65 v66 v67 v68 v69 v70 v71 v72 v73 v74 v75 v76 v77 v78 v79 v80 v81 : Value) (h : At16 w0 W x) (hx : XSays s x) (hu : x.u.size ≤ 1000000) (ht : x.t.size ≤ 1000000) :
    (rt 5 body16).wp Tryz.prog (bodyPost Tryz.prog Tryz.f16 fun e w' => ParseOut s e ∧ Below w0.heap.size w0 w') { tmps := #[.string s, v1, .pointer (some ⟨w0.heap.size, 0, none⟩), .bool false, .pointer (some ⟨w0.heap.size + 1, 0, none⟩), v5, v6, v7, v8, v9, v10, v11, v12, v13, v14, v15, v16, v17, v18, v19, v20, v21, v22, v23, v24, v25, v26, v27, v28, v29, v30, v31, v32, v33, v34, v35, v36, v37, v38, v39, v40, v41, v42, v43, v44, v45, v46, v47, v48, v49, v50, v51, v52, v53, v54, v55, v56, v57, v58, v59, v60, v61, v62, v63, v64, v65, v66, v67, v68, v69, v70, v71, v72, v73, v74, v75, v76, v77, v78, v79, v80, v81], defers := [] } W := by
  conv => arg 2; whnf
  have hm : x.u.size ≤ maxLen := maxLen_of hu
  have HX := Aside.mk hx
  have HH := Aside.mk h
  clear hx
  have HS := s16_of h
  clear h
  unfold S16 at HS
  obtain ⟨c0, c1, c2, c3, c4, c5, d0, d1, d2, d3, d4, d5, f0, f1, f2, f3, f4, f5, g0, g1, g2, g3, g4, g5⟩ := HS
  cases hg : goodS x with
  | false =>
    have hno : stepOf s = if false = true then some zS else none := by rw [stepOf_x HX.out, if_neg (fun hc => by rw [hg] at hc; cases hc.1)]; rfl
    have HNO := Aside.mk hno
    have HG := Aside.mk hg
    clear hno hg
    go_wp2_with (go_at_call 22; refine (refGood_calls x _ hm (by omega)).mono ?_; rintro e w1 ⟨rfl, hb⟩; rw [HG.out]; have H1 := Aside.mk (HH.out.step hb); clear hb c0 c1 c2 c3 c4 c5 d0 d1 d2 d3 d4 d5 f0 f1 f2 f3 f4 f5 g0 g1 g2 g3 g4 g5; have HS := s16_of H1.out; unfold S16 at HS; obtain ⟨c0, c1, c2, c3, c4, c5, d0, d1, d2, d3, d4, d5, f0, f1, f2, f3, f4, f5, g0, g1, g2, g3, g4, g5⟩ := HS; dsimp only)
    all_goals exact post16 (x := zS) rfl rfl (by simp [go_sem, d0, d1, d2, d3, d4, d5, eB]) (by simp [go_sem, d0, d1, d2, d3, d4, d5, eB]) (by simp [go_sem, d0, d1, d2, d3, d4, d5, eB]) (by simp [go_sem, d0, d1, d2, d3, d4, d5, eB]) (by simp [go_sem, d0, d1, d2, d3, d4, d5, eB]) (by simp [go_sem, d0, d1, d2, d3, d4, d5, eB]) ⟨⟨_, _, rfl, HNO.out⟩, (((((H1.out.below.setCell (by simp) _).setCell (by simp) _).setCell (by simp) _).setCell (by simp) _).setCell (by simp) _).setCell (by simp) _⟩
  | true =>
    obtain ⟨Y, hY⟩ : ∃ Y, lineS x = Y := ⟨_, rfl⟩
    have HR := Aside.mk (good_cases hg).1
    by_cases he : Y.toList = s.toList
    · have hyes : stepOf s = if true = true then some x else none := by rw [stepOf_x HX.out, if_pos ⟨hg, by rw [hY]; exact ba_ext (by rw [Lib.toList_data, Lib.toList_data] at he; exact he)⟩, if_pos rfl]
      have HYES := Aside.mk hyes
      have HG := Aside.mk hg
      have HY := Aside.mk hY
      have hb2 : (Y.toList == s.toList) = true := beq_iff_eq.mpr he
      clear hyes hg hY he
      go_wp2_with (first | (go_at_call 22; refine (refGood_calls x _ hm (by omega)).mono ?_; rintro e w1 ⟨rfl, hb⟩; rw [HG.out]; have H1 := Aside.mk (HH.out.step hb); clear hb c0 c1 c2 c3 c4 c5 d0 d1 d2 d3 d4 d5 f0 f1 f2 f3 f4 f5 g0 g1 g2 g3 g4 g5; have HS := s16_of H1.out; unfold S16 at HS; obtain ⟨c0, c1, c2, c3, c4, c5, d0, d1, d2, d3, d4, d5, f0, f1, f2, f3, f4, f5, g0, g1, g2, g3, g4, g5⟩ := HS; dsimp only) | (go_at_call 23; refine (rline_calls x _ HR.out hu ht).mono ?_; rintro e w2 ⟨rfl, hb⟩; rw [HY.out]; have H2 := Aside.mk (H1.out.step hb); clear hb c0 c1 c2 c3 c4 c5 d0 d1 d2 d3 d4 d5 f0 f1 f2 f3 f4 f5 g0 g1 g2 g3 g4 g5; have HS := s16_of H2.out; unfold S16 at HS; obtain ⟨c0, c1, c2, c3, c4, c5, d0, d1, d2, d3, d4, d5, f0, f1, f2, f3, f4, f5, g0, g1, g2, g3, g4, g5⟩ := HS; dsimp only))
      all_goals exact post16 (x := x) rfl rfl (by simp [go_sem, c0, c1, c2, c3, c4, c5, d0, d1, d2, d3, d4, d5, eB]) (by simp [go_sem, c0, c1, c2, c3, c4, c5, d0, d1, d2, d3, d4, d5, eB]) (by simp [go_sem, c0, c1, c2, c3, c4, c5, d0, d1, d2, d3, d4, d5, eB]) (by simp [go_sem, c0, c1, c2, c3, c4, c5, d0, d1, d2, d3, d4, d5, eB]) (by simp [go_sem, c0, c1, c2, c3, c4, c5, d0, d1, d2, d3, d4, d5, eB]) (by simp [go_sem, c0, c1, c2, c3, c4, c5, d0, d1, d2, d3, d4, d5, eB]) ⟨⟨_, _, rfl, HYES.out⟩, (((((H2.out.below.setCell (by simp) _).setCell (by simp) _).setCell (by simp) _).setCell (by simp) _).setCell (by simp) _).setCell (by simp) _⟩
    · have hno : stepOf s = if false = true then some zS else none := by rw [stepOf_x HX.out, if_neg (fun hc => he (by rw [← hY, hc.2]))]; rfl
      have HNO := Aside.mk hno
      have HG := Aside.mk hg
      have HY := Aside.mk hY
      have hb2 : (Y.toList == s.toList) = false := beq_eq_false_iff_ne.mpr he
      clear hno hg hY he
      go_wp2_with (first | (go_at_call 22; refine (refGood_calls x _ hm (by omega)).mono ?_; rintro e w1 ⟨rfl, hb⟩; rw [HG.out]; have H1 := Aside.mk (HH.out.step hb); clear hb c0 c1 c2 c3 c4 c5 d0 d1 d2 d3 d4 d5 f0 f1 f2 f3 f4 f5 g0 g1 g2 g3 g4 g5; have HS := s16_of H1.out; unfold S16 at HS; obtain ⟨c0, c1, c2, c3, c4, c5, d0, d1, d2, d3, d4, d5, f0, f1, f2, f3, f4, f5, g0, g1, g2, g3, g4, g5⟩ := HS; dsimp only) | (go_at_call 23; refine (rline_calls x _ HR.out hu ht).mono ?_; rintro e w2 ⟨rfl, hb⟩; rw [HY.out]; have H2 := Aside.mk (H1.out.step hb); clear hb c0 c1 c2 c3 c4 c5 d0 d1 d2 d3 d4 d5 f0 f1 f2 f3 f4 f5 g0 g1 g2 g3 g4 g5; have HS := s16_of H2.out; unfold S16 at HS; obtain ⟨c0, c1, c2, c3, c4, c5, d0, d1, d2, d3, d4, d5, f0, f1, f2, f3, f4, f5, g0, g1, g2, g3, g4, g5⟩ := HS; dsimp only))
      all_goals exact post16 (x := zS) rfl rfl (by simp [go_sem, d0, d1, d2, d3, d4, d5, eB]) (by simp [go_sem, d0, d1, d2, d3, d4, d5, eB]) (by simp [go_sem, d0, d1, d2, d3, d4, d5, eB]) (by simp [go_sem, d0, d1, d2, d3, d4, d5, eB]) (by simp [go_sem, d0, d1, d2, d3, d4, d5, eB]) (by simp [go_sem, d0, d1, d2, d3, d4, d5, eB]) ⟨⟨_, _, rfl, HNO.out⟩, (((((H2.out.below.setCell (by simp) _).setCell (by simp) _).setCell (by simp) _).setCell (by simp) _).setCell (by simp) _).setCell (by simp) _⟩
theorem crash_x {s r m q : ByteArray} {n p v : Int} (h : RestSays s r n p) (hc : Lib.hasPrefix (dl r) crashB = true) (hm : m = cutP r ⟨#[99, 114, 97, 115, 104, 32]⟩) (hv : (0 ≤ v ∧ v ≤ 1099511627776 ∧ NumSays m v q) ∨ (v = -1 ∧ NumNot m)) : XSays s ⟨4, eB, eB, false, n, v⟩ := by
  rcases hv with ⟨_, _, hv⟩ | ⟨_, hv⟩
  · exact x_crash h hc hm hv
  · exact fun y hg e => absurd e (crash_no h hc hm hv y hg)
set_option maxRecDepth 1000000 in
set_option maxHeartbeats 8000000 in
theorem step_tick (s r : ByteArray) (n p : Int) (w0 W : World) (v1 v6 v7 v8 v9 v10 v11 v12 v13 v14 v15 v16 v17 v18 v19 v20 v21 v22 v23 v24 v25 v26 v27 v28 v29 v30 v31 v32 v33 v34 v35 v36 v37 v38 v39 v40 v41 v42 v43 v44 v45 v46 v47 v48 v49 v50 v51 v52 v53 v54 v55 v56 v57 v58 v59 v60 v61 v62 v63 v64 v65 v66 v67 v68 v69 v70 v71 v72 v73 v74 v75 v76 v77 v78 v79 v80 v81 : Value) (h : At16 w0 W ⟨0, eB, eB, false, n, p⟩) (hr : RestSays s r n p) (hs : r.size ≤ 1000000) (hq : r.toList = [116, 105, 99, 107]) :
    (rt 4 body16).wp Tryz.prog (bodyPost Tryz.prog Tryz.f16 fun e w' => ParseOut s e ∧ Below w0.heap.size w0 w') { tmps := #[.string s, v1, .pointer (some ⟨w0.heap.size, 0, none⟩), .bool false, .pointer (some ⟨w0.heap.size + 1, 0, none⟩), .string r, v6, v7, v8, v9, v10, v11, v12, v13, v14, v15, v16, v17, v18, v19, v20, v21, v22, v23, v24, v25, v26, v27, v28, v29, v30, v31, v32, v33, v34, v35, v36, v37, v38, v39, v40, v41, v42, v43, v44, v45, v46, v47, v48, v49, v50, v51, v52, v53, v54, v55, v56, v57, v58, v59, v60, v61, v62, v63, v64, v65, v66, v67, v68, v69, v70, v71, v72, v73, v74, v75, v76, v77, v78, v79, v80, v81], defers := [] } W := by
  conv => arg 2; whnf
  have HR := Aside.mk hr
  have HH := Aside.mk h
  clear hr
  have HS := s16_of h
  clear h
  unfold S16 at HS
  obtain ⟨c0, c1, c2, c3, c4, c5, d0, d1, d2, d3, d4, d5, f0, f1, f2, f3, f4, f5, g0, g1, g2, g3, g4, g5⟩ := HS
  dsimp only at c0 c1 c2 c3 c4 c5
  refine wp_seq_k (fun K hK => ?_)
  have HK := Aside.mk hK
  clear hK
  have hq2 : dl r = tickB := (Lib.toList_data r).symm.trans hq
  have HQ := Aside.mk hq2
  have b1 : (r.toList == [116, 105, 99, 107]) = true := beq_iff_eq.mpr hq
  clear hq2 hq
  go_wp2
  exact HK.out _ _ (step_end s w0 _ ⟨2, eB, eB, false, n, p⟩ _ _ _ _ _ _ _ _ _ _ _ _ _ _ _ _ _ _ _ _ _ _ _ _ _ _ _ _ _ _ _ _ _ _ _ _ _ _ _ _ _ _ _ _ _ _ _ _ _ _ _ _ _ _ _ _ _ _ _ _ _ _ _ _ _ _ _ _ _ _ _ _ _ _ _ _ _ _ (HH.out.kind 2) (x_tick HR.out HQ.out) eB_size eB_size)
set_option maxRecDepth 1000000 in
set_option maxHeartbeats 8000000 in
theorem step_check (s r : ByteArray) (n p : Int) (w0 W : World) (v1 v6 v7 v8 v9 v10 v11 v12 v13 v14 v15 v16 v17 v18 v19 v20 v21 v22 v23 v24 v25 v26 v27 v28 v29 v30 v31 v32 v33 v34 v35 v36 v37 v38 v39 v40 v41 v42 v43 v44 v45 v46 v47 v48 v49 v50 v51 v52 v53 v54 v55 v56 v57 v58 v59 v60 v61 v62 v63 v64 v65 v66 v67 v68 v69 v70 v71 v72 v73 v74 v75 v76 v77 v78 v79 v80 v81 : Value) (h : At16 w0 W ⟨0, eB, eB, false, n, p⟩) (hr : RestSays s r n p) (hs : r.size ≤ 1000000) (hq : r.toList = [99, 104, 101, 99, 107, 112, 111, 105, 110, 116]) :
    (rt 4 body16).wp Tryz.prog (bodyPost Tryz.prog Tryz.f16 fun e w' => ParseOut s e ∧ Below w0.heap.size w0 w') { tmps := #[.string s, v1, .pointer (some ⟨w0.heap.size, 0, none⟩), .bool false, .pointer (some ⟨w0.heap.size + 1, 0, none⟩), .string r, v6, v7, v8, v9, v10, v11, v12, v13, v14, v15, v16, v17, v18, v19, v20, v21, v22, v23, v24, v25, v26, v27, v28, v29, v30, v31, v32, v33, v34, v35, v36, v37, v38, v39, v40, v41, v42, v43, v44, v45, v46, v47, v48, v49, v50, v51, v52, v53, v54, v55, v56, v57, v58, v59, v60, v61, v62, v63, v64, v65, v66, v67, v68, v69, v70, v71, v72, v73, v74, v75, v76, v77, v78, v79, v80, v81], defers := [] } W := by
  conv => arg 2; whnf
  have HR := Aside.mk hr
  have HH := Aside.mk h
  clear hr
  have HS := s16_of h
  clear h
  unfold S16 at HS
  obtain ⟨c0, c1, c2, c3, c4, c5, d0, d1, d2, d3, d4, d5, f0, f1, f2, f3, f4, f5, g0, g1, g2, g3, g4, g5⟩ := HS
  dsimp only at c0 c1 c2 c3 c4 c5
  refine wp_seq_k (fun K hK => ?_)
  have HK := Aside.mk hK
  clear hK
  have hq2 : dl r = checkB := (Lib.toList_data r).symm.trans hq
  have HQ := Aside.mk hq2
  have b1 : (r.toList == [116, 105, 99, 107]) = false := by rw [hq]; rfl
  have b2 : (r.toList == [99, 104, 101, 99, 107, 112, 111, 105, 110, 116]) = true := beq_iff_eq.mpr hq
  clear hq2 hq
  go_wp2
  exact HK.out _ _ (step_end s w0 _ ⟨3, eB, eB, false, n, p⟩ _ _ _ _ _ _ _ _ _ _ _ _ _ _ _ _ _ _ _ _ _ _ _ _ _ _ _ _ _ _ _ _ _ _ _ _ _ _ _ _ _ _ _ _ _ _ _ _ _ _ _ _ _ _ _ _ _ _ _ _ _ _ _ _ _ _ _ _ _ _ _ _ _ _ _ _ _ _ (HH.out.kind 3) (x_check HR.out HQ.out) eB_size eB_size)
set_option maxRecDepth 1000000 in
set_option maxHeartbeats 8000000 in
theorem step_crash (s r : ByteArray) (n p : Int) (w0 W : World) (v1 v6 v7 v8 v9 v10 v11 v12 v13 v14 v15 v16 v17 v18 v19 v20 v21 v22 v23 v24 v25 v26 v27 v28 v29 v30 v31 v32 v33 v34 v35 v36 v37 v38 v39 v40 v41 v42 v43 v44 v45 v46 v47 v48 v49 v50 v51 v52 v53 v54 v55 v56 v57 v58 v59 v60 v61 v62 v63 v64 v65 v66 v67 v68 v69 v70 v71 v72 v73 v74 v75 v76 v77 v78 v79 v80 v81 : Value) (h : At16 w0 W ⟨0, eB, eB, false, n, p⟩) (hr : RestSays s r n p) (hs : r.size ≤ 1000000) (h1 : ¬ r.toList = [116, 105, 99, 107]) (h2 : ¬ r.toList = [99, 104, 101, 99, 107, 112, 111, 105, 110, 116]) (hc : Lib.hasPrefix (dl r) crashB = true) :
    (rt 4 body16).wp Tryz.prog (bodyPost Tryz.prog Tryz.f16 fun e w' => ParseOut s e ∧ Below w0.heap.size w0 w') { tmps := #[.string s, v1, .pointer (some ⟨w0.heap.size, 0, none⟩), .bool false, .pointer (some ⟨w0.heap.size + 1, 0, none⟩), .string r, v6, v7, v8, v9, v10, v11, v12, v13, v14, v15, v16, v17, v18, v19, v20, v21, v22, v23, v24, v25, v26, v27, v28, v29, v30, v31, v32, v33, v34, v35, v36, v37, v38, v39, v40, v41, v42, v43, v44, v45, v46, v47, v48, v49, v50, v51, v52, v53, v54, v55, v56, v57, v58, v59, v60, v61, v62, v63, v64, v65, v66, v67, v68, v69, v70, v71, v72, v73, v74, v75, v76, v77, v78, v79, v80, v81], defers := [] } W := by
  conv => arg 2; whnf
  have HR := Aside.mk hr
  have HH := Aside.mk h
  clear hr
  have HS := s16_of h
  clear h
  unfold S16 at HS
  obtain ⟨c0, c1, c2, c3, c4, c5, d0, d1, d2, d3, d4, d5, f0, f1, f2, f3, f4, f5, g0, g1, g2, g3, g4, g5⟩ := HS
  dsimp only at c0 c1 c2 c3 c4 c5
  refine wp_seq_k (fun K hK => ?_)
  have HK := Aside.mk hK
  clear hK
  have b1 : (r.toList == [116, 105, 99, 107]) = false := beq_eq_false_iff_ne.mpr h1
  have b2 : (r.toList == [99, 104, 101, 99, 107, 112, 111, 105, 110, 116]) = false := beq_eq_false_iff_ne.mpr h2
  clear h1 h2
  have hc2 : Lib.hasPrefix (dl r) (dl ⟨#[99, 114, 97, 115, 104, 32]⟩) = true := hc
  have hsz : 6 ≤ r.size := prefix_le hc2
  obtain ⟨m, hm⟩ : ∃ m, m = cutP r ⟨#[99, 114, 97, 115, 104, 32]⟩ := ⟨_, rfl⟩
  have hm2 : r.extract 6 r.size = m := by rw [hm]; unfold cutP; rw [if_pos hc2]; rfl
  have hms : m.size ≤ 1000000 := by rw [← hm2, ByteArray.size_extract]; omega
  have HC := Aside.mk hc
  have HC2 := Aside.mk hc2
  have HM := Aside.mk hm
  clear hc hc2 hm
  go_wp2_with (first | (go_at_call 31; refine (begins31 _ _ _).mono ?_; rintro e w1 ⟨rfl, hw⟩; rw [hw, HC2.out]; clear hw; dsimp only) | (go_at_call 32; refine (word32 m _ hms).mono ?_; rintro e w1 ⟨⟨v, q, rfl, hq, hv⟩, hb⟩; have H1 := Aside.mk ((HH.out.kind 4).step hb); have HX := Aside.mk (crash_x HR.out HC.out HM.out hv); clear hb hv hq c0 c1 c2 c3 c4 c5 d0 d1 d2 d3 d4 d5 f0 f1 f2 f3 f4 f5 g0 g1 g2 g3 g4 g5; have HS := s16_of H1.out; unfold S16 at HS; obtain ⟨c0, c1, c2, c3, c4, c5, d0, d1, d2, d3, d4, d5, f0, f1, f2, f3, f4, f5, g0, g1, g2, g3, g4, g5⟩ := HS; dsimp only at c0 c1 c2 c3 c4 c5; dsimp only))
  exact HK.out _ _ (step_end s w0 _ ⟨4, eB, eB, false, n, v⟩ _ _ _ _ _ _ _ _ _ _ _ _ _ _ _ _ _ _ _ _ _ _ _ _ _ _ _ _ _ _ _ _ _ _ _ _ _ _ _ _ _ _ _ _ _ _ _ _ _ _ _ _ _ _ _ _ _ _ _ _ _ _ _ _ _ _ _ _ _ _ _ _ _ _ _ _ _ _ (H1.out.keep v) HX.out eB_size eB_size)
set_option maxRecDepth 1000000 in
set_option maxHeartbeats 8000000 in
theorem step_ask (s r : ByteArray) (n p : Int) (w0 W : World) (v1 v6 v7 v8 v9 v10 v11 v12 v13 v14 v15 v16 v17 v18 v19 v20 v21 v22 v23 v24 v25 v26 v27 v28 v29 v30 v31 v32 v33 v34 v35 v36 v37 v38 v39 v40 v41 v42 v43 v44 v45 v46 v47 v48 v49 v50 v51 v52 v53 v54 v55 v56 v57 v58 v59 v60 v61 v62 v63 v64 v65 v66 v67 v68 v69 v70 v71 v72 v73 v74 v75 v76 v77 v78 v79 v80 v81 : Value) (h : At16 w0 W ⟨0, eB, eB, false, n, p⟩) (hr : RestSays s r n p) (hs : r.size ≤ 1000000) (h1 : ¬ r.toList = [116, 105, 99, 107]) (h2 : ¬ r.toList = [99, 104, 101, 99, 107, 112, 111, 105, 110, 116]) (hc : Lib.hasPrefix (dl r) crashB = false) :
    (rt 4 body16).wp Tryz.prog (bodyPost Tryz.prog Tryz.f16 fun e w' => ParseOut s e ∧ Below w0.heap.size w0 w') { tmps := #[.string s, v1, .pointer (some ⟨w0.heap.size, 0, none⟩), .bool false, .pointer (some ⟨w0.heap.size + 1, 0, none⟩), .string r, v6, v7, v8, v9, v10, v11, v12, v13, v14, v15, v16, v17, v18, v19, v20, v21, v22, v23, v24, v25, v26, v27, v28, v29, v30, v31, v32, v33, v34, v35, v36, v37, v38, v39, v40, v41, v42, v43, v44, v45, v46, v47, v48, v49, v50, v51, v52, v53, v54, v55, v56, v57, v58, v59, v60, v61, v62, v63, v64, v65, v66, v67, v68, v69, v70, v71, v72, v73, v74, v75, v76, v77, v78, v79, v80, v81], defers := [] } W := by
  conv => arg 2; whnf
  have HR := Aside.mk hr
  have HH := Aside.mk h
  clear hr
  have HS := s16_of h
  clear h
  unfold S16 at HS
  obtain ⟨c0, c1, c2, c3, c4, c5, d0, d1, d2, d3, d4, d5, f0, f1, f2, f3, f4, f5, g0, g1, g2, g3, g4, g5⟩ := HS
  dsimp only at c0 c1 c2 c3 c4 c5
  refine wp_seq_k (fun K hK => ?_)
  have HK := Aside.mk hK
  clear hK
  have b1 : (r.toList == [116, 105, 99, 107]) = false := beq_eq_false_iff_ne.mpr h1
  have b2 : (r.toList == [99, 104, 101, 99, 107, 112, 111, 105, 110, 116]) = false := beq_eq_false_iff_ne.mpr h2
  have hn1 : dl r ≠ tickB := fun hq => h1 ((Lib.toList_data r).trans hq)
  have hn2 : dl r ≠ checkB := fun hq => h2 ((Lib.toList_data r).trans hq)
  clear h1 h2
  have hc2 : Lib.hasPrefix (dl r) (dl ⟨#[99, 114, 97, 115, 104, 32]⟩) = false := hc
  have HC := Aside.mk hc
  have HC2 := Aside.mk hc2
  have HN := Aside.mk (And.intro hn1 hn2)
  clear hc hc2 hn1 hn2
  go_wp2_with (go_at_call 31; refine (begins31 _ _ _).mono ?_; rintro e w1 ⟨rfl, hw⟩; rw [hw, HC2.out]; clear hw; dsimp only)
  go_loop [6] (fun i => ∃ k : Nat, k ≤ r.size ∧ i = .int .i64 k ∧ Aside (UpTo r k)) (fun i => r.size - (intOf i).toNat)
  case atStart => exact ⟨0, Nat.zero_le _, rfl, ⟨fun u c q _ _ _ => Nat.zero_le _⟩⟩
  case round =>
    obtain ⟨k, hk, rfl, hU⟩ := hrel
    by_cases hlt : k + 1 < r.size
    · have hlt2 : k < r.size := by omega
      have glt : (k : Int) + 1 < (r.size : Int) := by omega
      have hE1 : (r.extract 0 k).size ≤ 1000000 := by rw [ByteArray.size_extract]; omega
      have hE2 : (r.extract (k + 2) r.size).size ≤ 1000000 := by rw [ByteArray.size_extract]; omega
      by_cases c58 : (r[k].toNat : Int) = 58
      · have hx := x_ask HR.out HN.out.1 HN.out.2 HC.out (upTo_hit hlt2 hU.out (.inl (UInt8.toNat.inj (show r[k].toNat = 58 by omega)))) hlt2
        rw [show decide (r[k] = 33) = false from decide_eq_false (fun e => by rw [e] at c58; cases c58)] at hx
        have HX := Aside.mk hx
        have e1 : ((r[k].toNat : Int) == 58) = true := beq_iff_eq.mpr c58
        have e2 : ((r[k].toNat : Int) == 33) = false := beq_eq_false_iff_ne.mpr (by omega)
        clear hx c58
        go_wp2
        all_goals ((try simp only [Exit.inBlock, Exit.then]); exact HK.out _ _ (step_end s w0 _ ⟨1, r.extract 0 k, r.extract (k + 2) r.size, false, n, p⟩ _ _ _ _ _ _ _ _ _ _ _ _ _ _ _ _ _ _ _ _ _ _ _ _ _ _ _ _ _ _ _ _ _ _ _ _ _ _ _ _ _ _ _ _ _ _ _ _ _ _ _ _ _ _ _ _ _ _ _ _ _ _ _ _ _ _ _ _ _ _ _ _ _ _ _ _ _ _ ((((HH.out.kind 1).user _).fail false).text _) HX.out hE1 hE2))
      · by_cases c33 : (r[k].toNat : Int) = 33
        · have hx := x_ask HR.out HN.out.1 HN.out.2 HC.out (upTo_hit hlt2 hU.out (.inr (UInt8.toNat.inj (show r[k].toNat = 33 by omega)))) hlt2
          rw [show decide (r[k] = 33) = true from decide_eq_true (UInt8.toNat.inj (show r[k].toNat = 33 by omega))] at hx
          have HX := Aside.mk hx
          have e1 : ((r[k].toNat : Int) == 58) = false := beq_eq_false_iff_ne.mpr c58
          have e2 : ((r[k].toNat : Int) == 33) = true := beq_iff_eq.mpr c33
          clear hx c58 c33
          go_wp2
          all_goals ((try simp only [Exit.inBlock, Exit.then]); exact HK.out _ _ (step_end s w0 _ ⟨1, r.extract 0 k, r.extract (k + 2) r.size, true, n, p⟩ _ _ _ _ _ _ _ _ _ _ _ _ _ _ _ _ _ _ _ _ _ _ _ _ _ _ _ _ _ _ _ _ _ _ _ _ _ _ _ _ _ _ _ _ _ _ _ _ _ _ _ _ _ _ _ _ _ _ _ _ _ _ _ _ _ _ _ _ _ _ _ _ _ _ _ _ _ _ ((((HH.out.kind 1).user _).fail true).text _) HX.out hE1 hE2))
        · have hu1 : UpTo r (k + 1) := upTo_skip hlt2 hU.out (fun u c q hu hc e hl => by omega) (fun e => c58 (by rw [e]; rfl)) (fun e => c33 (by rw [e]; rfl))
          have HU1 := Aside.mk hu1
          have e1 : ((r[k].toNat : Int) == 58) = false := beq_eq_false_iff_ne.mpr c58
          have e2 : ((r[k].toNat : Int) == 33) = false := beq_eq_false_iff_ne.mpr c33
          clear hu1 c58 c33
          go_wp2
          go_round
          case rel => exact ⟨k + 1, by omega, by go_num, HU1⟩
          case measure => simp [intOf]; omega
    · have glt : ¬ (k : Int) + 1 < (r.size : Int) := by omega
      have hx : XSays s ⟨0, eB, eB, false, n, p⟩ := fun y hg e => by
        obtain ⟨c, hcc, hf, hn, hk1, hd, e2, e3⟩ := ask_of HR.out HN.out.1 HN.out.2 HC.out hg e
        have h4 := hU.out y.u c _ hn hcc hd
        have h5 := (ask_parts hd).2.2.1
        omega
      have HX := Aside.mk hx
      clear hx
      go_wp2
      all_goals ((try simp only [Exit.inBlock, Exit.then]); exact HK.out _ _ (step_end s w0 _ ⟨0, eB, eB, false, n, p⟩ _ _ _ _ _ _ _ _ _ _ _ _ _ _ _ _ _ _ _ _ _ _ _ _ _ _ _ _ _ _ _ _ _ _ _ _ _ _ _ _ _ _ _ _ _ _ _ _ _ _ _ _ _ _ _ _ _ _ _ _ _ _ _ _ _ _ _ _ _ _ _ _ _ _ _ _ _ _ HH.out HX.out eB_size eB_size))
theorem step_kinds (s r : ByteArray) (n p : Int) (w0 W : World) (v1 v6 v7 v8 v9 v10 v11 v12 v13 v14 v15 v16 v17 v18 v19 v20 v21 v22 v23 v24 v25 v26 v27 v28 v29 v30 v31 v32 v33 v34 v35 v36 v37 v38 v39 v40 v41 v42 v43 v44 v45 v46 v47 v48 v49 v50 v51 v52 v53 v54 v55 v56 v57 v58 v59 v60 v61 v62 v63 v64 v65 v66 v67 v68 v69 v70 v71 v72 v73 v74 v75 v76 v77 v78 v79 v80 v81 : Value) (h : At16 w0 W ⟨0, eB, eB, false, n, p⟩) (hr : RestSays s r n p) (hs : r.size ≤ 1000000) :
    (rt 4 body16).wp Tryz.prog (bodyPost Tryz.prog Tryz.f16 fun e w' => ParseOut s e ∧ Below w0.heap.size w0 w') { tmps := #[.string s, v1, .pointer (some ⟨w0.heap.size, 0, none⟩), .bool false, .pointer (some ⟨w0.heap.size + 1, 0, none⟩), .string r, v6, v7, v8, v9, v10, v11, v12, v13, v14, v15, v16, v17, v18, v19, v20, v21, v22, v23, v24, v25, v26, v27, v28, v29, v30, v31, v32, v33, v34, v35, v36, v37, v38, v39, v40, v41, v42, v43, v44, v45, v46, v47, v48, v49, v50, v51, v52, v53, v54, v55, v56, v57, v58, v59, v60, v61, v62, v63, v64, v65, v66, v67, v68, v69, v70, v71, v72, v73, v74, v75, v76, v77, v78, v79, v80, v81], defers := [] } W := by
  by_cases h1 : r.toList = [116, 105, 99, 107]
  · exact step_tick s r n p w0 W v1 v6 v7 v8 v9 v10 v11 v12 v13 v14 v15 v16 v17 v18 v19 v20 v21 v22 v23 v24 v25 v26 v27 v28 v29 v30 v31 v32 v33 v34 v35 v36 v37 v38 v39 v40 v41 v42 v43 v44 v45 v46 v47 v48 v49 v50 v51 v52 v53 v54 v55 v56 v57 v58 v59 v60 v61 v62 v63 v64 v65 v66 v67 v68 v69 v70 v71 v72 v73 v74 v75 v76 v77 v78 v79 v80 v81 h hr hs h1
  · by_cases h2 : r.toList = [99, 104, 101, 99, 107, 112, 111, 105, 110, 116]
    · exact step_check s r n p w0 W v1 v6 v7 v8 v9 v10 v11 v12 v13 v14 v15 v16 v17 v18 v19 v20 v21 v22 v23 v24 v25 v26 v27 v28 v29 v30 v31 v32 v33 v34 v35 v36 v37 v38 v39 v40 v41 v42 v43 v44 v45 v46 v47 v48 v49 v50 v51 v52 v53 v54 v55 v56 v57 v58 v59 v60 v61 v62 v63 v64 v65 v66 v67 v68 v69 v70 v71 v72 v73 v74 v75 v76 v77 v78 v79 v80 v81 h hr hs h2
    · cases hc : Lib.hasPrefix (dl r) crashB with
      | true => exact step_crash s r n p w0 W v1 v6 v7 v8 v9 v10 v11 v12 v13 v14 v15 v16 v17 v18 v19 v20 v21 v22 v23 v24 v25 v26 v27 v28 v29 v30 v31 v32 v33 v34 v35 v36 v37 v38 v39 v40 v41 v42 v43 v44 v45 v46 v47 v48 v49 v50 v51 v52 v53 v54 v55 v56 v57 v58 v59 v60 v61 v62 v63 v64 v65 v66 v67 v68 v69 v70 v71 v72 v73 v74 v75 v76 v77 v78 v79 v80 v81 h hr hs h1 h2 hc
      | false => exact step_ask s r n p w0 W v1 v6 v7 v8 v9 v10 v11 v12 v13 v14 v15 v16 v17 v18 v19 v20 v21 v22 v23 v24 v25 v26 v27 v28 v29 v30 v31 v32 v33 v34 v35 v36 v37 v38 v39 v40 v41 v42 v43 v44 v45 v46 v47 v48 v49 v50 v51 v52 v53 v54 v55 v56 v57 v58 v59 v60 v61 v62 v63 v64 v65 v66 v67 v68 v69 v70 v71 v72 v73 v74 v75 v76 v77 v78 v79 v80 v81 h hr hs h1 h2 hc
theorem At16.start (w : World) : At16 w ((w.alloc (.cells #[.int .u8 0, .string ⟨#[]⟩, .string ⟨#[]⟩, .bool false, .int .i64 0, .int .i64 0] 32)).alloc (.cells #[.int .u8 0, .string ⟨#[]⟩, .string ⟨#[]⟩, .bool false, .int .i64 0, .int .i64 0] 32)) ⟨0, eB, eB, false, 0, 0⟩ := by
  refine ⟨((Below.refl _ _).alloc (Nat.le_refl _) _).alloc (by simp) _, ⟨?_, ?_, ?_, ?_, ?_, ?_⟩, ⟨?_, ?_, ?_, ?_, ?_, ?_⟩, fun j => ?_, fun j => ?_⟩
  all_goals simp [go_sem, eB]
theorem pow_x {s m r1 r2 : ByteArray} {n p : Int} (h : Lib.hasPrefix (dl s) powerB = true) (hm : m = cutP s ⟨#[112, 111, 119, 101, 114, 32]⟩) (h1 : (0 ≤ n ∧ n ≤ 1099511627776 ∧ NumSays m n r1) ∨ (n = -1 ∧ NumNot m)) (h2 : (0 ≤ p ∧ p ≤ 1099511627776 ∧ NumSays r1 p r2) ∨ (p = -1 ∧ NumNot r1)) : RestSays s r2 n p := by
  rcases h1 with ⟨_, _, h1⟩ | ⟨_, h1⟩
  · rcases h2 with ⟨_, _, h2⟩ | ⟨_, h2⟩
    · exact rest_pow h hm h1 h2
    · exact fun y hg e => absurd e (pow_no2 h hm h1 h2 y hg)
  · exact fun y hg e => absurd e (pow_no1 h hm h1 y hg)
set_option maxRecDepth 1000000 in
set_option maxHeartbeats 8000000 in
theorem step_calls (s : ByteArray) (w0 : World) (hs : s.size ≤ 1000000) :
    Calls Tryz.prog 16 #[.string s] w0 fun e w' => ParseOut s e ∧ Below w0.heap.size w0 w' := by
  have H0 := Aside.mk (At16.start w0)
  cases hp : Lib.hasPrefix (dl s) powerB with
  | false =>
    have hp2 : Lib.hasPrefix (dl s) (dl ⟨#[112, 111, 119, 101, 114, 32]⟩) = false := hp
    have HP := Aside.mk hp
    have HP2 := Aside.mk hp2
    clear hp hp2
    go_enter Tryz.func16, Tryz.ntmps16
    refine wp_seq_k (fun K0 hK => ?_)
    have HK := Aside.mk hK
    clear hK
    go_wp2
    refine HK.out _ _ ?_
    clear HK
    refine wp_seq_k (fun K1 hK => ?_)
    have HK := Aside.mk hK
    clear hK
    go_wp2
    refine HK.out _ _ ?_
    clear HK
    refine wp_seq_k (fun K2 hK => ?_)
    have HK := Aside.mk hK
    clear hK
    go_wp2
    refine HK.out _ _ ?_
    clear HK
    refine wp_seq_k (fun K3 hK => ?_)
    have HK := Aside.mk hK
    clear hK
    go_wp2_with (go_at_call 31; refine (begins31 _ _ _).mono ?_; rintro e w1 ⟨rfl, hw⟩; rw [hw, HP2.out]; clear hw; dsimp only)
    exact HK.out _ _ (step_kinds s s 0 0 w0 _ _ _ _ _ _ _ _ _ _ _ _ _ _ _ _ _ _ _ _ _ _ _ _ _ _ _ _ _ _ _ _ _ _ _ _ _ _ _ _ _ _ _ _ _ _ _ _ _ _ _ _ _ _ _ _ _ _ _ _ _ _ _ _ _ _ _ _ _ _ _ _ _ _ _ _ _ _ H0.out (rest_nopow HP.out) hs)
  | true =>
    have hp2 : Lib.hasPrefix (dl s) (dl ⟨#[112, 111, 119, 101, 114, 32]⟩) = true := hp
    have hsz : 6 ≤ s.size := prefix_le hp2
    obtain ⟨m, hm⟩ : ∃ m, m = cutP s ⟨#[112, 111, 119, 101, 114, 32]⟩ := ⟨_, rfl⟩
    have hm2 : s.extract 6 s.size = m := by rw [hm]; unfold cutP; rw [if_pos hp2]; rfl
    have hms : m.size ≤ 1000000 := by rw [← hm2, ByteArray.size_extract]; omega
    have HP := Aside.mk hp
    have HP2 := Aside.mk hp2
    have HM := Aside.mk hm
    clear hp hp2 hm
    go_enter Tryz.func16, Tryz.ntmps16
    refine wp_seq_k (fun K0 hK => ?_)
    have HK := Aside.mk hK
    clear hK
    go_wp2
    refine HK.out _ _ ?_
    clear HK
    refine wp_seq_k (fun K1 hK => ?_)
    have HK := Aside.mk hK
    clear hK
    go_wp2
    refine HK.out _ _ ?_
    clear HK
    refine wp_seq_k (fun K2 hK => ?_)
    have HK := Aside.mk hK
    clear hK
    go_wp2
    refine HK.out _ _ ?_
    clear HK
    refine wp_seq_k (fun K3 hK => ?_)
    have HK := Aside.mk hK
    clear hK
    go_wp2_with (first | (go_at_call 31; refine (begins31 _ _ _).mono ?_; rintro e w1 ⟨rfl, hw⟩; rw [hw, HP2.out]; clear hw; dsimp only) | (go_at_call 32; fail))
    refine (word32 m _ hms).mono ?_
    rintro e w2 ⟨⟨n, r1, rfl, hr1, hv1⟩, hb⟩
    have H1 := Aside.mk (H0.out.step hb)
    have HV1 := Aside.mk hv1
    clear hb hv1
    have HS := s16_of H1.out
    unfold S16 at HS
    obtain ⟨c0, c1, c2, c3, c4, c5, d0, d1, d2, d3, d4, d5, f0, f1, f2, f3, f4, f5, g0, g1, g2, g3, g4, g5⟩ := HS
    dsimp only at c0 c1 c2 c3 c4 c5
    dsimp only
    go_wp2_with (go_at_call 32; fail)
    refine (word32 r1 _ (by omega)).mono ?_
    rintro e w3 ⟨⟨p, r2, rfl, hr2, hv2⟩, hb⟩
    have H2 := Aside.mk ((H1.out.units n).step hb)
    have HX := Aside.mk (pow_x HP.out HM.out HV1.out hv2)
    clear hb hv2 c0 c1 c2 c3 c4 c5 d0 d1 d2 d3 d4 d5 f0 f1 f2 f3 f4 f5 g0 g1 g2 g3 g4 g5
    have HS := s16_of H2.out
    unfold S16 at HS
    obtain ⟨c0, c1, c2, c3, c4, c5, d0, d1, d2, d3, d4, d5, f0, f1, f2, f3, f4, f5, g0, g1, g2, g3, g4, g5⟩ := HS
    dsimp only at c0 c1 c2 c3 c4 c5
    dsimp only
    go_wp2
    exact HK.out _ _ (step_kinds s r2 n p w0 _ _ _ _ _ _ _ _ _ _ _ _ _ _ _ _ _ _ _ _ _ _ _ _ _ _ _ _ _ _ _ _ _ _ _ _ _ _ _ _ _ _ _ _ _ _ _ _ _ _ _ _ _ _ _ _ _ _ _ _ _ _ _ _ _ _ _ _ _ _ _ _ _ _ _ _ _ _ (H2.out.keep p) HX.out (by omega))
theorem infoStrR : (Tryz.prog.info? 9).map (fun i => (i.zero, i.size, i.bytes)) = some (some (.string ⟨#[]⟩), 1, 16) := by kernel_rfl
/-- The lines so far: what begins at a is being read, k bytes are read. -/
def LinesTo (s : ByteArray) (a k : Nat) (acc : List ByteArray) : Prop := linesOf s = acc ++ (splitNL (((dl s).drop a).take (k - a)) ((dl s).drop k)).map bs
theorem linesTo_start (s : ByteArray) : LinesTo s 0 0 [] := by
  unfold LinesTo linesOf
  simp
theorem dl_drop {s : ByteArray} {k : Nat} (h : k < s.size) : (dl s).drop k = s[k] :: (dl s).drop (k + 1) := List.drop_eq_getElem_cons h
theorem linesTo_nl {s : ByteArray} {a k : Nat} {acc : List ByteArray} (h : k < s.size) (ha : a ≤ k) (hc : s[k].toNat = 10) (hl : LinesTo s a k acc) : LinesTo s (k + 1) (k + 1) (acc ++ [s.extract a k]) := by
  unfold LinesTo at *
  have hb : s[k] = 10 := UInt8.toNat.inj hc
  rw [dl_drop h, splitNL, if_pos hb] at hl
  rw [hl, List.append_assoc, Nat.sub_self, List.take_zero, List.map_cons]
  congr 2
  exact ba_ext (Lib.extract_data s a k).symm
theorem linesTo_other {s : ByteArray} {a k : Nat} {acc : List ByteArray} (h : k < s.size) (ha : a ≤ k) (hc : ¬ s[k].toNat = 10) (hl : LinesTo s a k acc) : LinesTo s a (k + 1) acc := by
  unfold LinesTo at *
  have hb : ¬ s[k] = 10 := fun e => hc (by rw [e]; rfl)
  rw [dl_drop h, splitNL, if_neg hb] at hl
  rw [hl]
  congr 3
  have hlen : (dl s).length = s.size := rfl
  rw [show k + 1 - a = (k - a) + 1 by omega, List.take_add_one]
  congr 1
  rw [List.getElem?_drop, show a + (k - a) = k by omega, List.getElem?_eq_getElem (show k < (dl s).length by omega)]
  rfl
theorem linesTo_end {s : ByteArray} {a : Nat} {acc : List ByteArray} (hl : LinesTo s a s.size acc) : linesOf s = acc ++ [s.extract a s.size] := by
  unfold LinesTo at hl
  have hlen : (dl s).length = s.size := rfl
  rw [show (dl s).drop s.size = [] from List.drop_of_length_le (by omega), splitNL] at hl
  rw [hl]
  congr 1
  rw [List.map_cons, List.map_nil]
  congr 1
  exact ba_ext (Lib.extract_data s a s.size).symm
/-- A list of texts, in a row of its own. -/
def LinesRet (B : Nat) (L : List ByteArray) (e : Ending) (w' : World) : Prop := ∃ v, e = .returned v ∧ w'.ownsRow B 9 1 v L.length (L.map Value.string)
theorem str_cells (w : World) (t : ByteArray) (n : Nat) (hn : n = w.heap.size) : ∀ j u, [Value.string t][j]? = some u → (w.alloc (.cells #[.string t] 9)).cell? ((⟨n, 0, none⟩ : Addr).add j) = some u := by
  intro j u h
  rw [Addr.add_lit, Nat.zero_add, Joins.cell_alloc_mark_at _ _ _ _ _ _ hn]
  rw [← h]
  exact List.getElem?_toArray
theorem str_one (t : ByteArray) : ∀ u ∈ [Value.string t], u.oneCell' = true := by
  intro u hx
  simp at hx
  subst hx
  rfl
theorem strs_snoc (l : List ByteArray) (x : ByteArray) : l.map Value.string ++ [.string x] = (l ++ [x]).map Value.string := by simp
set_option maxRecDepth 1000000 in
set_option maxHeartbeats 8000000 in
theorem lines15 (s : ByteArray) (w : World) (hs : s.size ≤ 1000000) :
    Calls Tryz.prog 15 #[.string s] w fun e w' => LinesRet w.heap.size (linesOf s) e w' ∧ Below w.heap.size w w' := by
  obtain ⟨i0, hi, hz0, hz1, hz2⟩ := info_parts infoStrR
  go_enter Tryz.func15, Tryz.ntmps15
  go_wp2
  go_loopw [3, 4, 5] (fun ov av iv wr => ∃ (k a : Nat) (acc : List ByteArray), k ≤ s.size + 1 ∧ iv = .int .i64 k ∧ av = .int .i64 a ∧ acc.length ≤ k ∧ (k ≤ s.size → a ≤ k) ∧ Aside (wr.ownsRow w.heap.size 9 1 ov acc.length (acc.map Value.string)) ∧ Aside (k ≤ s.size → LinesTo s a k acc) ∧ Aside (s.size < k → linesOf s = acc) ∧ Aside (Below w.heap.size w wr)) (fun _ _ iv _ => s.size + 1 - (intOf iv).toNat)
  case atStart => exact ⟨0, 0, [], by omega, rfl, rfl, Nat.le_refl _, fun _ => Nat.le_refl _, ⟨World.ownsRow_nil _ _ _ _⟩, ⟨fun _ => linesTo_start s⟩, ⟨fun h => absurd h (by omega)⟩, ⟨Below.refl _ _⟩⟩
  case round =>
    obtain ⟨k, a, acc, hk, rfl, rfl, hac, hak, hO, hL, hE, hB⟩ := hrel
    by_cases hle : k ≤ s.size
    · have ha := hak hle
      clear hak
      by_cases hlt : k < s.size
      · have hne : ((k : Int) == (s.size : Int)) = false := beq_eq_false_iff_ne.mpr (by omega)
        by_cases c : (s[k].toNat : Int) = 10
        · have HL := Aside.mk (linesTo_nl hlt ha (by omega) (hL.out hle))
          have d : ((s[k].toNat : Int) == 10) = true := beq_iff_eq.mpr c
          have HN := Aside.mk (str_cells wr (s.extract a k) wr.heap.size rfl)
          have HO := Aside.mk (own_below hO.out ((Below.refl wr.heap.size wr).alloc (Nat.le_refl _) (.cells #[.string (s.extract a k)] 9)))
          have hsz := hB.out.size
          clear c hL hE
          go_wp2_with (at_builtin; refine wpList_append_own _ rfl _ _ 41 rfl w.heap.size 9 i0 _ 1 16 Tryz.underlying41 hi hz0 hz1 hz2 rfl (by decide) _ acc.length (acc.map Value.string) rfl HO.out ⟨wr.heap.size, 0, none⟩ 1 1 [.string (s.extract a k)] rfl rfl HN.out (str_one _) (by unfold maxLen; omega) (by omega) (by simp; omega) ?_)
          intro v' w5 hown hgrow _
          have HO5 : Aside (w5.ownsRow w.heap.size 9 1 v' (acc ++ [s.extract a k]).length ((acc ++ [s.extract a k]).map Value.string)) := ⟨by rw [← strs_snoc, List.length_append]; exact hown⟩
          have HB5 : Aside (Below w.heap.size w w5) := ⟨(hB.out.alloc hB.out.size _).grown hgrow (hB.out.alloc hB.out.size _).size (fun j hj => (HO.out.lt j hj).1)⟩
          clear hown hgrow
          go_wp2
          go_roundw
          case rel => exact ⟨k + 1, k + 1, acc ++ [s.extract a k], by omega, by go_num, by go_num, by simp; omega, fun _ => Nat.le_refl _, HO5, ⟨fun _ => HL.out⟩, ⟨fun h => absurd h (by omega)⟩, HB5⟩
          case measure => simp [intOf]; omega
        · have HL := Aside.mk (linesTo_other hlt ha (by omega) (hL.out hle))
          have d : ((s[k].toNat : Int) == 10) = false := beq_eq_false_iff_ne.mpr c
          clear c hL hE
          go_wp2
          go_roundw
          case rel => exact ⟨k + 1, a, acc, by omega, by go_num, rfl, by omega, fun _ => by omega, hO, ⟨fun _ => HL.out⟩, ⟨fun h => absurd h (by omega)⟩, hB⟩
          case measure => simp [intOf]; omega
      · obtain rfl : k = s.size := by omega
        have HL := Aside.mk (linesTo_end (hL.out hle))
        have HN := Aside.mk (str_cells wr (s.extract a s.size) wr.heap.size rfl)
        have HO := Aside.mk (own_below hO.out ((Below.refl wr.heap.size wr).alloc (Nat.le_refl _) (.cells #[.string (s.extract a s.size)] 9)))
        have hsz := hB.out.size
        clear hL hE
        go_wp2_with (at_builtin; refine wpList_append_own _ rfl _ _ 41 rfl w.heap.size 9 i0 _ 1 16 Tryz.underlying41 hi hz0 hz1 hz2 rfl (by decide) _ acc.length (acc.map Value.string) rfl HO.out ⟨wr.heap.size, 0, none⟩ 1 1 [.string (s.extract a s.size)] rfl rfl HN.out (str_one _) (by unfold maxLen; omega) (by omega) (by simp; omega) ?_)
        intro v' w5 hown hgrow _
        have HO5 : Aside (w5.ownsRow w.heap.size 9 1 v' (acc ++ [s.extract a s.size]).length ((acc ++ [s.extract a s.size]).map Value.string)) := ⟨by rw [← strs_snoc, List.length_append]; exact hown⟩
        have HB5 : Aside (Below w.heap.size w w5) := ⟨(hB.out.alloc hB.out.size _).grown hgrow (hB.out.alloc hB.out.size _).size (fun j hj => (HO.out.lt j hj).1)⟩
        clear hown hgrow
        go_wp2
        go_roundw
        case rel => exact ⟨s.size + 1, s.size + 1, acc ++ [s.extract a s.size], by omega, by go_num, by go_num, by simp; omega, fun _ => Nat.le_refl _, HO5, ⟨fun h => absurd h (by omega)⟩, ⟨fun _ => HL.out⟩, HB5⟩
        case measure => (simp [intOf]; try omega)
    · obtain rfl : k = s.size + 1 := by omega
      have HF := Aside.mk (hE.out (by omega))
      clear hL hE hak hle
      go_wp2
      go_ret
      exact ⟨⟨_, rfl, by rw [HF.out]; exact hO.out⟩, hB.out⟩
set_option maxRecDepth 1000000 in
set_option maxHeartbeats 8000000 in
theorem refReadAll_calls (s : ByteArray) (w : World) (hs : s.size ≤ maxLen) :
    Calls Tryz.prog 8 #[.string s] w fun e w' => ReadRet w.heap.size (readF s) e w' ∧ Below w.heap.size w w' := by
  unfold maxLen at hs
  by_cases hlong : (65536 : Int) < (s.size : Int)
  · have HR : Aside (readF s = ([], 0, 2)) := ⟨by unfold readF; rw [if_pos (by omega)]⟩
    go_enter Tryz.func8, Tryz.ntmps8
    go_wp2
    go_ret3
    exact ⟨⟨_, by rw [HR.out]; rfl, by rw [HR.out]; exact World.ownsRow_nil _ _ _ _⟩, Below.refl _ _⟩
  · obtain ⟨i0, hi, hz0, hz1, hz2⟩ := info_parts infoStepR
    have HR : Aside (readF s = readL (linesOf s) 0 []) := ⟨by unfold readF; rw [if_neg (by omega)]⟩
    have HS := Aside.mk (lines15 s w (by omega))
    have HZ : Aside (∀ k (h : k < (linesOf s).length), (linesOf s)[k].size ≤ 1000000) := ⟨fun k h => by have := lines_size h; omega⟩
    have HP0 : 0 < (linesOf s).length := by rw [lines_length]; omega
    have HL : (linesOf s).length ≤ 1000000 := by
      rw [lines_length]
      have := Lib.countB_le ⟨#[10]⟩ (by decide) s.size s (Nat.le_refl _)
      omega
    generalize hG : linesOf s = L at HR HS HZ HL HP0
    clear hG
    go_enter Tryz.func8, Tryz.ntmps8
    go_wp2_with (go_at_call 15; refine HS.out.mono ?_; rintro e w1 ⟨⟨v, rfl, hown⟩, hb1⟩; obtain ⟨g, cap, rfl⟩ := Joins.ownsRow_form hown HP0; have HG := Aside.mk (hown.cells (g := g) rfl); have hg := (hown.lt g rfl).2; have HB1 := Aside.mk hb1; have hb1s := hb1.size; clear hown hb1)
    go_loopw [5, 7] (fun ov iv wr => ∃ (k : Nat) (acc : List St), k ≤ L.length ∧ iv = .int .i64 k ∧ Aside (wr.ownsRow w1.heap.size 32 6 ov acc.length (cellsS acc)) ∧ acc.length ≤ k ∧ Aside (readL (L.drop k) k acc = readL L 0 []) ∧ Aside (Below w1.heap.size w1 wr)) (fun _ iv _ => L.length - (intOf iv).toNat)
    case atStart => exact ⟨0, [], Nat.zero_le _, rfl, ⟨World.ownsRow_nil _ _ _ _⟩, Nat.le_refl _, ⟨rfl⟩, ⟨Below.refl _ _⟩⟩
    case round =>
      obtain ⟨k, acc, hk, rfl, hO, hac, hQ, hB⟩ := hrel
      have hBw : Below w.heap.size w wr := HB1.out.trans (hB.out.mono hb1s)
      have hsz : w1.heap.size ≤ wr.heap.size := hB.out.size
      by_cases hlt : k < L.length
      · have hcell : wr.cell? ⟨g, k, none⟩ = some (.string L[k]) := by
          rw [hB.out.cell (p := ⟨g, k, none⟩) hg]
          have := HG.out k (.string L[k]) (by rw [List.getElem?_map, List.getElem?_eq_getElem hlt]; rfl)
          rw [Addr.add_lit, Nat.zero_add] at this
          exact this
        have hskip : skipB L[k] = true → Aside (readL (L.drop (k + 1)) (k + 1) acc = readL L 0 []) := fun h => ⟨by rw [← readL_skip hlt h]; exact hQ.out⟩
        have hnone : skipB L[k] = false → stepOf L[k] = none → Aside (readF s = ([], (k : Int) + 1, 7)) := fun h h2 => ⟨by rw [HR.out, ← hQ.out, readL_none hlt h h2]⟩
        have hsome : ∀ x, skipB L[k] = false → stepOf L[k] = some x → Aside (readL (L.drop (k + 1)) (k + 1) (acc ++ [x]) = readL L 0 []) := fun x h h2 => ⟨by rw [← readL_some hlt h h2]; exact hQ.out⟩
        have ht := HZ.out k hlt
        generalize L[k] = t at hcell hskip hnone hsome ht
        by_cases h0 : t.size = 0
        · have h1 : ((t.size : Int) == 0) = true := beq_iff_eq.mpr (by omega)
          have HQ1 := hskip (skip_yes (.inl h0))
          clear hskip hnone hsome h0
          go_wp2
          go_roundw
          case rel => exact ⟨k + 1, acc, by omega, by go_num, hO, by omega, HQ1, hB⟩
          case measure => simp [intOf]; omega
        · have hpos : 0 < t.size := by omega
          have h1 : ((t.size : Int) == 0) = false := beq_eq_false_iff_ne.mpr (by omega)
          have g1 : (0 : Int) < (t.size : Int) := by omega
          by_cases h35 : (t[0].toNat : Int) = 35
          · have HQ1 := hskip (skip_yes (.inr ⟨hpos, by omega⟩))
            have h2 : ((t[0].toNat : Int) == 35) = true := beq_iff_eq.mpr h35
            clear hskip hnone hsome h0 h35
            go_wp2
            all_goals
              go_roundw
              case rel => exact ⟨k + 1, acc, by omega, by go_num, hO, by omega, HQ1, hB⟩
              case measure => simp [intOf]; omega
          · have h2 : ((t[0].toNat : Int) == 35) = false := beq_eq_false_iff_ne.mpr h35
            have hns := skip_no hpos (show t[0].toNat ≠ 35 by omega)
            have HP := Aside.mk (step_calls t wr ht)
            have HNone := Aside.mk (hnone hns)
            have HSome := Aside.mk (fun x => hsome x hns)
            clear hskip hnone hsome h0 h35 hns
            go_wp2_with fail
            refine HP.out.mono ?_
            rintro e w2 ⟨⟨x, ok, rfl, hst⟩, hb⟩
            have hb3 : Below wr.heap.size wr ((w2.alloc (.cells #[.int .u8 x.k, .string x.u, .string x.t, .bool x.f, .int .i64 x.n, .int .i64 x.p] 32)).alloc (.cells #[.int .u8 x.k, .string x.u, .string x.t, .bool x.f, .int .i64 x.n, .int .i64 x.p] 32)) := (hb.alloc hb.size _).alloc (hb.alloc hb.size _).size _
            have hb2 : Below wr.heap.size wr (w2.alloc (.cells #[.int .u8 x.k, .string x.u, .string x.t, .bool x.f, .int .i64 x.n, .int .i64 x.p] 32)) := hb.alloc hb.size _
            have HB3 := Aside.mk hb3
            have HB2 := Aside.mk hb2
            clear hb hb3 hb2
            dsimp only
            cases ok with
            | false =>
              have HF := (HNone.out (by rw [hst]; rfl)).out
              have HFA := Aside.mk HF
              clear HF hst
              go_wp2
              go_ret3
              exact ⟨⟨_, by rw [HFA.out]; rfl, by rw [HFA.out]; exact World.ownsRow_nil _ _ _ _⟩, hBw.trans (HB2.out.mono hBw.size)⟩
            | true =>
              have HF := HSome.out x (by rw [hst]; rfl)
              clear hst
              have HO := Aside.mk (own_below hO.out HB3.out)
              have HN := Aside.mk (row_cells (w2.alloc (.cells #[.int .u8 x.k, .string x.u, .string x.t, .bool x.f, .int .i64 x.n, .int .i64 x.p] 32)) x (w2.heap.size + 1) (by simp))
              have hs3 := HB3.out.size
              go_wp2_with (at_builtin; refine wpList_append_own _ rfl _ _ 23 rfl w1.heap.size 32 i0 _ 6 64 Tryz.underlying23 hi hz0 hz1 hz2 rfl (by decide) _ acc.length (cellsS acc) rfl HO.out ⟨w2.heap.size + 1, 0, none⟩ 1 1 (cellsOf1 x) rfl rfl HN.out (row_one x) (by unfold maxLen; omega) (by omega) (by omega) ?_)
              intro v' w5 hown hgrow _
              have HO5 : Aside (w5.ownsRow w1.heap.size 32 6 v' (acc ++ [x]).length (cellsS (acc ++ [x]))) := ⟨by rw [← cellsS_snoc, List.length_append]; exact hown⟩
              have HB5 : Aside (Below w1.heap.size w1 w5) := ⟨(hB.out.trans (HB3.out.mono hsz)).grown hgrow (by omega) (fun k hk => (hO.out.lt k hk).1)⟩
              clear hown hgrow
              go_wp2
              go_roundw
              case rel => exact ⟨k + 1, acc ++ [x], by omega, by go_num, HO5, by simp; omega, HF, HB5⟩
              case measure => simp [intOf]; omega
      · have hk2 : k = L.length := by omega
        subst hk2
        have HF : Aside (readF s = (acc, 0, 0)) := ⟨by
          have := hQ.out
          rw [List.drop_length] at this
          rw [HR.out, ← this]
          rfl⟩
        go_wp2
        go_ret3
        exact ⟨⟨_, by rw [HF.out]; rfl, by rw [HF.out]; exact Joins.ownsRow_le hO.out (by omega)⟩, hBw⟩
end Go.Proofs.YtilpifbaolmdlaaGreatDoor
