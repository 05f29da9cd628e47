/-
  The plain law of a line, and the walks of what reads words and numbers. No condition but those written in each statement.
-/
import Derived.Test.YtilpifbaolmdlaaGreatDoorV2
import Derived.Lib.IndexAny
import Derived.Lib.CutLaws
import Derived.Laws.ResultCell
import Derived.Lib.SplitLaws
import Derived.WalkSmall
set_option linter.unusedVariables false
set_option linter.unusedSimpArgs false
set_option linter.unusedSectionVars false
namespace Go.Proofs.YtilpifbaolmdlaaGreatDoor
open Go Go.RowKit
/-! ### The plain law of a step's line -/
abbrev dl (s : ByteArray) : List UInt8 := s.data.toList
theorem ba_ext {a b : ByteArray} (h : dl a = dl b) : a = b := by
  obtain ⟨⟨a⟩⟩ := a
  obtain ⟨⟨b⟩⟩ := b
  have h : a = b := h
  rw [h]
theorem dl_append (a b : ByteArray) : dl (a ++ b) = dl a ++ dl b := by
  show (a ++ b).data.toList = _
  rw [ByteArray.data_append, Array.toList_append]
theorem dl_size (s : ByteArray) : (dl s).length = s.size := rfl
def powL (n p : Int) : List UInt8 := [112, 111, 119, 101, 114, 32] ++ (Lib.itoa n ++ 32 :: (Lib.itoa p ++ [32]))
def tailL (x : St) : List UInt8 :=
  if x.k = 1 then dl x.u ++ (if x.f then 33 else 58) :: 32 :: dl x.t
  else if x.k = 2 then [116, 105, 99, 107]
  else if x.k = 3 then [99, 104, 101, 99, 107, 112, 111, 105, 110, 116]
  else [99, 114, 97, 115, 104, 32] ++ Lib.itoa x.p
theorem dl_powS (n p : Int) : dl (powS n p) = powL n p := by
  unfold powS powL
  simp only [dl_append]
  simp [dl, List.append_assoc]
theorem dl_lineS (x : St) : dl (lineS x) = (if 0 < x.n then powL x.n x.p else []) ++ tailL x := by
  unfold lineS tailL
  by_cases hn : 0 < x.n
  · rw [if_pos hn, if_pos hn]
    by_cases h1 : x.k = 1
    · rw [if_pos h1, if_pos h1]
      cases x.f with
      | true => rw [if_pos rfl]; simp only [dl_append, dl_powS, List.append_assoc]; rfl
      | false => rw [if_neg (by simp)]; simp only [dl_append, dl_powS, List.append_assoc]; rfl
    · rw [if_neg h1, if_neg h1]
      by_cases h2 : x.k = 2
      · rw [if_pos h2, if_pos h2]; simp only [dl_append, dl_powS]
      · rw [if_neg h2, if_neg h2]
        by_cases h3 : x.k = 3
        · rw [if_pos h3, if_pos h3]; simp only [dl_append, dl_powS]
        · rw [if_neg h3, if_neg h3]; simp only [dl_append, dl_powS, List.append_assoc]
  · rw [if_neg hn, if_neg hn, List.nil_append]
    by_cases h1 : x.k = 1
    · rw [if_pos h1, if_pos h1]
      cases x.f with
      | true => rw [if_pos rfl]; simp only [dl_append, List.append_assoc]; rfl
      | false => rw [if_neg (by simp)]; simp only [dl_append, List.append_assoc]; rfl
    · rw [if_neg h1, if_neg h1]
      by_cases h2 : x.k = 2
      · rw [if_pos h2, if_pos h2]
      · rw [if_neg h2, if_neg h2]
        by_cases h3 : x.k = 3
        · rw [if_pos h3, if_pos h3]
        · rw [if_neg h3, if_neg h3]; simp only [dl_append]

/-! ### Names -/
theorem okAt_byte {i : Nat} {c : UInt8} (h : okAt i c = true) : (97 ≤ c.toNat ∧ c.toNat ≤ 122) ∨ (48 ≤ c.toNat ∧ c.toNat ≤ 57) ∨ c.toNat = 95 := by
  unfold okAt at h
  simp only [Bool.or_eq_true, Bool.and_eq_true, decide_eq_true_eq, beq_iff_eq] at h
  omega
theorem name_parts {u : ByteArray} (h : nameB u = true) : u.size ≤ 16 ∧ 0 < u.size ∧ (∀ b ∈ dl u, (97 ≤ b.toNat ∧ b.toNat ≤ 122) ∨ (48 ≤ b.toNat ∧ b.toNat ≤ 57) ∨ b.toNat = 95) ∧ (∀ (h : 0 < u.size), 97 ≤ u[0].toNat ∧ u[0].toNat ≤ 122) := by
  unfold nameB at h
  simp only [Bool.and_eq_true, decide_eq_true_eq, Bool.not_eq_true'] at h
  obtain ⟨⟨⟨_, h3⟩, h4⟩, h5⟩ := h
  rw [toList_nil, decide_eq_false_iff_not] at h5
  refine ⟨by omega, by omega, fun b hb => ?_, fun h0 => ?_⟩
  · obtain ⟨i, hi, rfl⟩ := List.mem_iff_getElem.1 hb
    exact okAt_byte (okFrom_getElem _ _ _ h4 hi)
  · have h6 := okFrom_getElem _ _ 0 h4 (show 0 < u.data.toList.length from h0)
    have h6 : okAt 0 u[0] = true := h6
    unfold okAt at h6
    simp only [Bool.or_eq_true, Bool.and_eq_true, decide_eq_true_eq, beq_iff_eq] at h6
    simp at h6
    omega
/-- A byte of a name is neither a blank nor one of the signs. -/
theorem name_not {u : ByteArray} (h : nameB u = true) {b : UInt8} (hb : b ∈ dl u) : b.toNat ≠ 32 ∧ b.toNat ≠ 33 ∧ b.toNat ≠ 58 ∧ b.toNat ≠ 10 ∧ b.toNat ≠ 35 ∧ b.toNat < 128 := by
  have := (name_parts h).2.2.1 b hb
  omega
/-! ### A good step -/
theorem good_cases {x : St} (h : goodS x = true) : rangeB x.n x.p = true ∧
    ((x.k = 1 ∧ nameB x.u = true ∧ hasNL x.t = false ∧ powB x.n x.p = true) ∨
     ((x.k = 2 ∨ x.k = 3) ∧ x.u = ⟨#[]⟩ ∧ x.t = ⟨#[]⟩ ∧ x.f = false ∧ powB x.n x.p = true) ∨
     (x.k = 4 ∧ x.u = ⟨#[]⟩ ∧ x.t = ⟨#[]⟩ ∧ x.f = false ∧ x.n = 0)) := by
  unfold goodS goodB at h
  rw [Bool.and_eq_true] at h
  refine ⟨h.1, ?_⟩
  have h2 := h.2
  have empty_of : ∀ u : ByteArray, u.size = 0 → u = ⟨#[]⟩ := fun u hu => ba_ext (by show dl u = []; exact List.eq_nil_of_length_eq_zero hu)
  by_cases h1 : x.k = 1
  · rw [if_pos h1] at h2
    simp only [Bool.and_eq_true, Bool.not_eq_true'] at h2
    exact .inl ⟨h1, h2.1.1, h2.1.2, h2.2⟩
  · rw [if_neg h1] at h2
    by_cases h3 : x.k = 2 ∨ x.k = 3
    · rw [if_pos h3, bareB_eq] at h2
      simp only [Bool.and_eq_true, decide_eq_true_eq, Bool.not_eq_true'] at h2
      exact .inr (.inl ⟨h3, empty_of _ h2.1.1.1, empty_of _ h2.1.1.2, h2.1.2, h2.2⟩)
    · rw [if_neg h3] at h2
      by_cases h4 : x.k = 4
      · rw [if_pos h4, bareB_eq] at h2
        simp only [Bool.and_eq_true, decide_eq_true_eq, Bool.not_eq_true', beq_iff_eq] at h2
        exact .inr (.inr ⟨h4, empty_of _ h2.1.1.1, empty_of _ h2.1.1.2, h2.1.2, h2.2⟩)
      · rw [if_neg h4] at h2
        cases h2
/-! ### Digits -/
theorem decDigits_mem : ∀ (n : Nat) (b : UInt8), b ∈ Lib.decDigits n → 48 ≤ b.toNat ∧ b.toNat ≤ 57 := by
  intro n
  induction n using Nat.strongRecOn with
  | _ n ih =>
    intro b hb
    rw [Lib.decDigits] at hb
    split at hb
    · rename_i h
      rw [List.mem_singleton] at hb
      subst hb
      rw [UInt8.toNat_ofNat']
      omega
    · rename_i h
      rcases List.mem_append.1 hb with h1 | h1
      · exact ih (n / 10) (by omega) b h1
      · rw [List.mem_singleton] at h1
        subst h1
        rw [UInt8.toNat_ofNat']
        omega
theorem itoa_mem {n : Int} (h0 : 0 ≤ n) {b : UInt8} (hb : b ∈ Lib.itoa n) : 48 ≤ b.toNat ∧ b.toNat ≤ 57 := by
  unfold Lib.itoa at hb
  rw [if_neg (by omega)] at hb
  exact decDigits_mem _ _ hb
theorem decDigits_ne (n : Nat) : Lib.decDigits n ≠ [] := by
  intro h
  have := Lib.decDigits_length n
  rw [h] at this
  have := Lib.nDigits_pos n
  simp at *
  omega
theorem itoa_pos {n : Int} (h0 : 0 ≤ n) : 0 < (Lib.itoa n).length := by
  unfold Lib.itoa
  rw [if_neg (by omega)]
  exact List.length_pos_iff.2 (decDigits_ne _)
/-- What a row of digits is worth. -/
def worth (l : List UInt8) : Nat := l.foldl (fun a b => 10 * a + (b.toNat - 48)) 0
theorem worth_append (l : List UInt8) (b : UInt8) : worth (l ++ [b]) = 10 * worth l + (b.toNat - 48) := by
  unfold worth
  rw [List.foldl_append]
  rfl
theorem worth_dec : ∀ n : Nat, worth (Lib.decDigits n) = n := by
  intro n
  induction n using Nat.strongRecOn with
  | _ n ih =>
    rw [Lib.decDigits]
    split
    · rename_i h
      unfold worth
      simp only [List.foldl_cons, List.foldl_nil, UInt8.toNat_ofNat']
      omega
    · rename_i h
      rw [worth_append, ih (n / 10) (by omega), UInt8.toNat_ofNat']
      omega
theorem worth_ge : ∀ (r : List UInt8) (a : Nat), a ≤ r.foldl (fun a b => 10 * a + (b.toNat - 48)) a
  | [], a => Nat.le_refl _
  | b :: r, a => Nat.le_trans (by omega) (worth_ge r (10 * a + (b.toNat - 48)))
theorem worth_mono (l r : List UInt8) : worth l ≤ worth (l ++ r) := by
  unfold worth
  rw [List.foldl_append]
  exact worth_ge r _
theorem worth_take (l : List UInt8) (k : Nat) : worth (l.take k) ≤ worth l := by
  have := worth_mono (l.take k) (l.drop k)
  rwa [List.take_append_drop] at this
/-- The first digit is 0 of 0 alone. -/
theorem decDigits_head : ∀ n : Nat, 0 < n → ∀ b, (Lib.decDigits n)[0]? = some b → b.toNat ≠ 48 := by
  intro n
  induction n using Nat.strongRecOn with
  | _ n ih =>
    intro hn b hb
    rw [Lib.decDigits] at hb
    split at hb
    · rename_i h
      rw [List.getElem?_cons_zero] at hb
      obtain rfl := Option.some.inj hb
      rw [UInt8.toNat_ofNat']
      omega
    · rename_i h
      rw [List.getElem?_append_left (List.length_pos_iff.2 (decDigits_ne _))] at hb
      exact ih (n / 10) (by omega) (by omega) b hb
theorem itoa_inj {n m : Int} (hn : 0 ≤ n) (hm : 0 ≤ m) (h : Lib.itoa n = Lib.itoa m) : n = m := by
  unfold Lib.itoa at h
  rw [if_neg (by omega), if_neg (by omega)] at h
  have := congrArg worth h
  rw [worth_dec, worth_dec] at this
  omega
/-! ### The first place of a byte -/
theorem indexByte_at : ∀ (a r : List UInt8) (c : UInt8), c ∉ a → Lib.indexByte (a ++ c :: r) c = a.length
  | [], r, c, _ => by simp [Lib.indexByte]
  | b :: a, r, c, h => by
    have hb : ¬ b = c := fun e => h (by simp [e])
    have ih := indexByte_at a r c (fun hm => h (List.mem_cons_of_mem _ hm))
    simp only [List.cons_append, Lib.indexByte, List.length_cons]
    rw [ih, if_neg (by simpa using hb), if_neg (by rw [beq_iff_eq]; omega)]
    omega
theorem indexByte_no : ∀ (a : List UInt8) (c : UInt8), c ∉ a → Lib.indexByte a c = -1
  | [], c, _ => rfl
  | b :: a, c, h => by
    have hb : ¬ b = c := fun e => h (by simp [e])
    have ih := indexByte_no a c (fun hm => h (List.mem_cons_of_mem _ hm))
    simp only [Lib.indexByte]
    rw [ih, if_neg (by simpa using hb)]
    rfl
theorem cut_at (a r : List UInt8) (h : (32 : UInt8) ∉ a) : Lib.cut (a ++ 32 :: r) [32] = (a, r, true) := by
  unfold Lib.cut
  rw [Lib.index_one, indexByte_at a r 32 h, if_pos (by omega)]
  simp
theorem cut_no (a : List UInt8) (h : (32 : UInt8) ∉ a) : Lib.cut a [32] = (a, [], false) := by
  unfold Lib.cut
  rw [Lib.index_one, indexByte_no a 32 h, if_neg (by omega)]
theorem itoa_no32 {n : Int} (h0 : 0 ≤ n) : (32 : UInt8) ∉ Lib.itoa n := fun h => by
  have := itoa_mem h0 h
  simp at this
/-! ### Beginnings -/
theorem no_prefix {a w r : List UInt8} {c : UInt8} (ha : (32 : UInt8) ∉ a) (hc : c ≠ 32) (hw : c ∉ w) : Lib.hasPrefix (a ++ c :: r) (w ++ [32]) = false := by
  unfold Lib.hasPrefix
  rw [Bool.eq_false_iff]
  intro h
  obtain ⟨t, ht⟩ := List.isPrefixOf_iff_prefix.1 h
  rcases Nat.lt_trichotomy w.length a.length with h1 | h1 | h1
  · have e := congrArg (fun l => l[w.length]?) ht
    simp only [List.append_assoc, List.getElem?_append_right (Nat.le_refl w.length), Nat.sub_self, List.singleton_append, List.getElem?_cons_zero, List.getElem?_append_left h1] at e
    exact ha (List.mem_of_getElem? e.symm)
  · have e := congrArg (fun l => l[w.length]?) ht
    simp only [List.append_assoc, List.getElem?_append_right (Nat.le_refl w.length), Nat.sub_self, List.singleton_append, List.getElem?_cons_zero] at e
    rw [List.getElem?_append_right (by omega), h1, Nat.sub_self, List.getElem?_cons_zero] at e
    exact hc (Option.some.inj e).symm
  · have e := congrArg (fun l => l[a.length]?) ht
    simp only [List.append_assoc, List.getElem?_append_right (Nat.le_refl a.length), Nat.sub_self, List.getElem?_cons_zero, List.getElem?_append_left h1] at e
    exact hw (List.mem_of_getElem? e)
theorem yes_prefix (w r : List UInt8) : Lib.hasPrefix (w ++ r) w = true := by
  unfold Lib.hasPrefix
  exact List.isPrefixOf_iff_prefix.2 ⟨r, rfl⟩
def powerB : List UInt8 := [112, 111, 119, 101, 114, 32]
def crashB : List UInt8 := [99, 114, 97, 115, 104, 32]
theorem name_no32 {u : ByteArray} (h : nameB u = true) : (32 : UInt8) ∉ dl u := fun hb => (name_not h hb).1 rfl
theorem ask_power {u : ByteArray} (hu : nameB u = true) (c : UInt8) (hc : c = 58 ∨ c = 33) (r : List UInt8) : Lib.hasPrefix (dl u ++ c :: r) powerB = false := by
  have : powerB = [112, 111, 119, 101, 114] ++ [32] := rfl
  rw [this]
  exact no_prefix (name_no32 hu) (by rcases hc with rfl | rfl <;> decide) (by rcases hc with rfl | rfl <;> decide)
theorem ask_crash {u : ByteArray} (hu : nameB u = true) (c : UInt8) (hc : c = 58 ∨ c = 33) (r : List UInt8) : Lib.hasPrefix (dl u ++ c :: r) crashB = false := by
  have : crashB = [99, 114, 97, 115, 104] ++ [32] := rfl
  rw [this]
  exact no_prefix (name_no32 hu) (by rcases hc with rfl | rfl <;> decide) (by rcases hc with rfl | rfl <;> decide)
/-- Where a line of an ask has its sign. -/
theorem ask_any {u : ByteArray} (hu : nameB u = true) (c : UInt8) (hc : c = 58 ∨ c = 33) (r : List UInt8) : Lib.indexAny (dl u ++ c :: r) [58, 33] = u.size := by
  have hno : Lib.NoAny (dl u ++ c :: r) [58, 33] u.size := fun j b hj hb => by
    rw [List.getElem?_append_left (by rw [dl_size]; exact hj)] at hb
    have := name_not hu (List.mem_of_getElem? hb)
    have h1 : b ≠ 58 := fun e => this.2.2.1 (by rw [e]; rfl)
    have h2 : b ≠ 33 := fun e => this.2.1 (by rw [e]; rfl)
    simp [h1, h2]
  exact Lib.indexAny_hit hno (by rw [List.getElem?_append_right (by rw [dl_size]; exact Nat.le_refl _), dl_size, Nat.sub_self, List.getElem?_cons_zero]) (by rcases hc with rfl | rfl <;> rfl)
theorem sign_mem {a b r : List UInt8} {c : UInt8} (h : a ++ c :: r = b) : c ∈ b := h ▸ List.mem_append_right _ (List.mem_cons_self ..)
theorem ask_not_tick {u : ByteArray} (c : UInt8) (hc : c = 58 ∨ c = 33) (r : List UInt8) : dl u ++ c :: r ≠ [116, 105, 99, 107] := fun h => by
  have := sign_mem h
  rcases hc with rfl | rfl <;> simp at this
theorem ask_not_check {u : ByteArray} (c : UInt8) (hc : c = 58 ∨ c = 33) (r : List UInt8) : dl u ++ c :: r ≠ [99, 104, 101, 99, 107, 112, 111, 105, 110, 116] := fun h => by
  have := sign_mem h
  rcases hc with rfl | rfl <;> simp at this
/-! ### Beginnings, cut off -/
set_option maxHeartbeats 1000000 in
theorem hasPrefix55 (s p : ByteArray) (w : World) :
    Calls Tryz.prog 55 #[.string s, .string p] w fun e w' => e = .returned (.bool (Lib.hasPrefix (dl s) (dl p))) ∧ w' = w := by
  unfold dl
  rw [← Lib.hasPrefix_of_take, ← Lib.size_eq, ← Lib.size_eq]
  go_enter Tryz.func55, Tryz.ntmps55
  go_wp2
  · rename_i h
    go_ret
    refine ⟨?_, rfl⟩
    show Ending.returned (Value.bool ((s.extract 0 p.size).toList == p.toList)) = _
    rw [Lib.extract_toList, Lib.toList_data]
    simp [h]
  · rename_i h
    go_ret
    refine ⟨?_, rfl⟩
    show Ending.returned (Value.bool false) = _
    simp [h]
theorem hasPrefix30 (s p : ByteArray) (w : World) :
    Calls Tryz.prog 30 #[.string s, .string p] w fun e w' => e = .returned (.bool (Lib.hasPrefix (dl s) (dl p))) ∧ w' = w := by
  go_enter Tryz.func30, Tryz.ntmps30
  go_wp2_with (go_at_call 55; refine (hasPrefix55 _ _ _).mono ?_; rintro e w' ⟨rfl, rfl⟩)
  go_ret
  exact ⟨rfl, rfl⟩
theorem begins31 (s p : ByteArray) (w : World) :
    Calls Tryz.prog 31 #[.string s, .string p] w fun e w' => e = .returned (.bool (Lib.hasPrefix (dl s) (dl p))) ∧ w' = w := by
  unfold dl
  rw [← Lib.hasPrefix_of_take, ← Lib.size_eq, ← Lib.size_eq]
  go_enter Tryz.func31, Tryz.ntmps31
  go_wp2
  · rename_i h
    go_ret
    refine ⟨?_, rfl⟩
    show Ending.returned (Value.bool ((s.extract 0 p.size).toList == p.toList)) = _
    rw [Lib.extract_toList, Lib.toList_data]
    simp [h]
  · rename_i h
    go_ret
    refine ⟨?_, rfl⟩
    show Ending.returned (Value.bool false) = _
    simp [h]
def cutP (s p : ByteArray) : ByteArray := if Lib.hasPrefix (dl s) (dl p) = true then s.extract p.size s.size else s
theorem prefix_le {s p : ByteArray} (h : Lib.hasPrefix (dl s) (dl p) = true) : p.size ≤ s.size := by
  have := (List.isPrefixOf_iff_prefix.1 h).length_le
  exact this
theorem cutP_size (s p : ByteArray) : (cutP s p).size ≤ s.size := by
  unfold cutP
  split
  · rw [ByteArray.size_extract]; omega
  · omega
theorem dl_cutP {s p : ByteArray} {r : List UInt8} (h : dl s = dl p ++ r) : dl (cutP s p) = r := by
  unfold cutP
  rw [if_pos (by rw [h]; exact yes_prefix _ _)]
  show (s.extract p.size s.size).data.toList = r
  rw [Lib.extract_data]
  have h : s.data.toList = p.data.toList ++ r := h
  have hl : s.size = (dl s).length := rfl
  rw [h, Lib.size_eq p, List.drop_left]
  refine List.take_of_length_le ?_
  rw [Lib.size_eq s, h, List.length_append]
  omega
set_option maxHeartbeats 1000000 in
theorem cutPrefix48 (s p : ByteArray) (w : World) (hs : s.size ≤ maxLen) :
    Calls Tryz.prog 48 #[.string s, .string p] w fun e w' => e = .returned (.tuple #[.string (cutP s p), .bool (Lib.hasPrefix (dl s) (dl p))]) ∧ w' = w := by
  unfold maxLen at hs
  cases h : Lib.hasPrefix (dl s) (dl p) with
  | false =>
    have HC : Aside (cutP s p = s) := ⟨by unfold cutP; rw [h, if_neg (by simp)]⟩
    have HH := Aside.mk h
    clear h
    go_enter Tryz.func48, Tryz.ntmps48
    go_wp2_with (go_at_call 55; refine (hasPrefix55 _ _ _).mono ?_; rintro e w' ⟨rfl, rfl⟩; rw [HH.out])
    go_ret2
    exact ⟨by rw [HC.out]; rfl, rfl⟩
  | true =>
    have hle := prefix_le h
    have HC : Aside (cutP s p = s.extract p.size s.size) := ⟨by unfold cutP; rw [h, if_pos rfl]⟩
    have HH := Aside.mk h
    clear h
    go_enter Tryz.func48, Tryz.ntmps48
    go_wp2_with (go_at_call 55; refine (hasPrefix55 _ _ _).mono ?_; rintro e w' ⟨rfl, rfl⟩; rw [HH.out])
    go_ret2
    exact ⟨by rw [HC.out]; rfl, rfl⟩
theorem cutPrefix27 (s p : ByteArray) (w : World) (hs : s.size ≤ maxLen) :
    Calls Tryz.prog 27 #[.string s, .string p] w fun e w' => e = .returned (.tuple #[.string (cutP s p), .bool (Lib.hasPrefix (dl s) (dl p))]) ∧ w' = w := by
  go_enter Tryz.func27, Tryz.ntmps27
  go_wp2_with (go_at_call 48; refine (cutPrefix48 _ _ _ hs).mono ?_; rintro e w' ⟨rfl, rfl⟩)
  go_ret2
  exact ⟨rfl, rfl⟩
/-! ### value.Read -/
/-- What a reading of a value's text gives: whatever it be, and just the number where the text is a number's. -/
def ReadSays (s sym : ByteArray) (num : Int) (ok : Bool) : Prop := ∀ n : Int, 0 ≤ n → n ≤ 1099511627776 → dl s = Lib.itoa n → sym = ⟨#[]⟩ ∧ num = n ∧ ok = true
theorem itoa_not_name {s : ByteArray} {n : Int} (h0 : 0 ≤ n) (h : dl s = Lib.itoa n) : nameB s = false := by
  cases hn : nameB s with
  | false => rfl
  | true =>
    exfalso
    obtain ⟨_, h2, _, h4⟩ := name_parts hn
    have h5 := h4 h2
    have : s[0] ∈ dl s := List.mem_of_getElem? (data_getElem? s 0 h2)
    rw [h] at this
    have := itoa_mem h0 this
    omega
theorem itoa_no_minus {s : ByteArray} {n : Int} (h0 : 0 ≤ n) (h : dl s = Lib.itoa n) : Lib.hasPrefix (dl s) (dl ⟨#[45]⟩) = false := by
  unfold Lib.hasPrefix
  rw [Bool.eq_false_iff]
  intro hp
  obtain ⟨t, ht⟩ := List.isPrefixOf_iff_prefix.1 hp
  have : (45 : UInt8) ∈ dl s := by rw [← ht]; exact List.mem_append_left _ (by simp [dl])
  rw [h] at this
  have := itoa_mem h0 this
  simp at this
theorem itoa_small {n : Int} (h0 : 0 ≤ n) (h1 : n ≤ 1099511627776) : (Lib.itoa n).length ≤ 13 := by
  obtain ⟨N, rfl⟩ : ∃ N : Nat, n = N := ⟨n.toNat, by omega⟩
  rw [Lib.itoa_nonneg, Lib.decDigits_length]
  by_cases hz : N = 0
  · subst hz; rw [Lib.nDigits_small (by omega)]; omega
  · rcases Nat.lt_or_ge (Lib.nDigits N) 14 with h | h
    · omega
    · exfalso
      have hd := Lib.decDigits_length N
      have hw := Lib.lt_pow_nDigits (N / 10)
      have e : Lib.nDigits N = Lib.nDigits (N / 10) + 1 := Lib.nDigits_big (fun hc => by rw [Lib.nDigits_small hc] at h; omega)
      have hlow : ∀ k u : Nat, k + 1 ≤ Lib.nDigits u → 0 < k → 10 ^ k ≤ u := by
        intro k
        induction k with
        | zero => intro u _ h; omega
        | succ k ih =>
          intro u hu _
          have hb : ¬ u < 10 := fun hc => by rw [Lib.nDigits_small hc] at hu; omega
          rw [Lib.nDigits_big hb] at hu
          by_cases hk : k = 0
          · subst hk; omega
          · have := ih (u / 10) (by omega) (by omega)
            rw [Nat.pow_succ]
            omega
      have := hlow 13 N (by omega) (by omega)
      omega
theorem itoa_zero_head {s : ByteArray} {n : Int} (h0 : 0 ≤ n) (h : dl s = Lib.itoa n) (hs : 0 < s.size) (hz : s[0].toNat = 48) : s.size = 1 := by
  obtain ⟨N, rfl⟩ : ∃ N : Nat, n = N := ⟨n.toNat, by omega⟩
  rw [Lib.itoa_nonneg] at h
  by_cases hN : N = 0
  · subst hN
    rw [← dl_size, h, Lib.decDigits_one (by omega)]
    rfl
  · exfalso
    have hg := data_getElem? s 0 hs
    rw [show s.data.toList = Lib.decDigits N from h] at hg
    exact decDigits_head N (by omega) _ hg hz
/-- What value.Read goes through behind the sign: the digits so far. -/
def DigSays (s d : ByteArray) (k u : Nat) : Prop := ∀ n : Int, 0 ≤ n → n ≤ 1099511627776 → dl s = Lib.itoa n → d = s ∧ u = worth ((dl d).take k)
theorem digSays_zero (s d : ByteArray) (h : ∀ n : Int, 0 ≤ n → n ≤ 1099511627776 → dl s = Lib.itoa n → d = s) : DigSays s d 0 0 := fun n h0 h1 e => ⟨h n h0 h1 e, by simp [worth]⟩
theorem worth_bound {s : ByteArray} {n : Int} (h0 : 0 ≤ n) (h1 : n ≤ 1099511627776) (h : dl s = Lib.itoa n) (k : Nat) : worth ((dl s).take k) ≤ 1099511627776 := by
  obtain ⟨N, rfl⟩ : ∃ N : Nat, n = N := ⟨n.toNat, by omega⟩
  have := worth_take (dl s) k
  rw [h, Lib.itoa_nonneg] at this ⊢
  rw [worth_dec] at this
  omega
theorem worth_all {s : ByteArray} {n : Int} (h0 : 0 ≤ n) (h : dl s = Lib.itoa n) : (worth (dl s) : Int) = n := by
  obtain ⟨N, rfl⟩ : ∃ N : Nat, n = N := ⟨n.toNat, by omega⟩
  rw [h, Lib.itoa_nonneg, worth_dec]
theorem worth_succ (d : ByteArray) (k : Nat) (h : k < d.size) : worth ((dl d).take (k + 1)) = 10 * worth ((dl d).take k) + (d[k].toNat - 48) := by
  rw [List.take_succ_eq_append_getElem (show k < (dl d).length from h), worth_append]
  rfl
theorem digSays_succ {s d : ByteArray} {k u : Nat} (hk : k < d.size) (h : DigSays s d k u) : DigSays s d (k + 1) ((10 * u + (d[k].toNat - 48)) % 18446744073709551616) := fun n h0 h1 e => by
  obtain ⟨rfl, hu⟩ := h n h0 h1 e
  refine ⟨rfl, ?_⟩
  rw [hu, ← worth_succ d k hk]
  have := worth_bound h0 h1 e (k + 1)
  exact Nat.mod_eq_of_lt (by omega)
theorem itoa_digit {s : ByteArray} {n : Int} (h0 : 0 ≤ n) (h : dl s = Lib.itoa n) (k : Nat) (hk : k < s.size) : 48 ≤ s[k].toNat ∧ s[k].toNat ≤ 57 := by
  have : s[k] ∈ dl s := List.mem_of_getElem? (data_getElem? s k hk)
  rw [h] at this
  exact itoa_mem h0 this
theorem post50 {R : Ending → World → Prop} {tmps : Array Value} {b : Nat} {sym : ByteArray} {num : Int} {ok : Bool} {w : World} (h2 : tmps.getD 2 undef = .pointer (some ⟨b, 0, none⟩)) (h3 : tmps.getD 3 undef = .bool ok)
    (c0 : w.cell? ⟨b, 0, none⟩ = some (.string sym)) (c1 : w.cell? ⟨b, 1, none⟩ = some (.int .i64 num)) (hR : R (.returned (.tuple #[.agg #[.string sym, .int .i64 num], .bool ok])) w) :
    bodyPost Tryz.prog Tryz.f50 R .ret { tmps := tmps, defers := [] } w := by
  refine bodyPost_ret (v := .tuple #[.agg #[.string sym, .int .i64 num], .bool ok]) ?_ rfl hR
  show (results Tryz.f50 tmps).run Tryz.prog w = _
  rw [results_cell_tmp (ty := 89) (p := 2) (u := 3) rfl, h2, h3]
  simp [go_sem, c0, c1, loadVar, asAddr, Tryz.underlying89]
/-- What value.Read hands back. -/
def ReadOut (s : ByteArray) (e : Ending) : Prop := ∃ sym num ok, e = .returned (.tuple #[.agg #[.string sym, .int .i64 num], .bool ok]) ∧ ReadSays s sym num ok
theorem readOut {s sym : ByteArray} {num : Int} {ok : Bool} (h : ReadSays s sym num ok) : ReadOut s (.returned (.tuple #[.agg #[.string sym, .int .i64 num], .bool ok])) := ⟨_, _, _, rfl, h⟩
theorem readSays_of {s sym : ByteArray} {num : Int} {ok : Bool} (h : ∀ n : Int, 0 ≤ n → n ≤ 1099511627776 → dl s ≠ Lib.itoa n) : ReadSays s sym num ok := fun n h0 h1 e => absurd e (h n h0 h1)
theorem readSays_no {s : ByteArray} (h : ∀ n : Int, 0 ≤ n → n ≤ 1099511627776 → dl s = Lib.itoa n → False) : ReadSays s ⟨#[]⟩ 0 false := fun n h0 h1 e => absurd e (h n h0 h1)
set_option maxRecDepth 100000 in
set_option maxHeartbeats 8000000 in
theorem readV_calls (s : ByteArray) (w : World) (hs : s.size ≤ 1000000) :
    Calls Tryz.prog 50 #[.string s] w fun e w' => ReadOut s e ∧ Below w.heap.size w w' := by
  have hm : s.size ≤ maxLen := by unfold maxLen; omega
  cases hn : nameB s with
  | true =>
    have HS : Aside (ReadSays s s 0 true) := ⟨fun n h0 _ h => by rw [itoa_not_name h0 h] at hn; cases hn⟩
    have HN := Aside.mk hn
    clear hn
    go_enter Tryz.func50, Tryz.ntmps50
    go_wp2_with (go_at_call 33; refine (name_calls _ _ hm).mono ?_; rintro e w' ⟨rfl, rfl⟩; rw [HN.out])
    all_goals ((try simp only [Exit.inBlock, Exit.then]); exact post50 rfl rfl (by simp) (by simp) ⟨readOut (HS.out), (Below.refl _ _).alloc (Nat.le_refl _) _⟩)
  | false =>
    have HN := Aside.mk hn
    clear hn
    obtain ⟨d, hd⟩ : ∃ d, cutP s ⟨#[45]⟩ = d := ⟨_, rfl⟩
    obtain ⟨neg, hneg⟩ : ∃ neg, Lib.hasPrefix (dl s) (dl ⟨#[45]⟩) = neg := ⟨_, rfl⟩
    have hds : d.size ≤ 1000000 := by have := cutP_size s ⟨#[45]⟩; rw [hd] at this; omega
    have HX : Aside (∀ n : Int, 0 ≤ n → n ≤ 1099511627776 → dl s = Lib.itoa n → d = s ∧ neg = false) := ⟨fun n h0 h1 h => by
      have hp := itoa_no_minus h0 h
      rw [hp] at hneg
      refine ⟨?_, hneg.symm⟩
      rw [← hd]
      unfold cutP
      rw [hp, if_neg (by simp)]⟩
    have HC := Aside.mk hd
    have HG := Aside.mk hneg
    clear hd hneg
    have hsz : ∀ n : Int, 0 ≤ n → n ≤ 1099511627776 → dl s = Lib.itoa n → 0 < d.size ∧ d.size ≤ 13 := fun n h0 h1 e => by
      obtain ⟨rfl, _⟩ := HX.out n h0 h1 e
      have e2 : d.size = (dl d).length := rfl
      rw [e2, e]
      exact ⟨itoa_pos h0, itoa_small h0 h1⟩
    have HZ := Aside.mk hsz
    clear hsz
    by_cases hA : d.size = 0
    · have HNO : Aside (ReadSays s ⟨#[]⟩ 0 false) := ⟨readSays_no fun n h0 h1 e => by have := HZ.out n h0 h1 e; omega⟩
      have hA2 : d.toList.isEmpty = true := by
        have := toList_nil d
        rw [decide_eq_true hA] at this
        simpa using this
      clear hA
      go_enter Tryz.func50, Tryz.ntmps50
      go_wp2_with (first | (go_at_call 33; refine (name_calls _ _ hm).mono ?_; rintro e w' ⟨rfl, rfl⟩; rw [HN.out]) | (go_at_call 27; refine (cutPrefix27 _ _ _ hm).mono ?_; rintro e w' ⟨rfl, rfl⟩; rw [HC.out, HG.out]))
      all_goals ((try simp only [Exit.inBlock, Exit.then]); exact post50 rfl rfl (by simp) (by simp) ⟨readOut (HNO.out), (Below.refl _ _).alloc (Nat.le_refl _) _⟩)
    have hA2 : d.toList.isEmpty = false := by
      have := toList_nil d
      rw [decide_eq_false hA] at this
      simpa using this
    have hpos : 0 < d.size := by omega
    clear hA
    by_cases hB : (19 : Int) < (d.size : Int)
    · have HNO : Aside (ReadSays s ⟨#[]⟩ 0 false) := ⟨readSays_no fun n h0 h1 e => by have := HZ.out n h0 h1 e; omega⟩
      go_enter Tryz.func50, Tryz.ntmps50
      go_wp2_with (first | (go_at_call 33; refine (name_calls _ _ hm).mono ?_; rintro e w' ⟨rfl, rfl⟩; rw [HN.out]) | (go_at_call 27; refine (cutPrefix27 _ _ _ hm).mono ?_; rintro e w' ⟨rfl, rfl⟩; rw [HC.out, HG.out]))
      all_goals ((try simp only [Exit.inBlock, Exit.then]); exact post50 rfl rfl (by simp) (by simp) ⟨readOut (HNO.out), (Below.refl _ _).alloc (Nat.le_refl _) _⟩)
    by_cases hz : (d[0].toNat : Int) = 48
    · by_cases hq : neg = true ∨ 1 < d.size
      · have HNO : Aside (ReadSays s ⟨#[]⟩ 0 false) := ⟨readSays_no fun n h0 h1 e => by
          obtain ⟨rfl, e2⟩ := HX.out n h0 h1 e
          have := itoa_zero_head h0 e hpos (by omega)
          rcases hq with h | h
          · rw [e2] at h; cases h
          · omega⟩
        have hz2 : ((d[0].toNat : Int) == 48) = true := beq_iff_eq.mpr hz
        clear hz
        cases neg with
        | true =>
          go_enter Tryz.func50, Tryz.ntmps50
          go_wp2_with (first | (go_at_call 33; refine (name_calls _ _ hm).mono ?_; rintro e w' ⟨rfl, rfl⟩; rw [HN.out]) | (go_at_call 27; refine (cutPrefix27 _ _ _ hm).mono ?_; rintro e w' ⟨rfl, rfl⟩; rw [HC.out, HG.out]))
          all_goals ((try simp only [Exit.inBlock, Exit.then]); exact post50 rfl rfl (by simp) (by simp) ⟨readOut (HNO.out), (Below.refl _ _).alloc (Nat.le_refl _) _⟩)
        | false =>
          have hq2 : (1 : Int) < (d.size : Int) := by rcases hq with h | h; cases h; omega
          clear hq
          go_enter Tryz.func50, Tryz.ntmps50
          go_wp2_with (first | (go_at_call 33; refine (name_calls _ _ hm).mono ?_; rintro e w' ⟨rfl, rfl⟩; rw [HN.out]) | (go_at_call 27; refine (cutPrefix27 _ _ _ hm).mono ?_; rintro e w' ⟨rfl, rfl⟩; rw [HC.out, HG.out]))
          all_goals ((try simp only [Exit.inBlock, Exit.then]); exact post50 rfl rfl (by simp) (by simp) ⟨readOut (HNO.out), (Below.refl _ _).alloc (Nat.le_refl _) _⟩)
      · have hz2 : ((d[0].toNat : Int) == 48) = true := beq_iff_eq.mpr hz
        have hq2 : ¬ (1 : Int) < (d.size : Int) := by omega
        obtain rfl : neg = false := by cases neg with
          | true => exact absurd (.inl rfl) hq
          | false => rfl
        clear hz hq
        go_enter Tryz.func50, Tryz.ntmps50
        go_wp2_with (first | (go_at_call 33; refine (name_calls _ _ hm).mono ?_; rintro e w' ⟨rfl, rfl⟩; rw [HN.out]) | (go_at_call 27; refine (cutPrefix27 _ _ _ hm).mono ?_; rintro e w' ⟨rfl, rfl⟩; rw [HC.out, HG.out]))
        clear hz2 hq2
        go_loop [6, 40] (fun uv iv => ∃ k u : Nat, k ≤ d.size ∧ iv = .int .i64 k ∧ uv = .int .u64 u ∧ u < 18446744073709551616 ∧ Aside (DigSays s d k u)) (fun _ iv => d.size - (intOf iv).toNat)
        case atStart => exact ⟨0, 0, Nat.zero_le _, rfl, rfl, by omega, ⟨digSays_zero s d fun n h0 h1 h => (HX.out n h0 h1 h).1⟩⟩
        case round =>
          obtain ⟨k, u, hk, rfl, rfl, hu, hD⟩ := hrel
          by_cases hlt : k < d.size
          · have hno : (d[k].toNat < 48 ∨ 57 < d[k].toNat) → Aside (ReadSays s ⟨#[]⟩ 0 false) := fun h => ⟨readSays_no fun n h0 h1 e => by
              obtain ⟨rfl, _⟩ := HX.out n h0 h1 e
              have := itoa_digit h0 e k hlt
              omega⟩
            have hsucc := digSays_succ hlt hD.out
            have HS := Aside.mk hsucc
            clear hsucc
            by_cases c1 : (d[k].toNat : Int) < 48
            · have HN := hno (.inl (by omega))
              clear hno
              go_wp2
              all_goals ((try simp only [Exit.inBlock, Exit.then]); exact post50 rfl rfl (by simp) (by simp) ⟨readOut (HN.out), (Below.refl _ _).alloc (Nat.le_refl _) _⟩)
            · by_cases c2 : (57 : Int) < (d[k].toNat : Int)
              · have HN := hno (.inr (by omega))
                clear hno
                go_wp2
                all_goals ((try simp only [Exit.inBlock, Exit.then]); exact post50 rfl rfl (by simp) (by simp) ⟨readOut (HN.out), (Below.refl _ _).alloc (Nat.le_refl _) _⟩)
              · clear hno
                go_wp2
                all_goals
                  go_round
                  case rel => exact ⟨k + 1, (10 * u + (d[k].toNat - 48)) % 18446744073709551616, by omega, by go_num, by congr 1; simp only [IntKind.wrap_u64]; omega, by omega, HS⟩
                  case measure => simp [intOf]; omega
          · have hk2 : k = d.size := by omega
            subst hk2
            have hend : ∀ n : Int, 0 ≤ n → n ≤ 1099511627776 → dl s = Lib.itoa n → (u : Int) = n := fun n h0 h1 e => by
              obtain ⟨e1, e2⟩ := hD.out n h0 h1 e
              skip
              rw [e2, e1, show (dl s).take s.size = dl s from List.take_of_length_le (Nat.le_refl _)]
              exact worth_all h0 e
            have HE := Aside.mk hend
            clear hend
            by_cases hu2 : (u : Int) < 9223372036854775808
            · have HN : Aside (ReadSays s ⟨#[]⟩ (u : Int) true) := ⟨fun n h0 h1 e => ⟨rfl, HE.out n h0 h1 e, rfl⟩⟩
              go_wp2
              all_goals ((try simp only [Exit.inBlock, Exit.then]); exact post50 rfl rfl (by simp) (by simp) ⟨readOut (HN.out), (Below.refl _ _).alloc (Nat.le_refl _) _⟩)
            · have HN : Aside (ReadSays s ⟨#[]⟩ 0 false) := ⟨readSays_no fun n h0 h1 e => by have := HE.out n h0 h1 e; omega⟩
              go_wp2
              all_goals ((try simp only [Exit.inBlock, Exit.then]); exact post50 rfl rfl (by simp) (by simp) ⟨readOut (HN.out), (Below.refl _ _).alloc (Nat.le_refl _) _⟩)
    · have hz2 : ((d[0].toNat : Int) == 48) = false := beq_eq_false_iff_ne.mpr hz
      clear hz
      go_enter Tryz.func50, Tryz.ntmps50
      go_wp2_with (first | (go_at_call 33; refine (name_calls _ _ hm).mono ?_; rintro e w' ⟨rfl, rfl⟩; rw [HN.out]) | (go_at_call 27; refine (cutPrefix27 _ _ _ hm).mono ?_; rintro e w' ⟨rfl, rfl⟩; rw [HC.out, HG.out]))
      clear hz2
      go_loop [6, 40] (fun uv iv => ∃ k u : Nat, k ≤ d.size ∧ iv = .int .i64 k ∧ uv = .int .u64 u ∧ u < 18446744073709551616 ∧ Aside (DigSays s d k u)) (fun _ iv => d.size - (intOf iv).toNat)
      case atStart => exact ⟨0, 0, Nat.zero_le _, rfl, rfl, by omega, ⟨digSays_zero s d fun n h0 h1 h => (HX.out n h0 h1 h).1⟩⟩
      case round =>
        obtain ⟨k, u, hk, rfl, rfl, hu, hD⟩ := hrel
        by_cases hlt : k < d.size
        · have hno : (d[k].toNat < 48 ∨ 57 < d[k].toNat) → Aside (ReadSays s ⟨#[]⟩ 0 false) := fun h => ⟨readSays_no fun n h0 h1 e => by
            obtain ⟨rfl, _⟩ := HX.out n h0 h1 e
            have := itoa_digit h0 e k hlt
            omega⟩
          have hsucc := digSays_succ hlt hD.out
          have HS := Aside.mk hsucc
          clear hsucc
          by_cases c1 : (d[k].toNat : Int) < 48
          · have HN := hno (.inl (by omega))
            clear hno
            go_wp2
            all_goals ((try simp only [Exit.inBlock, Exit.then]); exact post50 rfl rfl (by simp) (by simp) ⟨readOut (HN.out), (Below.refl _ _).alloc (Nat.le_refl _) _⟩)
          · by_cases c2 : (57 : Int) < (d[k].toNat : Int)
            · have HN := hno (.inr (by omega))
              clear hno
              go_wp2
              all_goals ((try simp only [Exit.inBlock, Exit.then]); exact post50 rfl rfl (by simp) (by simp) ⟨readOut (HN.out), (Below.refl _ _).alloc (Nat.le_refl _) _⟩)
            · clear hno
              go_wp2
              all_goals
                go_round
                case rel => exact ⟨k + 1, (10 * u + (d[k].toNat - 48)) % 18446744073709551616, by omega, by go_num, by congr 1; simp only [IntKind.wrap_u64]; omega, by omega, HS⟩
                case measure => simp [intOf]; omega
        · have hk2 : k = d.size := by omega
          subst hk2
          have hend : ∀ n : Int, 0 ≤ n → n ≤ 1099511627776 → dl s = Lib.itoa n → neg = false ∧ (u : Int) = n := fun n h0 h1 e => by
            obtain ⟨e1, e2⟩ := hD.out n h0 h1 e
            refine ⟨(HX.out n h0 h1 e).2, ?_⟩
            rw [e2, e1, show (dl s).take s.size = dl s from List.take_of_length_le (Nat.le_refl _)]
            exact worth_all h0 e
          have HE := Aside.mk hend
          clear hend
          cases neg with
          | true =>
            have HN : Aside (∀ num ok, ReadSays s ⟨#[]⟩ num ok) := ⟨fun num ok => readSays_of fun n h0 h1 e => by have := (HE.out n h0 h1 e).1; cases this⟩
            go_wp2
            all_goals ((try simp only [Exit.inBlock, Exit.then]); exact post50 rfl rfl (by simp) (by simp <;> rfl) ⟨readOut (HN.out _ _), (Below.refl _ _).alloc (Nat.le_refl _) _⟩)
          | false =>
            by_cases hu2 : (u : Int) < 9223372036854775808
            · have HN : Aside (ReadSays s ⟨#[]⟩ (u : Int) true) := ⟨fun n h0 h1 e => ⟨rfl, (HE.out n h0 h1 e).2, rfl⟩⟩
              go_wp2
              all_goals ((try simp only [Exit.inBlock, Exit.then]); exact post50 rfl rfl (by simp) (by simp) ⟨readOut (HN.out), (Below.refl _ _).alloc (Nat.le_refl _) _⟩)
            · have HN : Aside (ReadSays s ⟨#[]⟩ 0 false) := ⟨readSays_no fun n h0 h1 e => by have := (HE.out n h0 h1 e).2; omega⟩
              go_wp2
              all_goals ((try simp only [Exit.inBlock, Exit.then]); exact post50 rfl rfl (by simp) (by simp) ⟨readOut (HN.out), (Below.refl _ _).alloc (Nat.le_refl _) _⟩)
/-- internal/bytealg.MaxLen holds a number. -/
def MaxW (w : World) : Prop := ∃ m : Int, w.cell? ⟨0, 0, none⟩ = some (.int .i64 m)
theorem maxW_below {w W : World} (h : MaxW w) (hb : Below w.heap.size w W) : MaxW W := by
  obtain ⟨m, hm⟩ := h
  exact ⟨m, (hb.cell (World.block_lt_of_cell? _ _ hm)).trans hm⟩
def NumSays (s : ByteArray) (n : Int) (r : ByteArray) : Prop :=
  (∀ (m : Int) (q : List UInt8), 0 ≤ m → m ≤ 1099511627776 → dl s = Lib.itoa m ++ 32 :: q → n = m ∧ dl r = q) ∧ (∀ m : Int, 0 ≤ m → m ≤ 1099511627776 → dl s = Lib.itoa m → n = m)
def NumNot (s : ByteArray) : Prop :=
  (∀ (m : Int) (q : List UInt8), 0 ≤ m → m ≤ 1099511627776 → dl s ≠ Lib.itoa m ++ 32 :: q) ∧ (∀ m : Int, 0 ≤ m → m ≤ 1099511627776 → dl s ≠ Lib.itoa m)
theorem numSays_of {s word rest sym : ByteArray} {num : Int} {ok : Bool} (hw : word = ⟨(Lib.cut (dl s) [32]).1.toArray⟩) (hr : rest = ⟨(Lib.cut (dl s) [32]).2.1.toArray⟩) (h : ReadSays word sym num ok) : NumSays s num rest := by
  refine ⟨fun m q h0 h1 e => ?_, fun m h0 h1 e => ?_⟩
  · rw [e, cut_at _ _ (itoa_no32 h0)] at hw hr
    have := h m h0 h1 (by rw [hw])
    exact ⟨this.2.1, by rw [hr]⟩
  · rw [e, cut_no _ (itoa_no32 h0)] at hw
    exact (h m h0 h1 (by rw [hw])).2.1
theorem numNot_of {s word sym : ByteArray} {num : Int} {ok : Bool} (hw : word = ⟨(Lib.cut (dl s) [32]).1.toArray⟩) (h : ReadSays word sym num ok) (hno : ∀ m : Int, 0 ≤ m → m ≤ 1099511627776 → ¬ (sym = ⟨#[]⟩ ∧ num = m ∧ ok = true)) : NumNot s := by
  refine ⟨fun m q h0 h1 e => ?_, fun m h0 h1 e => ?_⟩
  · rw [e, cut_at _ _ (itoa_no32 h0)] at hw
    exact hno m h0 h1 (h m h0 h1 (by rw [hw]))
  · rw [e, cut_no _ (itoa_no32 h0)] at hw
    exact hno m h0 h1 (h m h0 h1 (by rw [hw]))
/-! ### Lines -/
def splitNL : List UInt8 → List UInt8 → List (List UInt8)
  | cur, [] => [cur]
  | cur, b :: r => if b = 10 then cur :: splitNL [] r else splitNL (cur ++ [b]) r
theorem splitNL_no : ∀ (l cur : List UInt8), (10 : UInt8) ∉ l → splitNL cur l = [cur ++ l]
  | [], cur, _ => by simp [splitNL]
  | b :: r, cur, h => by
    have hb : ¬ b = 10 := fun e => h (by simp [e])
    rw [splitNL, if_neg hb, splitNL_no r _ (fun hm => h (List.mem_cons_of_mem _ hm))]
    simp
theorem splitNL_at : ∀ (a r cur : List UInt8), (10 : UInt8) ∉ a → splitNL cur (a ++ 10 :: r) = (cur ++ a) :: splitNL [] r
  | [], r, cur, _ => by simp [splitNL]
  | b :: a, r, cur, h => by
    have hb : ¬ b = 10 := fun e => h (by simp [e])
    rw [List.cons_append, splitNL, if_neg hb, splitNL_at a r _ (fun hm => h (List.mem_cons_of_mem _ hm))]
    simp
theorem first_ten : ∀ (s : List UInt8), (10 : UInt8) ∈ s → ∃ a r, s = a ++ 10 :: r ∧ (10 : UInt8) ∉ a
  | b :: s, h => by
    by_cases hb : b = 10
    · exact ⟨[], s, by rw [hb]; rfl, by simp⟩
    · obtain ⟨a, r, e, hn⟩ := first_ten s (by rcases List.mem_cons.1 h with e | e; exact absurd e.symm hb; exact e)
      exact ⟨b :: a, r, by rw [e]; rfl, fun hm => by rcases List.mem_cons.1 hm with e | e; exact hb e.symm; exact hn e⟩
theorem splitK_eq : ∀ (k : Nat) (s : List UInt8), s.count 10 = k → Lib.splitK [10] 0 k s = splitNL [] s
  | 0, s, h => by
    rw [splitNL_no s [] (List.count_eq_zero.1 h)]
    rfl
  | k + 1, s, h => by
    obtain ⟨a, r, rfl, hn⟩ := first_ten s (List.count_pos_iff.1 (by omega))
    rw [splitNL_at a r [] hn, Lib.splitK, Lib.index_one, indexByte_at a r 10 hn, if_neg (by rw [beq_iff_eq]; omega)]
    have hr : r.count 10 = k := by
      rw [List.count_append, List.count_eq_zero.2 hn, List.count_cons_self] at h
      omega
    have e1 : ((a.length : Int)).toNat = a.length := by omega
    rw [e1, Nat.add_zero, List.take_left, List.nil_append]
    congr 1
    have e2 : (a ++ 10 :: r).drop (a.length + [(10 : UInt8)].length) = r := by
      rw [show a ++ 10 :: r = (a ++ [10]) ++ r by simp]
      exact List.drop_left' (by simp)
    rw [e2]
    exact splitK_eq k r hr
/-- The lines of a text. -/
def linesOf (s : ByteArray) : List ByteArray := (splitNL [] (dl s)).map bs
theorem splitB_lines (s : ByteArray) : Lib.splitB ⟨#[10]⟩ 0 (Lib.countB s ⟨#[10]⟩) s = linesOf s := by
  have h := Lib.splitB_data ⟨#[10]⟩ 0 (Lib.countB s ⟨#[10]⟩) s
  have hc : Lib.countB s ⟨#[10]⟩ = (dl s).count 10 := by
    show Lib.count s.data.toList [10] = _
    exact Lib.count_one 10 _
  have h2 : (Lib.splitB ⟨#[10]⟩ 0 (Lib.countB s ⟨#[10]⟩) s).map (·.data.toList) = splitNL [] (dl s) := by
    rw [h, hc]
    exact splitK_eq _ _ rfl
  unfold linesOf
  rw [← h2, List.map_map]
  conv => lhs; rw [← List.map_id (Lib.splitB ⟨#[10]⟩ 0 (Lib.countB s ⟨#[10]⟩) s)]
  refine List.map_congr_left fun x _ => ?_
  exact ba_ext (by simp [dl, bs])
/-! ### The step whose line it is -/
open Classical in
noncomputable def stepOf (t : ByteArray) : Option St := if h : ∃ x, goodS x = true ∧ lineS x = t then some h.choose else none
theorem stepOf_some {t : ByteArray} {x : St} (h : stepOf t = some x) : goodS x = true ∧ lineS x = t := by
  unfold stepOf at h
  split at h
  · rename_i hx
    rw [← Option.some.inj h]
    exact hx.choose_spec
  · cases h
theorem stepOf_none {t : ByteArray} (h : stepOf t = none) (x : St) (hg : goodS x = true) : lineS x ≠ t := by
  unfold stepOf at h
  split at h
  · cases h
  · rename_i hx
    exact fun e => hx ⟨x, hg, e⟩
def skipB (t : ByteArray) : Bool := decide (t.size = 0) || ((dl t)[0]? == some 35)
/-- What Read answers from line i on, behind the steps so far. -/
noncomputable def readL : List ByteArray → Nat → List St → List St × Int × Int
  | [], _, acc => (acc, 0, 0)
  | t :: r, i, acc => if skipB t then readL r (i + 1) acc else match stepOf t with
    | none => ([], (i : Int) + 1, 7)
    | some x => readL r (i + 1) (acc ++ [x])
noncomputable def readF (s : ByteArray) : List St × Int × Int := if 65536 < s.size then ([], 0, 2) else readL (linesOf s) 0 []
theorem readL_skip {l : List ByteArray} {k i : Nat} {acc : List St} (h : k < l.length) (hs : skipB l[k] = true) : readL (l.drop k) i acc = readL (l.drop (k + 1)) (i + 1) acc := by
  rw [List.drop_eq_getElem_cons h, readL, if_pos hs]
theorem readL_none {l : List ByteArray} {k i : Nat} {acc : List St} (h : k < l.length) (hs : skipB l[k] = false) (hx : stepOf l[k] = none) : readL (l.drop k) i acc = ([], (i : Int) + 1, 7) := by
  rw [List.drop_eq_getElem_cons h, readL, if_neg (by rw [hs]; simp), hx]
theorem readL_some {l : List ByteArray} {k i : Nat} {acc : List St} {x : St} (h : k < l.length) (hs : skipB l[k] = false) (hx : stepOf l[k] = some x) : readL (l.drop k) i acc = readL (l.drop (k + 1)) (i + 1) (acc ++ [x]) := by
  rw [List.drop_eq_getElem_cons h, readL, if_neg (by rw [hs]; simp), hx]
def tickB : List UInt8 := [116, 105, 99, 107]
def checkB : List UInt8 := [99, 104, 101, 99, 107, 112, 111, 105, 110, 116]
def eB : ByteArray := ⟨#[]⟩
/-- The four kinds of good steps, with their tails. -/
theorem good_tail {y : St} (hg : goodS y = true) : (0 ≤ y.n ∧ y.n ≤ 1099511627776 ∧ 0 ≤ y.p ∧ y.p ≤ 1099511627776) ∧ (y.k ≠ 4 → ¬ 0 < y.n → y.p = 0) ∧
    ((∃ c : UInt8, (c = 58 ∨ c = 33) ∧ y.f = decide (c = 33) ∧ nameB y.u = true ∧ y.k = 1 ∧ tailL y = dl y.u ++ c :: 32 :: dl y.t) ∨
     (y.k = 2 ∧ y.u = eB ∧ y.t = eB ∧ y.f = false ∧ tailL y = tickB) ∨
     (y.k = 3 ∧ y.u = eB ∧ y.t = eB ∧ y.f = false ∧ tailL y = checkB) ∨
     (y.k = 4 ∧ y.u = eB ∧ y.t = eB ∧ y.f = false ∧ y.n = 0 ∧ tailL y = crashB ++ Lib.itoa y.p)) := by
  obtain ⟨hr, hc⟩ := good_cases hg
  have hp : powB y.n y.p = true → ¬ 0 < y.n → y.p = 0 := fun h hn => by
    unfold powB at h
    rw [decide_eq_false hn, Bool.false_or, beq_iff_eq] at h
    exact h
  refine ⟨range_of hr, ?_, ?_⟩
  · rcases hc with ⟨h1, _, _, h4⟩ | ⟨h1, _, _, _, h5⟩ | ⟨h1, _⟩
    · exact fun _ => hp h4
    · exact fun _ => hp h5
    · exact fun h => absurd h1 h
  · rcases hc with ⟨h1, h2, h3, h4⟩ | ⟨h1, h2, h3, h4, h5⟩ | ⟨h1, h2, h3, h4, h5⟩
    · refine .inl ⟨if y.f then 33 else 58, ?_, ?_, h2, h1, by unfold tailL; rw [if_pos h1]⟩
      · cases y.f <;> simp
      · cases y.f <;> rfl
    · rcases h1 with h1 | h1
      · exact .inr (.inl ⟨h1, h2, h3, h4, by unfold tailL; rw [if_neg (by omega), if_pos h1]; rfl⟩)
      · exact .inr (.inr (.inl ⟨h1, h2, h3, h4, by unfold tailL; rw [if_neg (by omega), if_neg (by omega), if_pos h1]; rfl⟩))
    · exact .inr (.inr (.inr ⟨h1, h2, h3, h4, h5, by unfold tailL; rw [if_neg (by omega), if_neg (by omega), if_neg (by omega)]; rfl⟩))
theorem crash_not_tick (l : List UInt8) : crashB ++ l ≠ tickB := fun h => by
  have := congrArg List.length h
  simp [crashB, tickB] at this
theorem crash_not_check (l : List UInt8) : crashB ++ l ≠ checkB := fun h => by
  have := congrArg (fun l => l[1]?) h
  simp [crashB, checkB] at this
theorem check_not_tick : checkB ≠ tickB := by decide
theorem tick_power : Lib.hasPrefix tickB powerB = false := by decide
theorem check_power : Lib.hasPrefix checkB powerB = false := by decide
theorem crash_power (l : List UInt8) : Lib.hasPrefix (crashB ++ l) powerB = false := by
  unfold Lib.hasPrefix
  simp [crashB, powerB, List.isPrefixOf]
theorem tick_crash : Lib.hasPrefix tickB crashB = false := by decide
theorem check_crash : Lib.hasPrefix checkB crashB = false := by decide
theorem tail_power {y : St} (hg : goodS y = true) : Lib.hasPrefix (tailL y) powerB = false := by
  rcases (good_tail hg).2.2 with ⟨c, hc, _, hn, _, ht⟩ | ⟨_, _, _, _, ht⟩ | ⟨_, _, _, _, ht⟩ | ⟨_, _, _, _, _, ht⟩
  · rw [ht]; exact ask_power hn c hc _
  · rw [ht]; exact tick_power
  · rw [ht]; exact check_power
  · rw [ht]; exact crash_power _
theorem line_power {y : St} (hg : goodS y = true) : Lib.hasPrefix (dl (lineS y)) powerB = decide (0 < y.n) := by
  rw [dl_lineS]
  by_cases hn : 0 < y.n
  · rw [if_pos hn, decide_eq_true hn]
    have : powL y.n y.p ++ tailL y = powerB ++ ((Lib.itoa y.n ++ 32 :: (Lib.itoa y.p ++ [32])) ++ tailL y) := by
      unfold powL powerB
      rw [List.append_assoc]
    rw [this]
    exact yes_prefix _ _
  · rw [if_neg hn, decide_eq_false hn, List.nil_append]
    exact tail_power hg
theorem line_pow {y : St} (hn : 0 < y.n) : dl (lineS y) = powerB ++ (Lib.itoa y.n ++ 32 :: (Lib.itoa y.p ++ 32 :: tailL y)) := by
  rw [dl_lineS, if_pos hn]
  unfold powL powerB
  simp
theorem line_nopow {y : St} (hn : ¬ 0 < y.n) : dl (lineS y) = tailL y := by rw [dl_lineS, if_neg hn, List.nil_append]
/-! ### What a reading knows, part by part -/
def RestSays (s r : ByteArray) (n p : Int) : Prop := ∀ y, goodS y = true → lineS y = s → dl r = tailL y ∧ n = y.n ∧ p = (if 0 < y.n then y.p else 0)
def XSays (s : ByteArray) (x : St) : Prop := ∀ y, goodS y = true → lineS y = s → x = y
def NoStep (s : ByteArray) : Prop := ∀ y, goodS y = true → lineS y ≠ s
theorem rest_nopow {s : ByteArray} (h : Lib.hasPrefix (dl s) powerB = false) : RestSays s s 0 0 := fun y hg e => by
  rw [← e, line_power hg, decide_eq_false_iff_not] at h
  have := (good_tail hg).1
  exact ⟨by rw [← e, line_nopow h], by omega, by rw [if_neg h]⟩
theorem rest_pow {s m r1 r2 : ByteArray} {n p : Int} (h : Lib.hasPrefix (dl s) powerB = true) (hm : m = cutP s ⟨#[112, 111, 119, 101, 114, 32]⟩) (h1 : NumSays m n r1) (h2 : NumSays r1 p r2) : RestSays s r2 n p := fun y hg e => by
  rw [← e, line_power hg, decide_eq_true_eq] at h
  have hr := (good_tail hg).1
  have hd : dl m = Lib.itoa y.n ++ 32 :: (Lib.itoa y.p ++ 32 :: tailL y) := by
    rw [hm]
    exact dl_cutP (by rw [← e, line_pow h]; rfl)
  obtain ⟨e1, e2⟩ := h1.1 y.n _ hr.1 hr.2.1 hd
  obtain ⟨e3, e4⟩ := h2.1 y.p _ hr.2.2.1 hr.2.2.2 e2
  exact ⟨e4, e1, by rw [if_pos h, e3]⟩
theorem pow_no1 {s m : ByteArray} (h : Lib.hasPrefix (dl s) powerB = true) (hm : m = cutP s ⟨#[112, 111, 119, 101, 114, 32]⟩) (h1 : NumNot m) : NoStep s := fun y hg e => by
  rw [← e, line_power hg, decide_eq_true_eq] at h
  have hr := (good_tail hg).1
  have hd : dl m = Lib.itoa y.n ++ 32 :: (Lib.itoa y.p ++ 32 :: tailL y) := by
    rw [hm]
    exact dl_cutP (by rw [← e, line_pow h]; rfl)
  exact h1.1 y.n _ hr.1 hr.2.1 hd
theorem pow_no2 {s m r1 : ByteArray} {n : Int} (h : Lib.hasPrefix (dl s) powerB = true) (hm : m = cutP s ⟨#[112, 111, 119, 101, 114, 32]⟩) (h1 : NumSays m n r1) (h2 : NumNot r1) : NoStep s := fun y hg e => by
  rw [← e, line_power hg, decide_eq_true_eq] at h
  have hr := (good_tail hg).1
  have hd : dl m = Lib.itoa y.n ++ 32 :: (Lib.itoa y.p ++ 32 :: tailL y) := by
    rw [hm]
    exact dl_cutP (by rw [← e, line_pow h]; rfl)
  obtain ⟨e1, e2⟩ := h1.1 y.n _ hr.1 hr.2.1 hd
  exact h2.1 y.p _ hr.2.2.1 hr.2.2.2 e2
theorem p_of {y : St} {p : Int} (hk : y.k ≠ 4) (hg : goodS y = true) (hp : p = (if 0 < y.n then y.p else 0)) : p = y.p := by
  rw [hp]
  split
  · rfl
  · rename_i h
    exact ((good_tail hg).2.1 hk h).symm
theorem x_tick {s r : ByteArray} {n p : Int} (h : RestSays s r n p) (ht : dl r = tickB) : XSays s ⟨2, eB, eB, false, n, p⟩ := fun y hg e => by
  obtain ⟨h1, h2, h3⟩ := h y hg e
  rw [ht] at h1
  rcases (good_tail hg).2.2 with ⟨c, hc, _, hn, _, hy⟩ | ⟨hk, hu, hy2, hf, hy⟩ | ⟨_, _, _, _, hy⟩ | ⟨_, _, _, _, _, hy⟩
  · exact absurd (h1.trans hy).symm (ask_not_tick c hc _)
  · have := p_of (by omega) hg h3
    obtain ⟨k, u, t, f, n', p'⟩ := y
    simp only at *
    subst hk hu hy2 hf h2 this
    rfl
  · exact absurd (h1.trans hy).symm check_not_tick
  · exact absurd (h1.trans hy).symm (crash_not_tick _)
theorem x_check {s r : ByteArray} {n p : Int} (h : RestSays s r n p) (ht : dl r = checkB) : XSays s ⟨3, eB, eB, false, n, p⟩ := fun y hg e => by
  obtain ⟨h1, h2, h3⟩ := h y hg e
  rw [ht] at h1
  rcases (good_tail hg).2.2 with ⟨c, hc, _, hn, _, hy⟩ | ⟨_, _, _, _, hy⟩ | ⟨hk, hu, hy2, hf, hy⟩ | ⟨_, _, _, _, _, hy⟩
  · exact absurd (h1.trans hy).symm (ask_not_check c hc _)
  · exact absurd (h1.trans hy) check_not_tick
  · have := p_of (by omega) hg h3
    obtain ⟨k, u, t, f, n', p'⟩ := y
    simp only at *
    subst hk hu hy2 hf h2 this
    rfl
  · exact absurd (h1.trans hy).symm (crash_not_check _)
/-- The tail of a line that begins with 'crash '. -/
theorem crash_tail {s r : ByteArray} {n p : Int} (h : RestSays s r n p) (hc : Lib.hasPrefix (dl r) crashB = true) {y : St} (hg : goodS y = true) (e : lineS y = s) : y.k = 4 ∧ y.u = eB ∧ y.t = eB ∧ y.f = false ∧ dl r = crashB ++ Lib.itoa y.p := by
  have h1 := (h y hg e).1
  rw [h1] at hc ⊢
  rcases (good_tail hg).2.2 with ⟨c, hcc, _, hn, _, hy⟩ | ⟨_, _, _, _, hy⟩ | ⟨_, _, _, _, hy⟩ | ⟨hk, hu, hy2, hf, _, hy⟩
  · rw [hy, ask_crash hn c hcc] at hc; cases hc
  · rw [hy, tick_crash] at hc; cases hc
  · rw [hy, check_crash] at hc; cases hc
  · exact ⟨hk, hu, hy2, hf, hy⟩
theorem x_crash {s r m q : ByteArray} {n p p' : Int} (h : RestSays s r n p) (hc : Lib.hasPrefix (dl r) crashB = true) (hm : m = cutP r ⟨#[99, 114, 97, 115, 104, 32]⟩) (h1 : NumSays m p' q) : XSays s ⟨4, eB, eB, false, n, p'⟩ := fun y hg e => by
  obtain ⟨hk, hu, ht, hf, hd⟩ := crash_tail h hc hg e
  have hr := (good_tail hg).1
  have hm2 : dl m = Lib.itoa y.p := by rw [hm]; exact dl_cutP hd
  have e1 := h1.2 y.p hr.2.2.1 hr.2.2.2 hm2
  have h2 := (h y hg e).2.1
  obtain ⟨k, u, t, f, n', p''⟩ := y
  simp only at *
  subst hk hu ht hf h2 e1
  rfl
theorem crash_no {s r m : ByteArray} {n p : Int} (h : RestSays s r n p) (hc : Lib.hasPrefix (dl r) crashB = true) (hm : m = cutP r ⟨#[99, 114, 97, 115, 104, 32]⟩) (h1 : NumNot m) : NoStep s := fun y hg e => by
  obtain ⟨hk, hu, ht, hf, hd⟩ := crash_tail h hc hg e
  have hr := (good_tail hg).1
  exact h1.2 y.p hr.2.2.1 hr.2.2.2 (by rw [hm]; exact dl_cutP hd)
/-- Where the first sign of an ask stands. -/
def AnySays (r : ByteArray) (v : Int) : Prop := ∀ (u : ByteArray) (c : UInt8) (q : List UInt8), nameB u = true → (c = 58 ∨ c = 33) → dl r = dl u ++ c :: q → v = u.size
/-- A line that is neither of the three is an ask. -/
theorem ask_of {s r : ByteArray} {n p : Int} (h : RestSays s r n p) (h1 : dl r ≠ tickB) (h2 : dl r ≠ checkB) (h3 : Lib.hasPrefix (dl r) crashB = false) {y : St} (hg : goodS y = true) (e : lineS y = s) :
    ∃ c : UInt8, (c = 58 ∨ c = 33) ∧ y.f = decide (c = 33) ∧ nameB y.u = true ∧ y.k = 1 ∧ dl r = dl y.u ++ c :: 32 :: dl y.t ∧ n = y.n ∧ p = y.p := by
  obtain ⟨e1, e2, e3⟩ := h y hg e
  rcases (good_tail hg).2.2 with ⟨c, hcc, hf, hn, hk, hy⟩ | ⟨_, _, _, _, hy⟩ | ⟨_, _, _, _, hy⟩ | ⟨_, _, _, _, _, hy⟩
  · exact ⟨c, hcc, hf, hn, hk, e1.trans hy, e2, p_of (by omega) hg e3⟩
  · exact absurd (e1.trans hy) h1
  · exact absurd (e1.trans hy) h2
  · rw [e1, hy, yes_prefix] at h3; cases h3
/-- The parts of an ask, cut out of the rest at its sign. -/
theorem ask_parts {r u t : ByteArray} {c : UInt8} (h : dl r = dl u ++ c :: 32 :: dl t) : r.extract 0 u.size = u ∧ r.extract (u.size + 2) r.size = t ∧ u.size + 2 ≤ r.size ∧ (∀ (h : u.size < r.size), r[u.size] = c) ∧ (∀ (h : u.size + 1 < r.size), r[u.size + 1] = 32) := by
  have hl : r.size = u.size + (2 + t.size) := by
    have := congrArg List.length h
    rw [List.length_append, List.length_cons, List.length_cons, dl_size, dl_size, dl_size] at this
    omega
  have h' : r.data.toList = dl u ++ c :: 32 :: dl t := h
  refine ⟨ba_ext ?_, ba_ext ?_, by omega, fun hh => ?_, fun hh => ?_⟩
  · show (r.extract 0 u.size).data.toList = _
    rw [Lib.extract_data, h', List.drop_zero, Nat.sub_zero]
    exact List.take_left' (dl_size u)
  · show (r.extract (u.size + 2) r.size).data.toList = _
    rw [Lib.extract_data, h']
    have e1 : (dl u ++ c :: 32 :: dl t).drop (u.size + 2) = dl t := by
      rw [show dl u ++ c :: 32 :: dl t = (dl u ++ [c, 32]) ++ dl t by simp]
      exact List.drop_left' (by rw [List.length_append, dl_size]; rfl)
    rw [e1]
    exact List.take_of_length_le (by rw [dl_size]; omega)
  · have := data_getElem? r u.size hh
    rw [h', List.getElem?_append_right (by rw [dl_size]; omega), dl_size, Nat.sub_self, List.getElem?_cons_zero] at this
    exact (Option.some.inj this).symm
  · have := data_getElem? r (u.size + 1) hh
    rw [h', List.getElem?_append_right (by rw [dl_size]; omega), dl_size, Nat.add_sub_cancel_left, List.getElem?_cons_succ, List.getElem?_cons_zero] at this
    exact (Option.some.inj this).symm
theorem x_ask {s r : ByteArray} {n p : Int} {i : Nat} (h : RestSays s r n p) (h1 : dl r ≠ tickB) (h2 : dl r ≠ checkB) (h3 : Lib.hasPrefix (dl r) crashB = false) (ha : AnySays r i) (hi : i < r.size) : XSays s ⟨1, r.extract 0 i, r.extract (i + 2) r.size, decide (r[i] = 33), n, p⟩ := fun y hg e => by
  obtain ⟨c, hc, hf, hn, hk, hr, e2, e3⟩ := ask_of h h1 h2 h3 hg e
  have hiu := ha y.u c _ hn hc hr
  obtain rfl : i = y.u.size := by omega
  obtain ⟨p1, p2, _, p4, _⟩ := ask_parts hr
  have p4 := p4 hi
  obtain ⟨k, u, t, f, n', p'⟩ := y
  simp only at *
  rw [p1, p2, p4]
  subst hk hf e2 e3
  rfl
theorem ask_sign {s r : ByteArray} {n p : Int} {v : Int} (h : RestSays s r n p) (h1 : dl r ≠ tickB) (h2 : dl r ≠ checkB) (h3 : Lib.hasPrefix (dl r) crashB = false) (ha : AnySays r v) {y : St} (hg : goodS y = true) (e : lineS y = s) : 0 < v ∧ ∃ i : Nat, v = i ∧ i + 1 < r.size ∧ (∀ (h : i + 1 < r.size), r[i + 1] = 32) := by
  obtain ⟨c, hc, hf, hn, hk, hr, e2, e3⟩ := ask_of h h1 h2 h3 hg e
  have hiu := ha y.u c _ hn hc hr
  obtain ⟨_, _, p3, _, p5⟩ := ask_parts hr
  have := (name_parts hn).2.1
  exact ⟨by omega, y.u.size, hiu, by omega, p5⟩
/-- One line is one step's alone. -/
theorem lineS_inj {x y : St} (hx : goodS x = true) (hy : goodS y = true) (h : lineS x = lineS y) : x = y := by
  have key : ∀ z : St, goodS z = true → ∃ r : ByteArray, RestSays (lineS z) r z.n (if 0 < z.n then z.p else 0) := by
    intro z hz
    refine ⟨bs (tailL z), fun y hg e => ?_⟩
    have hp : decide (0 < y.n) = decide (0 < z.n) := by rw [← line_power hg, ← line_power hz, e]
    have ry := (good_tail hg).1
    have rz := (good_tail hz).1
    by_cases hn : 0 < z.n
    · have hn2 : 0 < y.n := by rw [decide_eq_true hn] at hp; exact of_decide_eq_true hp
      have e1 := congrArg dl e
      rw [line_pow hn, line_pow hn2] at e1
      have e2 := List.append_cancel_left e1
      have c1 := cut_at (Lib.itoa y.n) (Lib.itoa y.p ++ 32 :: tailL y) (itoa_no32 ry.1)
      rw [e2, cut_at _ _ (itoa_no32 rz.1)] at c1
      simp only [Prod.mk.injEq] at c1
      have c2 := cut_at (Lib.itoa y.p) (tailL y) (itoa_no32 ry.2.2.1)
      rw [← c1.2.1, cut_at _ _ (itoa_no32 rz.2.2.1)] at c2
      simp only [Prod.mk.injEq] at c2
      exact ⟨by simpa [dl, bs] using c2.2.1, itoa_inj rz.1 ry.1 c1.1, by rw [if_pos hn, if_pos hn2]; exact itoa_inj rz.2.2.1 ry.2.2.1 c2.1⟩
    · have hn2 : ¬ 0 < y.n := by rw [decide_eq_false hn] at hp; exact of_decide_eq_false hp
      have e1 := congrArg dl e
      rw [line_nopow hn, line_nopow hn2] at e1
      exact ⟨by rw [← e1], by omega, by rw [if_neg hn, if_neg hn2]⟩
  obtain ⟨r, hr⟩ := key x hx
  have h1 := hr y hy h.symm
  have h0 := hr x hx rfl
  have ht : tailL x = tailL y := h0.1.symm.trans h1.1
  rcases (good_tail hx).2.2 with ⟨c, hc, hf, hn, hk, hq⟩ | ⟨hk, hu, hy2, hf, hq⟩ | ⟨hk, hu, hy2, hf, hq⟩ | ⟨hk, hu, hy2, hf, hz, hq⟩
  · have a1 : dl r ≠ tickB := by rw [h0.1, hq]; exact ask_not_tick c hc _
    have a2 : dl r ≠ checkB := by rw [h0.1, hq]; exact ask_not_check c hc _
    have a3 : Lib.hasPrefix (dl r) crashB = false := by rw [h0.1, hq]; exact ask_crash hn c hc _
    have hi : x.u.size < r.size := by
      have e : r.size = (dl r).length := rfl
      rw [e, h0.1, hq, List.length_append, dl_size]
      simp
    have ha : AnySays r (x.u.size : Int) := fun u c' q hu hc' e => by
      have i1 := ask_any hu c' hc' q
      have i2 := ask_any hn c hc (32 :: dl x.t)
      rw [← e, h0.1, hq, i2] at i1
      exact i1
    have X := x_ask hr a1 a2 a3 ha hi
    exact (X x hx rfl).symm.trans (X y hy h.symm)
  · have X := x_tick hr (h0.1.trans hq)
    exact (X x hx rfl).symm.trans (X y hy h.symm)
  · have X := x_check hr (h0.1.trans hq)
    exact (X x hx rfl).symm.trans (X y hy h.symm)
  · have hc : Lib.hasPrefix (dl r) crashB = true := by rw [h0.1, hq]; exact yes_prefix _ _
    have X := x_crash (p' := x.p) (q := eB) hr hc rfl ⟨fun m q h0' h1' e => by
      exfalso
      rw [dl_cutP (h0.1.trans hq)] at e
      exact itoa_no32 (good_tail hx).1.2.2.1 (by rw [e]; simp), fun m h0' h1' e => by
      rw [dl_cutP (h0.1.trans hq)] at e
      exact itoa_inj (good_tail hx).1.2.2.1 h0' e⟩
    exact (X x hx rfl).symm.trans (X y hy h.symm)
theorem stepOf_line {x : St} (h : goodS x = true) : stepOf (lineS x) = some x := by
  cases hs : stepOf (lineS x) with
  | none => exact absurd rfl (stepOf_none hs x h)
  | some y =>
    obtain ⟨hg, e⟩ := stepOf_some hs
    rw [lineS_inj hg h e]
theorem stepOf_x {s : ByteArray} {x : St} (h : XSays s x) : stepOf s = if goodS x = true ∧ lineS x = s then some x else none := by
  split
  · rename_i hx
    rw [← hx.2]
    exact stepOf_line hx.1
  · rename_i hx
    cases hs : stepOf s with
    | none => rfl
    | some y =>
      exfalso
      obtain ⟨hg, e⟩ := stepOf_some hs
      exact hx (by rw [h y hg e]; exact ⟨hg, e⟩)
theorem stepOf_no {s : ByteArray} (h : NoStep s) : stepOf s = none := by
  cases hs : stepOf s with
  | none => rfl
  | some y =>
    obtain ⟨hg, e⟩ := stepOf_some hs
    exact absurd e (h y hg)
/-- What number does: it hands a number back, with what it knows of it, or it panics, and there was none. -/
def NumOut (s : ByteArray) (e : Ending) : Prop :=
  (∃ n r, e = .returned (.tuple #[.int .i64 n, .string r]) ∧ r.size ≤ s.size ∧ 0 ≤ n ∧ n ≤ 1099511627776 ∧ NumSays s n r) ∨ (e = .panicked [{ v := .iface 62 (.agg #[]), recovered := false }] ∧ NumNot s)
theorem draws_below (w : World) (k : Nat) : Below w.heap.size w (w.drewN k) := ⟨rfl, rfl, rfl, Nat.le_refl _, fun _ _ => rfl⟩
theorem cut_size (s : List UInt8) : (Lib.cut s [32]).1.length ≤ s.length ∧ (Lib.cut s [32]).2.1.length ≤ s.length := by
  unfold Lib.cut
  split <;> simp <;> omega
set_option maxRecDepth 100000 in
set_option maxHeartbeats 8000000 in
theorem number28 (s : ByteArray) (w : World) (hs : s.size ≤ 1000000) (hmax : MaxW w) :
    Calls Tryz.prog 28 #[.string s] w fun e w' => NumOut s e ∧ Below w.heap.size w w' := by
  obtain ⟨m, hm⟩ := hmax
  obtain ⟨word, hword⟩ : ∃ word : ByteArray, word = ⟨(Lib.cut (dl s) [32]).1.toArray⟩ := ⟨_, rfl⟩
  obtain ⟨rest, hrest⟩ : ∃ rest : ByteArray, rest = ⟨(Lib.cut (dl s) [32]).2.1.toArray⟩ := ⟨_, rfl⟩
  have hws : word.size ≤ 1000000 := by
    rw [hword]
    exact Nat.le_trans (cut_size (dl s)).1 hs
  have hrs : rest.size ≤ s.size := by
    rw [hrest]
    exact (cut_size (dl s)).2
  have HW := Aside.mk hword
  have HR := Aside.mk hrest
  clear hword hrest
  have HC : Aside (Calls Tryz.prog 49 #[.string s, .string ⟨#[32]⟩] w fun e w' => (∃ f, e = .returned (.tuple #[.string word, .string rest, .bool f])) ∧ ∃ n, w' = w.drewN n) := ⟨(Tryz.strings_Cut s ⟨#[32]⟩ m w (by omega) hm).mono fun e w' ⟨h1, h2⟩ => ⟨⟨(Lib.cut (dl s) [32]).2.2, by rw [HW.out, HR.out]; exact h1⟩, h2⟩⟩
  clear hm
  go_enter Tryz.func28, Tryz.ntmps28
  go_wp2_with (first | (go_at_call 49; refine HC.out.mono ?_; rintro e w1 ⟨⟨f, rfl⟩, k, rfl⟩) | (go_at_call 50; refine (readV_calls word _ hws).mono ?_; rintro e w2 ⟨⟨sym, num, ok, rfl, hR⟩, hb⟩))
  all_goals first
    | (go_ret2; exact ⟨.inl ⟨num, rest, rfl, hrs, by omega, by omega, numSays_of HW.out HR.out hR⟩, Below.alloc (Below.trans (draws_below w k) hb) (by have := hb.size; exact this) _⟩)
    | exact ⟨rfl, .inr ⟨rfl, numNot_of HW.out hR (fun m h0 h1 hx => by
        obtain ⟨e1, e2, e3⟩ := hx
        first
          | omega
          | contradiction
          | (have e4 : sym.toList = [] := by rw [e1]; exact Lib.toList_data _
             contradiction))⟩, Below.alloc (Below.trans (draws_below w k) hb) (by have := hb.size; exact this) _⟩
end Go.Proofs.YtilpifbaolmdlaaGreatDoor
