/-
  mandate/mandatelaw25.fixed returns true, in every world in which the table math/bits.deBruijn64tab reads as its text lays it; all that was there is as it was.
-/
import Derived.Test.YtilpifbaolmdlaaGreatDoorRun
import Derived.Lib.LaidTab
import Derived.Below
namespace Go.Proofs.YtilpifbaolmdlaaGreatDoor
open Go AE Go.RowKit
set_option maxRecDepth 100000
def dbZ : List Int := [0, 1, 56, 2, 57, 49, 28, 3, 61, 58, 42, 50, 38, 29, 17, 4, 62, 47, 59, 36, 45, 43, 51, 22, 53, 39, 33, 30, 24, 18, 12, 5, 63, 55, 48, 27, 60, 41, 37, 16, 46, 35, 44, 21, 52, 32, 23, 11, 54, 26, 40, 15, 34, 20, 31, 10, 25, 14, 19, 9, 13, 8, 7, 6].map Int.ofNat
theorem gB : Tryz.prog.globalNamed "math/bits.deBruijn64tab" = some 6 := by kernel_rfl
theorem rowB : ((begin Tryz.prog (fun _ _ => 0) default).world.heap[6]?).bind Obj.row? = some (Array.replicate 64 (.int .u8 0), 379) := by kernel_rfl
theorem sizeG : Tryz.prog.globals.size = 7 := by kernel_rfl
/-- Where the variable lies. -/
noncomputable def mp0 : Mp := { f := fun i => match Nat.ble i 7 with | true => some i | false => none, sz := fun _ => 64, es := fun _ => P2.cellsOf 379 }
theorem begin_get (k : Nat) : begin0.get k = if k = 6 then some oB else none := by
  show (Tr.nil.set 6 (some oB)).get k = _
  rw [Tr.get_set]
  rfl
theorem oB_eq : oB = .row 379 true (dbZ.map fun z => Value.int .u8 z) := by kernel_rfl
theorem db_flat : ((dbZ.map fun z => Value.int .u8 z).all (flatF 4)) = true := by kernel_rfl
theorem fixed_true (W : World) (hs : W.ShapedOpen Tryz.prog) (h1 : Lib.TabIs Tryz.prog W "math/bits.deBruijn64tab" .u8 dbZ) :
    Calls Tryz.prog 6 #[] W fun e W' => e = .returned (.bool true) ∧ Below W.heap.size W W' := by
  obtain ⟨c1, e1, z1, _⟩ := hs.1 6 _ _ (by rw [sizeG]; decide) rowB
  have hc1 : c1 = (dbZ.map fun z => Value.int .u8 z).toArray := by
    have h1 : W.var? Tryz.prog "math/bits.deBruijn64tab" = some (dbZ.map fun z => Value.int .u8 z).toArray := h1
    simp only [World.var?, gB, Option.bind_some, e1, Option.some.injEq] at h1
    exact h1
  subst hc1
  have hr : HR P2 mp0 begin0 W := by
    refine ⟨fun i j b _ _ hi hj => ?_, fun k o hk => ?_, rfl, fun k hk => ?_, by show 8 < 9; omega, fun g hg => ?_⟩
    · have key : ∀ i b, mp0.f i = some b → i = b := fun i b h => by
        have h : (match Nat.ble i 7 with | true => some i | false => none) = some b := h
        cases hx : Nat.ble i 7 with
        | true => rw [hx] at h; exact Option.some.inj h
        | false => rw [hx] at h; cases h
      rw [key i b hi, key j b hj]
    · rw [begin_get] at hk
      split at hk
      · rename_i e; subst e
        cases hk
        rw [oB_eq]
        refine ⟨6, _, rfl, e1, .row rfl rfl (fun _ => rfl) (Nat.le_refl _) ?_ (fun off _ hh => by have := hh.2; simp at this) (fun _ => rfl)⟩
        rw [List.take_length]
        exact flats_refl (n := 4) db_flat
      · cases hk
    · have hk : 9 ≤ k := hk
      show (match Nat.ble k 7 with | true => some k | false => none) = none
      rw [ble_iff, decide_eq_false (by omega)]
    · rw [globals_size] at hg
      show (match Nat.ble g 7 with | true => some g | false => none) = some g
      rw [ble_iff, decide_eq_true hg]
  obtain ⟨τ, hrun⟩ := isTrue_eq run_true
  have key := (callF_sound setup3 (execF_sound setup3 K) hrun hr (args' := []) .nil).2
  rw [← P2_eq]
  refine (callsIn_wide.1 key).mono fun e W' ⟨m', hn, hres⟩ => ?_
  refine ⟨?_, ⟨hn.fr.os, hn.fr.tape, hn.fr.output, hn.fr.size, fun i hi => hn.fr.same i hi fun ⟨k, o, h1, h2, _⟩ => ?_⟩⟩
  · cases hres with
    | ret hv => cases hv; rfl
  · have h1 : 8 ≤ k := h1
    rw [begin_get] at h2
    rw [if_neg (by omega)] at h2
    cases h2
end Go.Proofs.YtilpifbaolmdlaaGreatDoor
