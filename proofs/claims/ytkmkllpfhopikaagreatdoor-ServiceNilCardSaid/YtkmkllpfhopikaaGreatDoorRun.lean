/-
  The run: every call that it comes to is shown, level by level. No condition.
-/
import Derived.Test.YtkmkllpfhopikaaGreatDoorR1
import Derived.Test.YtkmkllpfhopikaaGreatDoorR2
import Derived.Test.YtkmkllpfhopikaaGreatDoorR3
import Derived.Test.YtkmkllpfhopikaaGreatDoorR4
import Derived.Test.YtkmkllpfhopikaaGreatDoorR5
import Derived.Test.YtkmkllpfhopikaaGreatDoorR6
import Derived.Test.YtkmkllpfhopikaaGreatDoorR7
import Derived.Test.YtkmkllpfhopikaaGreatDoorAs
namespace Go.Proofs.YtkmkllpfhopikaaGreatDoor
open Go AE
set_option maxRecDepth 100000
theorem names_ok : (P2.funcs.toList.all fun fn => !(fn.name == "runtime.NumGoroutine")) = true := by kernel_rfl
theorem mixed_ok : P2.follows .mixedOrders = true := by kernel_rfl
theorem globals_size : P2.globals.size = 5 := by kernel_rfl
theorem xN_at : ExtOk P2 337 xN := AE.xN_ok (fn := Tryz.f337) (by kernel_rfl) (by kernel_rfl) (by kernel_rfl) (by kernel_rfl) (by kernel_rfl)
theorem xC_at : ExtOk P2 243 xC := AE.xC_ok (fn := Tryz.f243) (by kernel_rfl) (by kernel_rfl) (by kernel_rfl) (by kernel_rfl) (by kernel_rfl)
theorem xI_at : ExtOk P2 358 xI := AE.xI_ok (fn := Tryz.f358) (by kernel_rfl) (by kernel_rfl) (by kernel_rfl) (by kernel_rfl) (by kernel_rfl)
theorem xM_at : ExtOk P2 338 (xM 5) := AE.xM_ok (fn := Tryz.f338) (ps := Tryz.f338.params) (t := 24) (by kernel_rfl) (by kernel_rfl) (by kernel_rfl) (by kernel_rfl) (by kernel_rfl) (by kernel_rfl) (by kernel_rfl)
theorem as_nil_at : AsNil P2 35 := by rw [P2_eq]; exact as_nil
theorem as_hit_at : ∀ p ∈ prs, AsHit P2 35 0 (.iface 260 (.agg #[.pointer (some ⟨P2.globals.size, 55, none⟩)])) p.1 p.2 := by
  intro p hp
  have hp : p ∈ [(110, 114)] := hp
  simp only [List.mem_singleton] at hp
  subst hp
  rw [globals_size, P2_eq]
  intro e a old w h1 h2 h3
  exact (as_hit e a old w h1 h2 h3).mono fun _ _ ⟨h4, h5⟩ => ⟨h4, _, _, _, _, h5⟩
theorem oT_eq : oT = .row 192 true [.iface 260 (.agg ⟨[.pointer (some ⟨P2.globals.size, 55, none⟩)]⟩)] := by kernel_rfl
theorem xA_at : ExtOk P2 35 (xA prs 0 oT) := by
  rw [oT_eq]
  exact AE.xA_ok (fn := Tryz.f35) (c := (Tryz.f35.body).getD .skip) (by kernel_rfl) (by kernel_rfl) (by kernel_rfl) as_nil_at as_hit_at (by rw [globals_size]; decide)
def X00 : FuncId → Option Ext := fun _ => none
theorem setup00 : Setup P2 X00 := Setup.first names_ok mixed_ok fun g e he => by cases he
theorem blk_ok : blkOk P2 X00 K 233 5 = true := by kernel_rfl
theorem xB_at : ExtOk P2 233 (xB 5 5) := AE.xB_ok (K := K) setup00 blk_ok
theorem setup0 : Setup P2 X0 := Setup.first names_ok mixed_ok fun g e he => by
  unfold X0 at he
  split at he
  · cases he; exact xN_at
  · cases he; exact xC_at
  · cases he; exact xI_at
  · cases he; exact xM_at
  · cases he; exact xA_at
  · cases he; exact xB_at
  · cases he
theorem setup1 : Setup P2 X1 := Setup.level (K := K) setup0 fun g e he => by
  unfold X1 at he
  split at he
  · cases he; exact .inr ⟨_, rfl, ⟨r4_ok, ⟨r10_ok, ⟨r20_ok, ⟨r27_ok, trivial⟩⟩⟩⟩⟩
  · cases he; exact .inr ⟨_, rfl, ⟨r0_ok, trivial⟩⟩
  · cases he; exact .inr ⟨_, rfl, ⟨r2_ok, ⟨r9_ok, ⟨r17_ok, ⟨r19_ok, trivial⟩⟩⟩⟩⟩
  · cases he; exact .inr ⟨_, rfl, ⟨r7_ok, ⟨r14_ok, ⟨r25_ok, trivial⟩⟩⟩⟩
  · cases he; exact .inr ⟨_, rfl, ⟨r6_ok, ⟨r13_ok, ⟨r24_ok, ⟨r29_ok, ⟨r30_ok, ⟨r31_ok, ⟨r32_ok, trivial⟩⟩⟩⟩⟩⟩⟩⟩
  · cases he; exact .inr ⟨_, rfl, ⟨r3_ok, ⟨r5_ok, trivial⟩⟩⟩
  · cases he; exact .inr ⟨_, rfl, ⟨r12_ok, trivial⟩⟩
  · cases he; exact .inr ⟨_, rfl, ⟨r11_ok, trivial⟩⟩
  · cases he; exact .inr ⟨_, rfl, ⟨r21_ok, trivial⟩⟩
  · exact .inl he
theorem setup2 : Setup P2 X2 := Setup.level (K := K) setup1 fun g e he => by
  unfold X2 at he
  split at he
  · cases he; exact .inr ⟨_, rfl, ⟨r22_ok, trivial⟩⟩
  · cases he; exact .inr ⟨_, rfl, ⟨r23_ok, trivial⟩⟩
  · exact .inl he
theorem setup3 : Setup P2 X3 := Setup.level (K := K) setup2 fun g e he => by
  unfold X3 at he
  split at he
  · cases he; exact .inr ⟨_, rfl, ⟨r8_ok, ⟨r15_ok, ⟨r16_ok, ⟨r18_ok, ⟨r26_ok, ⟨r36_ok, trivial⟩⟩⟩⟩⟩⟩⟩
  · cases he; exact .inr ⟨_, rfl, ⟨r28_ok, ⟨r37_ok, trivial⟩⟩⟩
  · cases he; exact .inr ⟨_, rfl, ⟨r33_ok, ⟨r38_ok, trivial⟩⟩⟩
  · cases he; exact .inr ⟨_, rfl, ⟨r34_ok, ⟨r39_ok, trivial⟩⟩⟩
  · cases he; exact .inr ⟨_, rfl, ⟨r35_ok, ⟨r40_ok, trivial⟩⟩⟩
  · cases he; exact .inr ⟨_, rfl, ⟨r1_ok, trivial⟩⟩
  · exact .inl he
def begin0 : Heap := ⟨((Tr.nil.set 0 (some oT)).set 1 (some oB)), 6, 7, 6⟩
def isTrue : Option (CRes × Heap) → Bool
  | some (.ret (.bool b), _) => b
  | _ => false
theorem isTrue_eq {x : Option (CRes × Heap)} (h : isTrue x = true) : ∃ τ, x = some (.ret (.bool true), τ) := by
  unfold isTrue at h
  split at h
  · subst h; exact ⟨_, rfl⟩
  · cases h
theorem run_true : isTrue (callF P2 (execF P2 X3 K) 3 [junk, junk, junk] begin0) = true := by kernel_rfl
end Go.Proofs.YtkmkllpfhopikaaGreatDoor
