/-
  The run: every call that it comes to is shown, level by level. No condition.
-/
import Derived.Test.YtilpifbaolmdlaaGreatDoorR1
import Derived.Test.YtilpifbaolmdlaaGreatDoorR2
import Derived.Test.YtilpifbaolmdlaaGreatDoorR3
import Derived.Test.YtilpifbaolmdlaaGreatDoorR4
import Derived.Test.YtilpifbaolmdlaaGreatDoorR5
import Derived.Test.YtilpifbaolmdlaaGreatDoorR6
import Derived.Test.YtilpifbaolmdlaaGreatDoorR7
import Derived.Test.YtilpifbaolmdlaaGreatDoorAs
namespace Go.Proofs.YtilpifbaolmdlaaGreatDoor
open Go AE
set_option maxRecDepth 100000
theorem names_ok : (P2.funcs.toList.all fun fn => !(fn.name == "runtime.NumGoroutine")) = true := by kernel_rfl
theorem mixed_ok : P2.follows .mixedOrders = true := by kernel_rfl
theorem globals_size : P2.globals.size = 7 := by kernel_rfl
theorem xN_at : ExtOk P2 57 xN := AE.xN_ok (fn := Tryz.f57) (by kernel_rfl) (by kernel_rfl) (by kernel_rfl) (by kernel_rfl) (by kernel_rfl)
theorem xC_at : ExtOk P2 72 xC := AE.xC_ok (fn := Tryz.f72) (by kernel_rfl) (by kernel_rfl) (by kernel_rfl) (by kernel_rfl) (by kernel_rfl)
theorem xI_at : ExtOk P2 140 xI := AE.xI_ok (fn := Tryz.f140) (by kernel_rfl) (by kernel_rfl) (by kernel_rfl) (by kernel_rfl) (by kernel_rfl)
theorem xM_at : ExtOk P2 374 (xM 5) := AE.xM_ok (fn := Tryz.f374) (ps := Tryz.f374.params) (t := 47) (by kernel_rfl) (by kernel_rfl) (by kernel_rfl) (by kernel_rfl) (by kernel_rfl) (by kernel_rfl) (by kernel_rfl)
theorem as_nil_at : AsNil P2 171 := by rw [P2_eq]; exact as_nil
theorem xA_at : ExtOk P2 171 xAn := AE.xAn_ok (fn := Tryz.f171) (c := (Tryz.f171.body).getD .skip) (by kernel_rfl) (by kernel_rfl) (by kernel_rfl) as_nil_at
def X00 : FuncId → Option Ext := fun _ => none
theorem setup00 : Setup P2 X00 := Setup.first names_ok mixed_ok fun g e he => by cases he
theorem blk_ok : blkOk P2 X00 K 236 5 = true := by kernel_rfl
theorem xB_at : ExtOk P2 236 (xB 7 5) := AE.xB_ok (K := K) setup00 blk_ok
theorem setup0 : Setup P2 X0 := Setup.first names_ok mixed_ok fun g e he => by
  unfold X0 at he
  split at he
  · cases he; exact xN_at
  · cases he; exact xC_at
  · cases he; exact xI_at
  · cases he; exact xM_at
  · cases he; exact xA_at
  · cases he; exact xB_at
  · cases he
theorem setup1 : Setup P2 X1 := Setup.level (K := K) setup0 fun g e he => by
  unfold X1 at he
  split at he
  · cases he; exact .inr ⟨_, rfl, ⟨r0_ok, trivial⟩⟩
  · cases he; exact .inr ⟨_, rfl, ⟨r6_ok, trivial⟩⟩
  · cases he; exact .inr ⟨_, rfl, ⟨r2_ok, trivial⟩⟩
  · cases he; exact .inr ⟨_, rfl, ⟨r7_ok, trivial⟩⟩
  · cases he; exact .inr ⟨_, rfl, ⟨r4_ok, ⟨r9_ok, trivial⟩⟩⟩
  · cases he; exact .inr ⟨_, rfl, ⟨r3_ok, ⟨r5_ok, trivial⟩⟩⟩
  · exact .inl he
theorem setup2 : Setup P2 X2 := Setup.level (K := K) setup1 fun g e he => by
  unfold X2 at he
  split at he
  · cases he; exact .inr ⟨_, rfl, ⟨r1_ok, trivial⟩⟩
  · cases he; exact .inr ⟨_, rfl, ⟨r8_ok, trivial⟩⟩
  · cases he; exact .inr ⟨_, rfl, ⟨r10_ok, trivial⟩⟩
  · exact .inl he
theorem setup3 : Setup P2 X3 := Setup.level (K := K) setup2 fun g e he => by
  unfold X3 at he
  split at he
  · cases he; exact .inr ⟨_, rfl, ⟨r12_ok, trivial⟩⟩
  · cases he; exact .inr ⟨_, rfl, ⟨r13_ok, trivial⟩⟩
  · cases he; exact .inr ⟨_, rfl, ⟨r11_ok, trivial⟩⟩
  · exact .inl he
def begin0 : Heap := ⟨(Tr.nil.set 6 (some oB)), 8, 9, 8⟩
def isTrue : Option (CRes × Heap) → Bool
  | some (.ret (.bool b), _) => b
  | _ => false
theorem isTrue_eq {x : Option (CRes × Heap)} (h : isTrue x = true) : ∃ τ, x = some (.ret (.bool true), τ) := by
  unfold isTrue at h
  split at h
  · subst h; exact ⟨_, rfl⟩
  · cases h
theorem run_true : isTrue (callF P2 (execF P2 X3 K) 6 [] begin0) = true := by kernel_rfl
end Go.Proofs.YtilpifbaolmdlaaGreatDoor
