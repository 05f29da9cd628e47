import Derived.Test.YtkmkllpfhopikaaGreatDoorProg
import Derived.WalkKit
import Derived.LaidEql
import Derived.Stop.Asserts
import Derived.RowKitTokens
namespace Go.Proofs.YtkmkllpfhopikaaGreatDoor
open Go.RowKit Go.Extern.Stop Go.Stop Go.Extern

set_option maxRecDepth 100000 in
theorem as_nil (t : Value) (w : World) :
    Calls Tryz.prog 35 #[.nilIface, t] w fun e w' => e = .returned (.bool false) ∧ w' = w := by
  go_enter Tryz.func35, Tryz.ntmps35
  go_wp2
  go_ret
  exact ⟨rfl, rfl⟩

/-! ### CLOSED FACTS ON THE MODEL's ENTRIES FOR internal/reflectlite, at this program's types: 110: *p.E · 114: **p.E · 55: error · 260: reflectlite's rtype · 1: how many package-level variables the dump has -/
theorem As.valueOfY (t : Addr) (w : World) : (ReflectliteValue.unpack (.iface 114 (.pointer (some t)))).run Tryz.prog w
    = .ok (.agg #[.pointer (some ⟨5, 114, none⟩), .pointer (some ⟨w.heap.size, 0, none⟩), .int .u64 150]) (w.alloc (.cells #[.pointer (some t)] 114)) := by kernel_rfl
theorem As.typeY (a : Addr) (w : World) : (ReflectliteValue.methodAny (ReflectliteValue.valueError "reflectlite.Value.Type" 0) (fun t _ _ _ => ReflectliteType.toType t) #[.agg #[.pointer (some ⟨5, 114, none⟩), .pointer (some a), .int .u64 150]]).run Tryz.prog w
    = .ok (.iface 260 (.agg #[.pointer (some ⟨5, 114, none⟩)])) w := by kernel_rfl
theorem As.methodKind (h : Value) (w : World) : (Go.method 716 260 (.agg #[h]) "Kind").run Tryz.prog w = .ok (429, h) w := by kernel_rfl
theorem As.kindY (w : World) : ((ReflectliteType.abiMethod fun t => (fun a : Nat => Value.int IntKind.u8 (a : Int)) <$> Rtype.kind t) #[.pointer (some ⟨5, 114, none⟩)]).run Tryz.prog w = .ok (.int .u8 22) w := by kernel_rfl
theorem As.kindX (w : World) : ((ReflectliteType.abiMethod fun t => (fun a : Nat => Value.int IntKind.u8 (a : Int)) <$> Rtype.kind t) #[.pointer (some ⟨5, 110, none⟩)]).run Tryz.prog w = .ok (.int .u8 22) w := by kernel_rfl

/-! ### THE ENTRIES THAT READ OR WRITE MEMORY: laws with a premise on the cell (after Derived/Lib/ReflectliteSlice.lean's manner: each unfolding a lemma of its own, by rfl) -/
theorem rlm (z : Sem Value) (f : TypeId → Addr → Nat → Nat → Sem Value) (v : Value) :
    ReflectliteValue.method z f #[v] = (do match ← ReflectliteValue.parts v with | none => z | some (t, a, fl) => f t a fl (fl % 32)) := rfl
theorem As.partsY (a : Addr) (w : World) : (ReflectliteValue.parts (.agg #[.pointer (some ⟨5, 114, none⟩), .pointer (some a), .int .u64 150])).run Tryz.prog w = .ok (some (114, a, 150)) w := by kernel_rfl
/-- (Value).IsNil at the Value of a **p.E that is not nil. -/
theorem As.isNilY (a p : Addr) (W : World) (ha : W.cell? a = some (.pointer (some p))) :
    (ReflectliteValue.method (ReflectliteValue.valueError "reflectlite.Value.IsNil" 0) ReflectliteValue.isNil #[.agg #[.pointer (some ⟨5, 114, none⟩), .pointer (some a), .int .u64 150]]).run Tryz.prog W = .ok (.bool false) W := by
  rw [rlm]
  simp only [Sem.run_bind, As.partsY, Result.andThen]
  simp [ReflectliteValue.isNil, loadVar, isAgg, underlying, Tryz.underlying114, ha, Result.andThen]

theorem As.methodElem (h : Value) (w : World) : (Go.method 716 260 (.agg #[h]) "Elem").run Tryz.prog w = .ok (443, .agg #[h]) w := by kernel_rfl
theorem As.methodImplements (h : Value) (w : World) : (Go.method 716 260 (.agg #[h]) "Implements").run Tryz.prog w = .ok (444, .agg #[h]) w := by kernel_rfl
theorem As.methodAssignableTo (h : Value) (w : World) : (Go.method 716 260 (.agg #[h]) "AssignableTo").run Tryz.prog w = .ok (441, .agg #[h]) w := by kernel_rfl
theorem As.elemY (w : World) : (ReflectliteType.method ReflectliteType.elem #[.agg #[.pointer (some ⟨5, 114, none⟩)]]).run Tryz.prog w = .ok (.iface 260 (.agg #[.pointer (some ⟨5, 110, none⟩)])) w := by kernel_rfl
theorem As.implementsX (w : World) : (ReflectliteType.relation "Implements" ReflectliteType.implements_ #[.agg #[.pointer (some ⟨5, 110, none⟩)], .iface 260 (.agg #[.pointer (some ⟨5, 55, none⟩)])]).run Tryz.prog w = .ok (.bool true) w := by kernel_rfl
theorem As.typeOfX (v : Value) (w : World) : (ReflectliteType.typeOf #[.iface 110 v]).run Tryz.prog w = .ok (.iface 260 (.agg #[.pointer (some ⟨5, 110, none⟩)])) w := by kernel_rfl
theorem As.assignableX (w : World) : (ReflectliteType.relation "AssignableTo" ReflectliteType.assignableTo #[.agg #[.pointer (some ⟨5, 110, none⟩)], .iface 260 (.agg #[.pointer (some ⟨5, 110, none⟩)])]).run Tryz.prog w = .ok (.bool true) w := by kernel_rfl
theorem As.valueOfX (e : Addr) (w : World) : (ReflectliteValue.unpack (.iface 110 (.pointer (some e)))).run Tryz.prog w
    = .ok (.agg #[.pointer (some ⟨5, 110, none⟩), .pointer (some ⟨w.heap.size, 0, none⟩), .int .u64 150]) (w.alloc (.cells #[.pointer (some e)] 110)) := by kernel_rfl

theorem As.elemOfY (w : World) : (Rtype.elem? 114).run Tryz.prog w = .ok (some 110) w := by kernel_rfl
theorem As.mkX (p : Addr) (w : World) : (ReflectliteValue.mk 110 p ReflectliteValue.flagAddr).run Tryz.prog w = .ok (.agg #[.pointer (some ⟨5, 110, none⟩), .pointer (some p), .int .u64 406]) w := by kernel_rfl
/-- (Value).Elem at the Value of a **p.E that is not nil: the Value of the *p.E variable that it points to, addressable. -/
theorem As.elemVY (a p : Addr) (W : World) (ha : W.cell? a = some (.pointer (some p))) :
    (ReflectliteValue.method (ReflectliteValue.valueError "reflectlite.Value.Elem" 0) ReflectliteValue.elem #[.agg #[.pointer (some ⟨5, 114, none⟩), .pointer (some a), .int .u64 150]]).run Tryz.prog W
      = .ok (.agg #[.pointer (some ⟨5, 110, none⟩), .pointer (some p), .int .u64 406]) W := by
  rw [rlm]
  simp only [Sem.run_bind, As.partsY, Result.andThen]
  simp [ReflectliteValue.elem, loadVar, isAgg, underlying, Tryz.underlying114, ha, Result.andThen, As.elemOfY, As.mkX]
theorem rls (v x : Value) : ReflectliteValue.set #[v, x] = (do
    let (some (dst, a, fl), some (src, b, _)) := (← ReflectliteValue.parts v, ← ReflectliteValue.parts x)
      | unsupported (.noEntry "extern/(internal/reflectlite.Value).Set.zeroValue")
    if fl / ReflectliteValue.flagAddr % 2 == 0 then unsupported (.noEntry "extern/(internal/reflectlite.Value).Set.unaddressable")
    let val ← loadVar src b
    if ← Rtype.directlyAssignable dst src then storeVar dst a val
    else if ← Rtype.implements dst src then
      if (← Rtype.kind src) == 20 then
        match val with
        | .nilIface => unsupported (.noEntry "extern/reflectlite: a nil value of one interface type handed on as a value of another")
        | _ => storeVar dst a val
      else storeVar dst a (.iface src val)
    else panicString ("reflectlite.Set: value of type " ++ (← Rtype.spelt src) ++ " is not assignable to type " ++ (← Rtype.spelt dst))
    pure (.tuple #[])) := rfl
theorem As.partsXa (a : Addr) (w : World) : (ReflectliteValue.parts (.agg #[.pointer (some ⟨5, 110, none⟩), .pointer (some a), .int .u64 406])).run Tryz.prog w = .ok (some (110, a, 406)) w := by kernel_rfl
theorem As.partsX (a : Addr) (w : World) : (ReflectliteValue.parts (.agg #[.pointer (some ⟨5, 110, none⟩), .pointer (some a), .int .u64 150])).run Tryz.prog w = .ok (some (110, a, 150)) w := by kernel_rfl
theorem As.directX (w : World) : (Rtype.directlyAssignable 110 110).run Tryz.prog w = .ok true w := by kernel_rfl
theorem As.sizeX (w : World) : (sizeOf 110).run Tryz.prog w = .ok 1 w := by kernel_rfl
/-- (Value).Set: the *p.E variable at 'ta' gets what the Value's own variable 'b' holds. -/
theorem As.setX (ta b e : Addr) (old : Value) (W : World) (hb : W.cell? b = some (.pointer (some e))) (ht : W.cell? ta = some old) (hf : W.frozen? ta = false) :
    (ReflectliteValue.set #[.agg #[.pointer (some ⟨5, 110, none⟩), .pointer (some ta), .int .u64 406], .agg #[.pointer (some ⟨5, 110, none⟩), .pointer (some b), .int .u64 150]]).run Tryz.prog W
      = .ok (.tuple #[]) (W.setCell ta (.pointer (some e))) := by
  rw [rls]
  simp only [Sem.run_bind, As.partsXa, As.partsX, Result.andThen]
  simp [ReflectliteValue.flagAddr, loadVar, isAgg, underlying, Tryz.underlying110, hb, Result.andThen, As.directX, storeVar, Value.cells, storeCells, Addr.add]
  rw [run_store Tryz.prog W ta _ _ (by rfl)]
  simp [ht, hf]

set_option maxRecDepth 100000 in
set_option maxHeartbeats 4000000 in
theorem as_hit (e t : Addr) (old : Value) (w : World) (hg : w.cell? ⟨0, 0, none⟩ = some (.iface 260 (.agg #[.pointer (some ⟨5, 55, none⟩)]))) (ht0 : w.cell? t = some old) (hf0 : w.frozen? t = false) :
    Calls Tryz.prog 35 #[.iface 110 (.pointer (some e)), .iface 114 (.pointer (some t))] w fun ev w' => ev = .returned (.bool true) ∧ w' = ((((w.alloc (.cells #[.pointer (some t)] 114)).alloc (.cells #[.pointer (some ⟨5, 114, none⟩), .pointer (some ⟨w.heap.size, 0, none⟩), .int .u64 150] 189)).alloc (.cells #[.pointer (some ⟨5, 114, none⟩), .pointer (some ⟨w.heap.size, 0, none⟩), .int .u64 150] 189)).alloc (.cells #[.pointer (some e)] 110)).setCell t (.pointer (some e)) := by
  have zhg := @run_callFunc_extern Tryz.prog 79 _ (fun args => ReflectliteValue.unpack (args.getD 0 (.tuple #[]))) Tryz.func79 (by kernel_rfl) (by kernel_rfl) (by kernel_rfl) (by kernel_rfl)
  have zhh := @run_callFunc_extern Tryz.prog 80 _ (ReflectliteValue.methodAny (ReflectliteValue.valueError "reflectlite.Value.Type" 0) (fun t _ _ _ => ReflectliteType.toType t)) Tryz.func80 (by kernel_rfl) (by kernel_rfl) (by kernel_rfl) (by kernel_rfl)
  have zhi := @run_callFunc_extern Tryz.prog 81 _ (ReflectliteValue.method (ReflectliteValue.valueError "reflectlite.Value.IsNil" 0) ReflectliteValue.isNil) Tryz.func81 (by kernel_rfl) (by kernel_rfl) (by kernel_rfl) (by kernel_rfl)
  have zhch := @run_callFunc_extern Tryz.prog 429 _ (ReflectliteType.abiMethod fun t => do pure (.int .u8 (← Rtype.kind t))) Tryz.func429 (by kernel_rfl) (by kernel_rfl) (by kernel_rfl) (by kernel_rfl)
  have zhdh := @run_callFunc_extern Tryz.prog 443 _ (ReflectliteType.method ReflectliteType.elem) Tryz.func443 (by kernel_rfl) (by kernel_rfl) (by kernel_rfl) (by kernel_rfl)
  have zhdi := @run_callFunc_extern Tryz.prog 444 _ (ReflectliteType.relation "Implements" ReflectliteType.implements_) Tryz.func444 (by kernel_rfl) (by kernel_rfl) (by kernel_rfl) (by kernel_rfl)
  have zhba := @run_callFunc_extern Tryz.prog 133 _ ReflectliteType.typeOf Tryz.func133 (by kernel_rfl) (by kernel_rfl) (by kernel_rfl) (by kernel_rfl)
  have zhdf := @run_callFunc_extern Tryz.prog 441 _ (ReflectliteType.relation "AssignableTo" ReflectliteType.assignableTo) Tryz.func441 (by kernel_rfl) (by kernel_rfl) (by kernel_rfl) (by kernel_rfl)
  have zhbb := @run_callFunc_extern Tryz.prog 134 _ (ReflectliteValue.method (ReflectliteValue.valueError "reflectlite.Value.Elem" 0) ReflectliteValue.elem) Tryz.func134 (by kernel_rfl) (by kernel_rfl) (by kernel_rfl) (by kernel_rfl)
  have zhbc := @run_callFunc_extern Tryz.prog 135 _ ReflectliteValue.set Tryz.func135 (by kernel_rfl) (by kernel_rfl) (by kernel_rfl) (by kernel_rfl)
  have tO := As.typeOfX
  have mA := As.methodAssignableTo
  have zacf := As.assignableX
  have zvcf := As.valueOfX
  have zfg := As.valueOfY
  have zfh := As.typeY
  have mK := As.methodKind
  have mE := As.methodElem
  have mI := As.methodImplements
  have zkch := As.kindY
  have zkcf := As.kindX
  have zech := As.elemY
  have zicf := As.implementsX
  have zni := As.isNilY ⟨w.heap.size, 0, none⟩ t ((w.alloc (.cells #[.pointer (some t)] 114)).alloc (.cells #[.pointer (some ⟨5, 114, none⟩), .pointer (some ⟨w.heap.size, 0, none⟩), .int .u64 150] 189)) (by simp)
  have hlt : 0 < w.heap.size := by
    rcases Nat.eq_zero_or_pos w.heap.size with h0 | h
    · simp [World.cell?, h0] at hg
    · exact h
  have hg2 : ((w.alloc (.cells #[.pointer (some t)] 114)).alloc (.cells #[.pointer (some ⟨5, 114, none⟩), .pointer (some ⟨w.heap.size, 0, none⟩), .int .u64 150] 189)).cell? ⟨0, 0, none⟩ = some (.iface 260 (.agg #[.pointer (some ⟨5, 55, none⟩)])) := by
    rw [World.cell?_alloc_lt _ _ ⟨0, 0, none⟩ (by simp), World.cell?_alloc_lt _ _ ⟨0, 0, none⟩ hlt]; exact hg
  have htl : t.block < w.heap.size := by
    rcases Nat.lt_or_ge t.block w.heap.size with h | h
    · exact h
    · simp [World.cell?, Array.getElem?_eq_none h] at ht0
  have el := As.elemVY ⟨w.heap.size, 0, none⟩ t (((w.alloc (.cells #[.pointer (some t)] 114)).alloc (.cells #[.pointer (some ⟨5, 114, none⟩), .pointer (some ⟨w.heap.size, 0, none⟩), .int .u64 150] 189)).alloc (.cells #[.pointer (some ⟨5, 114, none⟩), .pointer (some ⟨w.heap.size, 0, none⟩), .int .u64 150] 189)) (by rw [World.cell?_alloc_lt _ _ ⟨w.heap.size, 0, none⟩ (by simp; omega)]; simp)
  have st := As.setX t ⟨w.heap.size + 1 + 1 + 1, 0, none⟩ e old ((((w.alloc (.cells #[.pointer (some t)] 114)).alloc (.cells #[.pointer (some ⟨5, 114, none⟩), .pointer (some ⟨w.heap.size, 0, none⟩), .int .u64 150] 189)).alloc (.cells #[.pointer (some ⟨5, 114, none⟩), .pointer (some ⟨w.heap.size, 0, none⟩), .int .u64 150] 189)).alloc (.cells #[.pointer (some e)] 110))
    (by rw [World.cell?_alloc_at _ _ _ _ (by simp)]; rfl)
    (by rw [World.cell?_alloc_lt _ _ t (by simp; omega), World.cell?_alloc_lt _ _ t (by simp; omega), World.cell?_alloc_lt _ _ t (by simp; omega), World.cell?_alloc_lt _ _ t htl]; exact ht0)
    (by rw [World.frozen?_alloc_old _ _ t (by simp; omega), World.frozen?_alloc_old _ _ t (by simp; omega), World.frozen?_alloc_old _ _ t (by simp; omega), World.frozen?_alloc_old _ _ t (Nat.ne_of_lt htl)]; exact hf0)
  go_enter Tryz.func35, Tryz.ntmps35
  go_wp2
  refine wp_loop_rounds 1 ?_
  rw [rounds_succ]
  go_wp2
  go_ret
  exact ⟨rfl, rfl⟩
end Go.Proofs.YtkmkllpfhopikaaGreatDoor
