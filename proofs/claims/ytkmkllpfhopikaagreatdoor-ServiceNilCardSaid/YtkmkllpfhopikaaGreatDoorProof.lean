/-
  mandate/mandatelaw23.ServiceNil returns true, whatever its input, and each argument reads behind the call as it read before: the tied card.
  Conditions: none of its own; the card's listed variables are tied to the program's text by the given tie.
-/
import Derived.Test.YtkmkllpfhopikaaGreatDoorRun
import Derived.Test.YtkmkllpfhopikaaGreatDoorFacts
import Derived.Test.YtkmkllpfhopikaaGreatDoorRows
import Derived.Test.YtkmkllpfhopikaaGreatDoorCards
import Derived.Test.YtkmkllpfhopikaaGreatDoorTie
import Derived.ChangeSame
import Derived.ChangeVars
import Derived.ChangeMaps5
import Derived.JoinedOf
import Derived.RowKit
import Derived.RowKitTokens
import Derived.LaidLaws
import Derived.LaidHandle
import Derived.Lib.LaidTab
import Derived.Stop.Joined
import Derived.SevenTiedAt
namespace Go.Proofs.YtkmkllpfhopikaaGreatDoor
open Go Go.ChangeShapes Go.ChangeMaps Go.WideShapes Go.RowKit AE
set_option maxRecDepth 100000

/-! ### The memory at the beginning -/
def dbZ : List Int := [0, 1, 56, 2, 57, 49, 28, 3, 61, 58, 42, 50, 38, 29, 17, 4, 62, 47, 59, 36, 45, 43, 51, 22, 53, 39, 33, 30, 24, 18, 12, 5, 63, 55, 48, 27, 60, 41, 37, 16, 46, 35, 44, 21, 52, 32, 23, 11, 54, 26, 40, 15, 34, 20, 31, 10, 25, 14, 19, 9, 13, 8, 7, 6].map Int.ofNat
theorem gT : Tryz.prog.globalNamed "errors.errorType" = some 0 := by kernel_rfl
theorem gB : Tryz.prog.globalNamed "math/bits.deBruijn64tab" = some 1 := by kernel_rfl
theorem row0 : ((begin Tryz.prog (fun _ _ => 0) default).world.heap[0]?).bind Obj.row? = some (#[.nilIface], 192) := by kernel_rfl
theorem row1 : ((begin Tryz.prog (fun _ _ => 0) default).world.heap[1]?).bind Obj.row? = some (Array.replicate 64 (.int .u8 0), 332) := by kernel_rfl
theorem size5 : Tryz.prog.globals.size = 5 := by kernel_rfl

/-- Where the two variables lie. -/
noncomputable def mp0 : Mp := { f := fun i => match Nat.ble i 5 with | true => some i | false => none, sz := fun i => match Nat.beq i 0 with | true => 1 | false => 64, es := fun i => match Nat.beq i 0 with | true => P2.cellsOf 192 | false => P2.cellsOf 332 }
theorem begin_get (k : Nat) : begin0.get k = if k = 1 then some oB else if k = 0 then some oT else none := by
  show ((Tr.nil.set 0 (some oT)).set 1 (some oB)).get k = _
  rw [Tr.get_set, Tr.get_set]
  rfl

theorem oB_eq : oB = .row 332 true (dbZ.map fun z => Value.int .u8 z) := by kernel_rfl
theorem db_flat : ((dbZ.map fun z => Value.int .u8 z).all (flatF 4)) = true := by kernel_rfl

theorem law_true (W : World) (v0 v1 v2 : Value) (hs : W.ShapedOpen Tryz.prog) (h0 : W.cell? ⟨0, 0, none⟩ = some (.iface 260 (.agg #[.pointer (some ⟨5, 55, none⟩)])))
    (h1 : Lib.TabIs Tryz.prog W "math/bits.deBruijn64tab" .u8 dbZ) :
    Calls Tryz.prog 3 #[v0, v1, v2] W fun e W' => e = .returned (.bool true) ∧ W'.os = W.os ∧ W'.output = W.output ∧ W.heap.size ≤ W'.heap.size ∧ ∀ i, i < W.heap.size → W'.heap[i]? = W.heap[i]? := by
  obtain ⟨c0, e0, z0, _⟩ := hs.1 0 _ _ (by rw [size5]; decide) row0
  obtain ⟨c1, e1, z1, _⟩ := hs.1 1 _ _ (by rw [size5]; decide) row1
  have hc0 : c0 = #[.iface 260 (.agg #[.pointer (some ⟨5, 55, none⟩)])] := by
    have z0 : c0.size = 1 := z0
    have : c0[0]? = some (.iface 260 (.agg #[.pointer (some ⟨5, 55, none⟩)])) := by
      simpa [World.cell?, e0] using h0
    apply Array.ext_getElem?
    intro i
    rcases i with _ | i
    · exact this
    · rw [Array.getElem?_eq_none (by omega), Array.getElem?_eq_none (by simp)]
  have hc1 : c1 = (dbZ.map fun z => Value.int .u8 z).toArray := by
    have h1 : W.var? Tryz.prog "math/bits.deBruijn64tab" = some (dbZ.map fun z => Value.int .u8 z).toArray := h1
    simp only [World.var?, gB, Option.bind_some, e1, Option.some.injEq] at h1
    exact h1
  subst hc0; subst hc1
  have hr : HR P2 mp0 begin0 W := by
    refine ⟨fun i j b _ _ hi hj => ?_, fun k o hk => ?_, rfl, fun k hk => ?_, by show 6 < 7; omega, fun g hg => ?_⟩
    · have key : ∀ i b, mp0.f i = some b → i = b := fun i b h => by
        have h : (match Nat.ble i 5 with | true => some i | false => none) = some b := h
        cases hx : Nat.ble i 5 with
        | true => rw [hx] at h; exact Option.some.inj h
        | false => rw [hx] at h; cases h
      rw [key i b hi, key j b hj]
    · rw [begin_get] at hk
      split at hk
      · rename_i e; subst e
        cases hk
        rw [oB_eq]
        refine ⟨1, _, rfl, e1, .row rfl rfl (fun _ => rfl) (Nat.le_refl _) ?_ (fun off _ hh => by have := hh.2; simp at this) (fun _ => rfl)⟩
        rw [List.take_length]
        exact flats_refl (n := 4) db_flat
      · split at hk
        · rename_i e; subst e
          cases hk
          rw [oT_eq, globals_size]
          exact ⟨0, _, rfl, e0, .row rfl rfl (fun _ => rfl) (Nat.le_refl _) (.cons (.iface _ (.agg (.cons (.ptr rfl) .nil))) .nil) (fun off _ hh => by have := hh.2; simp at this) (fun _ => rfl)⟩
        · cases hk
    · have hk : 7 ≤ k := hk
      show (match Nat.ble k 5 with | true => some k | false => none) = none
      rw [ble_iff, decide_eq_false (by omega)]
    · rw [globals_size] at hg
      show (match Nat.ble g 5 with | true => some g | false => none) = some g
      rw [ble_iff, decide_eq_true hg]
  obtain ⟨τ, hrun⟩ := isTrue_eq run_true
  have key := (callF_sound setup3 (execF_sound setup3 K) hrun hr (args' := [v0, v1, v2]) (.cons (.junk _) (.cons (.junk _) (.cons (.junk _) .nil)))).2
  rw [← P2_eq]
  refine (callsIn_wide.1 key).mono fun e W' ⟨m', hn, hres⟩ => ?_
  refine ⟨?_, hn.fr.os, hn.fr.output, hn.fr.size, fun i hi => hn.fr.same i hi fun ⟨k, o, h1, h2, _⟩ => ?_⟩
  · cases hres with
    | ret hv => cases hv; rfl
  · have h1 : 6 ≤ k := h1
    rw [begin_get] at h2
    rw [if_neg (by omega), if_neg (by omega)] at h2
    cases h2

/-! ### From the row's condition -/
theorem own : ownKnob Tryz.prog.godebug = none := by kernel_rfl
theorem rt : (Tryz.prog.cutTypes.find? (·.1 == "internal/reflectlite.rtype")).map (·.2) = some 260 := by kernel_rfl
theorem oneRow : ((List.range 616).filter fun t => Tryz.prog.rowNamed t [101, 114, 114, 111, 114]) = [55] := by rw [← P2_eq]; kernel_rfl
theorem tsize : Tryz.prog.types.size = 616 := by kernel_rfl
theorem tabB : (Lib.tabData .u8 dbZ : DataW Unit) = Rows.laid_math_bits_deBruijn64tab := by kernel_rfl

theorem parts_of_laid {W : World} (h : laidMetH Tryz.prog Rows.serviceNilRow.laid W) :
    laidMet Tryz.prog [("math/bits.deBruijn64tab", Rows.laid_math_bits_deBruijn64tab), ("unicode/utf8.acceptRanges", Rows.laid_unicode_utf8_acceptRanges), ("unicode/utf8.first", Rows.laid_unicode_utf8_first)] W ∧ handlesMet Tryz.prog [("errors.errorType", Rows.laid_errors_errorType)] W := h

theorem handle_of_laid {W : World} (h : laidMetH Tryz.prog Rows.serviceNilRow.laid W) : W.cell? ⟨0, 0, none⟩ = some (.iface 260 (.agg #[.pointer (some ⟨5, 55, none⟩)])) := by
  obtain ⟨name, u, ty, e1, e2, e3, e4, e5⟩ := (parts_of_laid h).2 _ (List.mem_singleton.2 rfl)
  have en : name = [101, 114, 114, 111, 114] := (Option.some.inj e1).symm
  subst en
  obtain rfl := Option.some.inj (rt.symm.trans e2)
  have hm : ty ∈ (List.range 616).filter fun t => Tryz.prog.rowNamed t [101, 114, 114, 111, 114] := List.mem_filter.2 ⟨List.mem_range.2 (by rw [← tsize]; exact e3), e4⟩
  rw [oneRow] at hm
  obtain rfl := List.mem_singleton.1 hm
  have hh : typeHandle Tryz.prog 55 = .pointer (some ⟨5, 55, none⟩) := by kernel_rfl
  rw [hh] at e5
  simpa using World.var?_cell gT e5 0

theorem tab_of_laid {W : World} (h : laidMetH Tryz.prog Rows.serviceNilRow.laid W) : Lib.TabIs Tryz.prog W "math/bits.deBruijn64tab" .u8 dbZ := by
  have h' := (parts_of_laid h).1
  rw [← tabB] at h'
  exact Lib.tabIs_of_head gB (by kernel_rfl) (t := 332) (e := 5) (n := 64) (by kernel_rfl) (by kernel_rfl) (by kernel_rfl) (by kernel_rfl) h'

/-! ### A world that meets the condition -/
def litOf : DataW Unit → Value
  | .lit (.int k n) => .int k n
  | _ => .nilIface
def cellsOfData : DataW Unit → List Value
  | .agg l => l.flatMap fun d => match d with
    | .agg l' => l'.map litOf
    | d => [litOf d]
  | _ => []
def lay (cs : List Value) : Obj → Obj
  | .cells _ t frozen => .cells ⟨cs⟩ t frozen
  | o => o
noncomputable def laidWorld (os : Os) : World :=
  let w0 := World.holding Tryz.prog os ⟨#[], #[], []⟩
  { w0 with heap := (((w0.heap.modify 0 (lay [.iface 260 (.agg #[.pointer (some ⟨5, 55, none⟩)])])).modify 1 (lay (cellsOfData Rows.laid_math_bits_deBruijn64tab))).modify 3 (lay (cellsOfData Rows.laid_unicode_utf8_first))).modify 4 (lay (cellsOfData Rows.laid_unicode_utf8_acceptRanges)) }
theorem laidWorld_met (os : Os) (args : Array Value) : laidMetH Tryz.prog Rows.serviceNilRow.laid ((laidWorld os).forCall (fun _ _ => 0) ⟨#[], args, []⟩).memory :=
  laidMetH_of_parts3 (fuel := 8) (laidMet_of_run' 8 (by kernel_rfl) (by kernel_rfl)) (by kernel_rfl) (by kernel_rfl)

section
variable {H : Type} {enc : TypeId × Value → H}
/-- The law for contracts, for those that look at how the variables lie. -/
theorem returns_shaped {a : Assume} {C : Checked} {os : Os} {f : FuncId} {fn : Func} {s : ChangeSpec} {conds : List PathCond} {apart fresh handsOn again : Bool} {X : World → Array Value → Prop}
    (hX : ∀ (w w' : World) (args : Array Value), w.heap = w'.heap → X w args → X w' args)
    (own : ownKnob C.prog.godebug = none) (started : os.Started) (noInit : C.prog.inits.idxOf? f = none) (hfn : C.prog.funcs[f]? = some fn)
    (witness : ∃ (w : World) (tape : Tape) (i : Input), w.os = os ∧ (w.forCall tape i).Shaped C.prog ∧ i.vars = [] ∧ Input.okWide C.prog (w.forCall tape i) .any w.heap.size f i ∧
      ((s.pre enc C.prog fn conds apart (w.forCall tape i).memory i.args ∧ X (w.forCall tape i).memory i.args) ∧ sizedMet enc C.prog fn (OpenSpec.ofChange s) apart (w.forCall tape i).memory i.args) ∧ a.holds C.prog (lone (Frame.enter C.prog f i.args .normal) [] (w.forCall tape i)))
    (contract : ∀ (W : World) (base : Nat) (args : Array Value) (ds gs : List (DataW H)) (before : List MemPlace), W.ShapedOpen C.prog →
      (∀ (j : Nat) t v, fn.params[j]? = some t → args[j]? = some v → Value.okWide C.prog W .any base t v) →
      DataW.Whole enc C.prog fn.params.toList s.vars apart W args.toList ds gs before → X W args →
      Calls C.prog f args W fun e W' => ∃ v, e = .returned v ∧ s.post enc C.prog fn apart fresh handsOn again W args v W') :
    ReturnsInHanded a C os f .any (fun w args => (s.pre enc C.prog fn conds apart w args ∧ X w args) ∧ sizedMet enc C.prog fn (OpenSpec.ofChange s) apart w args) (s.post enc C.prog fn apart fresh handsOn again) := by
  refine returnsInHanded_of_calls own started noInit witness ?_
  intro w tape i _ hshape _ hok hpre _
  obtain ⟨_, _, _, fn', hfn', _, _, _, _, hval⟩ := hok
  have e : fn' = fn := Option.some.inj (hfn'.symm.trans hfn)
  subst e
  obtain ⟨⟨⟨ds, gs, before, hw, hc⟩, hx⟩, hz⟩ := hpre
  have hw' := DataW.Whole.of_heap (w' := w.forCall tape i) (by rfl) hw
  refine (contract (w.forCall tape i) w.heap.size i.args ds gs before hshape hval hw' (hX _ _ _ (by rfl) hx)).mono fun e W' ⟨v, he, hp⟩ => ?_
  subst he
  exact ChangeSpec.post_blind hp
end

theorem kept_of_same {W W' : World} {may : MemPlace → Prop} (h1 : W'.os = W.os) (h2 : W'.output = W.output) (h3 : ∀ i, i < W.heap.size → W'.heap[i]? = W.heap[i]?) : W.keptBut W' may := by
  refine ⟨h1, h2, fun i hi => ?_⟩
  rw [h3 i hi]
  cases W.heap[i]? with
  | none => rfl
  | some o => cases o <;> first | exact ⟨rfl, rfl, rfl, fun _ _ => rfl⟩ | exact .inr ⟨rfl, rfl⟩ | rfl

theorem law_lifted (os : Os) (started : os.Started) (H : Type) (enc : TypeId × Value → H) :
    ReturnsInHanded {} Tryz.checked os 3 .any (fun w args => (Rows.serviceNilSpec.pre enc Tryz.prog Tryz.f3 [] false w args ∧ laidMetH Tryz.prog Rows.serviceNilRow.laid w) ∧ sizedMet enc Tryz.prog Tryz.f3 (OpenSpec.ofChange Rows.serviceNilSpec) false w args)
      (Rows.serviceNilSpec.post enc Tryz.prog Tryz.f3 false true false false) := by
  refine returns_shaped (C := Tryz.checked) (X := fun w _ => laidMetH Tryz.prog Rows.serviceNilRow.laid w) (fun _ _ _ hh h => h.of_heap hh) own started (by kernel_rfl) Tryz.func3
    (ChangeSpec.witness_at (enc := enc) (C := Tryz.checked) (os := os) (X := fun w _ => laidMetH Tryz.prog Rows.serviceNilRow.laid w) false (laidWorld os) #[.string ⟨#[]⟩, .string ⟨#[]⟩, .bool false] 8 rfl (by kernel_rfl) (by kernel_rfl) (by kernel_rfl) (by kernel_rfl) (by kernel_rfl) (laidWorld_met os _)) ?_
  intro W base args ds gs before hsh hval0 hW hL
  have hval : ∀ (j : Nat) t v, Tryz.f3.params[j]? = some t → args[j]? = some v → Value.okWide Tryz.prog W .any base t v := hval0
  have hW' := hW
  obtain ⟨p, q, hA0, hV, rfl, hfz, hnd⟩ := hW
  have hA : DataW.TrodAll enc Tryz.prog W 0 (fun _ => true) true Tryz.f3.params.toList args.toList ds p := hA0
  rw [Tryz.params3] at hA hval
  obtain ⟨v0, v1, v2, d0, d1, d2, p0, p1, p2, rfl, rfl, rfl, h0, h1, h2⟩ := trodAll_three hA
  obtain ⟨rfl, rfl⟩ := trodVars_none hV
  obtain ⟨s0, rfl, rfl, rfl, hs0⟩ := open_string Tryz.underlying9 (hval 0 9 v0 rfl rfl) h0
  obtain ⟨s1, rfl, rfl, rfl, hs1⟩ := open_string Tryz.underlying9 (hval 1 9 v1 rfl rfl) h1
  obtain ⟨b2, rfl, rfl, rfl⟩ := open_bool Tryz.underlying4 (hval 2 4 v2 rfl rfl) h2
  have e1 : ∀ d0 d1 d2 : DataW H, Rows.serviceNilSpec.fn H ([d0, d1, d2] ++ []) = { results := [.lit (.bool true)], args := [d0, d1, d2] } := fun _ _ _ => rfl
  refine (law_true W _ _ _ hsh (handle_of_laid hL) (tab_of_laid hL)).mono fun e W' ⟨he, ho, hu, _, hsame⟩ => ?_
  subst he
  refine ⟨_, rfl, _, _, _, [], [], [], hW', ?_, ?_, ?_, kept_of_same ho hu hsame, fun h => by cases h⟩
  · rw [e1]; exact trodAll_mk1 (shut_bool Tryz.underlying4 true)
  · rw [e1]; exact trodAll_mk3 (shut_string Tryz.underlying9 hs0) (shut_string Tryz.underlying9 hs1) (shut_bool Tryz.underlying4 b2)
  · rw [e1]; rfl

theorem facts : joinedFacts Tryz.pinned.checked.prog 3 Tryz.f3 Rows.serviceNilSpec Rows.serviceNilRow = true := by
  show joinedFacts Tryz.prog 3 Tryz.f3 Rows.serviceNilSpec Rows.serviceNilRow = true
  rw [← P2_eq]
  exact facts2
theorem row_holds : Rows.ServiceNilSaid :=
  OpenClaim.holds_of_wide 3 Tryz.f3 rfl rfl rfl rfl rfl rfl rfl ⟨rfl, rfl, rfl, rfl, rfl⟩ rfl rfl rfl rfl rfl (by kernel_rfl) Tryz.func3 facts
    (of_decide_eq_true (by kernel_rfl)) (by unfold Func.isWrapper; first | (rw [if_pos (by decide +kernel)]; kernel_rfl) | (rw [if_neg (by decide +kernel)]; exact ⟨rfl, rfl⟩))
    (fun os started H enc _ => law_lifted os started H enc)

/-! ### The card -/
theorem no_go : (P2.funcs.toList.all fun fn => !fn.goes) = true := by kernel_rfl
theorem goes_none {P : Program} (hn : (P.funcs.toList.all fun fn => !fn.goes) = true) (s : String) : P.goesFrom s = false := by
  have hall : ∀ fn ∈ P.funcs.toList, fn.goes = false := fun fn hfn => by simpa using List.all_eq_true.1 hn fn hfn
  have hany : P.funcs.any Func.goes = false := by
    rw [← Array.any_toList, List.any_eq_false]
    intro fn hfn
    rw [hall fn hfn]
    simp
  unfold Program.goesFrom
  generalize P.funcNamed s = x
  cases x with
  | none => rfl
  | some f =>
    show P.goes f = false
    unfold Program.goes
    rw [hany, Bool.and_false, Bool.or_false, List.any_eq_false]
    intro g _
    generalize hg : P.funcs[g]? = y
    cases y with
    | none => simp
    | some fn =>
      have : fn ∈ P.funcs.toList := by
        rw [← Array.getElem?_toList] at hg
        exact List.mem_of_getElem? hg
      simp [hall fn this]
theorem goes_by : false = Rows.serviceNilRow.goesBy Tryz.pinned.checked.prog := by
  show false = (Tryz.prog.goesFrom "mandate/mandatelaw23.ServiceNil" || false)
  rw [← P2_eq, goes_none no_go]
  rfl
theorem looks_at : true = Tryz.prog.looks [] := by rw [← P2_eq]; kernel_rfl
theorem wf_by : Rows.serviceNilRow.wfByText (OpenSpec.ofChange Rows.serviceNilSpec) = true := by kernel_rfl
theorem stand_ins : ([9, 9, 4].all fun u => !Tryz.prog.wantsStandIn u) = true := by rw [← P2_eq]; kernel_rfl

theorem card_holds : Rows.ServiceNilCardSaid :=
  Claim7.holds_tied_plain_at .later [] [.data, .data, .handle, .pinned] true (true, "d457929fe716a714a398e7e7b674efeb9b28b7bef41670889bde268a007c4be4") true
    row_holds (fun _ h => by cases h) wf_by (fun _ h => by cases h) serviceNil_row_tie rfl ⟨rfl, rfl⟩ (by kernel_rfl) rfl
    (fun f fn hf hfn => by
      obtain rfl : f = 3 := Option.some.inj ((show Tryz.prog.funcNamed "mandate/mandatelaw23.ServiceNil" = some 3 by kernel_rfl).symm.trans hf) |>.symm
      obtain rfl : fn = Tryz.f3 := (Option.some.inj (Tryz.func3.symm.trans hfn)).symm
      exact ⟨looks_at, fun j t ht => by
        rw [Tryz.params3] at ht
        have hm : t ∈ [9, 9, 4] := by simpa using Array.mem_of_getElem? ht
        exact (show Tryz.prog.wantsStandIn t = false by simpa using List.all_eq_true.1 stand_ins t hm)⟩)
    goes_by
#print axioms card_holds
end Go.Proofs.YtkmkllpfhopikaaGreatDoor
