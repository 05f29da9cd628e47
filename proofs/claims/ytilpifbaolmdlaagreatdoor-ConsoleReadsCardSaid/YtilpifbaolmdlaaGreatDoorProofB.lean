/-
  mandate/mandatelaw25.ConsoleReads returns true, whatever its input, and each argument reads behind the call as it read before: the tied card.
  Conditions: none of its own; the card's listed variables are tied to the program's text.
-/
import Derived.Test.YtilpifbaolmdlaaGreatDoorV7
import Derived.Test.YtilpifbaolmdlaaGreatDoorFactsB
import Derived.Test.YtilpifbaolmdlaaGreatDoorTiesB
import Derived.Test.YtilpifbaolmdlaaGreatDoorRows
import Derived.Test.YtilpifbaolmdlaaGreatDoorCards
import Derived.ChangeSame
import Derived.ChangeVars
import Derived.ChangeMaps5
import Derived.JoinedOf
import Derived.RowKit
import Derived.RowKitTokens
import Derived.Carry
import Derived.Deep.Slices
import Derived.Deep.Fields
import Derived.LaidLaws
import Derived.LaidHandle
import Derived.Lib.LaidTab
import Derived.Stop.Joined
import Derived.SevenTiedAt
namespace Go.Proofs.YtilpifbaolmdlaaGreatDoor
open Go Go.ChangeShapes Go.ChangeMaps Go.WideShapes Go.RowKit Go.Deep
set_option maxRecDepth 100000

/-! ### From the row's condition -/
theorem own : ownKnob Tryz.prog.godebug = none := by kernel_rfl
theorem laid_tail {P : Program} {x : String × DataW Unit} {l : List (String × DataW Unit)} {w : World} (h : laidMet P (x :: l) w) : laidMet P l w := by
  obtain ⟨ps, ⟨g, t, cs, fuel, p, q, _, _, _, _, hr, e⟩, hn, hall⟩ := h
  subst e
  exact ⟨q, hr, (List.nodup_append.1 hn).2.1, fun b off hm => hall b off (List.mem_append_right _ hm)⟩
theorem parts_of_laid {W : World} (h : laidMetH Tryz.prog Rows.consoleReadsRow.laid W) :
    laidMet Tryz.prog [("unicode/utf8.first", Rows.laid_unicode_utf8_first), ("unicode/utf8.acceptRanges", Rows.laid_unicode_utf8_acceptRanges), ("internal/strconv.uint64pow10", Rows.laid_internal_strconv_uint64pow10), ("math/bits.deBruijn32tab", Rows.laid_math_bits_deBruijn32tab), ("math/bits.deBruijn64tab", Rows.laid_math_bits_deBruijn64tab)] W ∧ handlesMet Tryz.prog [("errors.errorType", Rows.laid_errors_errorType)] W := h
theorem tabB : (Lib.tabData .u8 dbZ : DataW Unit) = Rows.laid_math_bits_deBruijn64tab := by kernel_rfl
theorem tabP : (Lib.tabData .u64 Lib.pow10Tab : DataW Unit) = Rows.laid_internal_strconv_uint64pow10 := by kernel_rfl
theorem gP : Tryz.prog.globalNamed "internal/strconv.uint64pow10" = some 3 := by kernel_rfl
theorem tab_of_laid {W : World} (h : laidMetH Tryz.prog Rows.consoleReadsRow.laid W) : Lib.TabIs Tryz.prog W "math/bits.deBruijn64tab" .u8 dbZ := by
  have h' := laid_tail (laid_tail (laid_tail (laid_tail (parts_of_laid h).1)))
  rw [← tabB] at h'
  exact Lib.tabIs_of_head gB (by kernel_rfl) (t := 379) (e := 5) (n := 64) (by kernel_rfl) (by kernel_rfl) (by kernel_rfl) (by kernel_rfl) h'
theorem pow_of_laid {W : World} (h : laidMetH Tryz.prog Rows.consoleReadsRow.laid W) : PowTab W := by
  have h' := laid_tail (laid_tail (parts_of_laid h).1)
  rw [← tabP] at h'
  exact Lib.tabIs_of_head gP (by kernel_rfl) (t := 252) (e := 132) (n := Lib.pow10Tab.length) (by kernel_rfl) (by kernel_rfl) (by kernel_rfl) (by kernel_rfl) h'

/-! ### A world that meets the condition -/
def litOf : DataW Unit → Value
  | .lit (.int k n) => .int k n
  | _ => .nilIface
def cellsOfData : DataW Unit → List Value
  | .agg l => l.flatMap fun d => match d with
    | .agg l' => l'.map litOf
    | d => [litOf d]
  | _ => []
def lay (cs : List Value) : Obj → Obj
  | .cells _ t frozen => .cells ⟨cs⟩ t frozen
  | o => o
noncomputable def laidWorld (os : Os) : World :=
  let w0 := World.holding Tryz.prog os ⟨#[], #[], []⟩
  { w0 with heap := ((((((w0.heap.modify 4 (lay [.iface 450 (.agg #[.pointer (some ⟨7, 52, none⟩)])])).modify 6 (lay (cellsOfData Rows.laid_math_bits_deBruijn64tab))).modify 1 (lay (cellsOfData Rows.laid_unicode_utf8_first))).modify 2 (lay (cellsOfData Rows.laid_unicode_utf8_acceptRanges))).modify 3 (lay (cellsOfData Rows.laid_internal_strconv_uint64pow10))).modify 5 (lay (cellsOfData Rows.laid_math_bits_deBruijn32tab))) }
theorem laidWorld_met (os : Os) (args : Array Value) : laidMetH Tryz.prog Rows.consoleReadsRow.laid ((laidWorld os).forCall (fun _ _ => 0) ⟨#[], args, []⟩).memory :=
  laidMetH_of_parts3 (fuel := 8) (laidMet_of_run' 8 (by kernel_rfl) (by kernel_rfl)) (by kernel_rfl) (by kernel_rfl)

section
variable {H : Type} {enc : TypeId × Value → H}
/-- The law for contracts, for those that look at how the variables lie. -/
theorem returns_shaped {a : Assume} {C : Checked} {os : Os} {f : FuncId} {fn : Func} {s : ChangeSpec} {conds : List PathCond} {apart fresh handsOn again : Bool} {X : World → Array Value → Prop}
    (hX : ∀ (w w' : World) (args : Array Value), w.heap = w'.heap → X w args → X w' args)
    (own : ownKnob C.prog.godebug = none) (started : os.Started) (noInit : C.prog.inits.idxOf? f = none) (hfn : C.prog.funcs[f]? = some fn)
    (witness : ∃ (w : World) (tape : Tape) (i : Input), w.os = os ∧ (w.forCall tape i).Shaped C.prog ∧ i.vars = [] ∧ Input.okWide C.prog (w.forCall tape i) .any w.heap.size f i ∧
      ((s.pre enc C.prog fn conds apart (w.forCall tape i).memory i.args ∧ X (w.forCall tape i).memory i.args) ∧ sizedMet enc C.prog fn (OpenSpec.ofChange s) apart (w.forCall tape i).memory i.args) ∧ a.holds C.prog (lone (Frame.enter C.prog f i.args .normal) [] (w.forCall tape i)))
    (contract : ∀ (W : World) (base : Nat) (args : Array Value) (ds gs : List (DataW H)) (before : List MemPlace), W.ShapedOpen C.prog →
      (∀ (j : Nat) t v, fn.params[j]? = some t → args[j]? = some v → Value.okWide C.prog W .any base t v) →
      DataW.Whole enc C.prog fn.params.toList s.vars apart W args.toList ds gs before → X W args →
      Calls C.prog f args W fun e W' => ∃ v, e = .returned v ∧ s.post enc C.prog fn apart fresh handsOn again W args v W') :
    ReturnsInHanded a C os f .any (fun w args => (s.pre enc C.prog fn conds apart w args ∧ X w args) ∧ sizedMet enc C.prog fn (OpenSpec.ofChange s) apart w args) (s.post enc C.prog fn apart fresh handsOn again) := by
  refine returnsInHanded_of_calls own started noInit witness ?_
  intro w tape i _ hshape _ hok hpre _
  obtain ⟨_, _, _, fn', hfn', _, _, _, _, hval⟩ := hok
  have e : fn' = fn := Option.some.inj (hfn'.symm.trans hfn)
  subst e
  obtain ⟨⟨⟨ds, gs, before, hw, hc⟩, hx⟩, hz⟩ := hpre
  have hw' := DataW.Whole.of_heap (w' := w.forCall tape i) (by rfl) hw
  refine (contract (w.forCall tape i) w.heap.size i.args ds gs before hshape hval hw' (hX _ _ _ (by rfl) hx)).mono fun e W' ⟨v, he, hp⟩ => ?_
  subst he
  exact ChangeSpec.post_blind hp
end

theorem kept_of_same {W W' : World} {may : MemPlace → Prop} (h1 : W'.os = W.os) (h2 : W'.output = W.output) (h3 : ∀ i, i < W.heap.size → W'.heap[i]? = W.heap[i]?) : W.keptBut W' may := by
  refine ⟨h1, h2, fun i hi => ?_⟩
  rw [h3 i hi]
  cases W.heap[i]? with
  | none => rfl
  | some o => cases o <;> first | exact ⟨rfl, rfl, rfl, fun _ _ => rfl⟩ | exact .inr ⟨rfl, rfl⟩ | rfl

theorem laid_out : laidOutB Tryz.prog = true := by rw [← P2_eq]; exact fact1
theorem read_rec : Tryz.prog.readableRec 23 = true := by rw [← P2_eq]; kernel_rfl
theorem types_size : Tryz.prog.types.size = 663 := by rw [← P2_eq]; kernel_rfl
theorem law_lifted (os : Os) (started : os.Started) (H : Type) (enc : TypeId × Value → H) :
    ReturnsInHanded {} Tryz.checked os 3 .any (fun w args => (Rows.consoleReadsSpec.pre enc Tryz.prog Tryz.f3 [] false w args ∧ laidMetH Tryz.prog Rows.consoleReadsRow.laid w) ∧ sizedMet enc Tryz.prog Tryz.f3 (OpenSpec.ofChange Rows.consoleReadsSpec) false w args)
      (Rows.consoleReadsSpec.post enc Tryz.prog Tryz.f3 false true false false) := by
  refine returns_shaped (C := Tryz.checked) (X := fun w _ => laidMetH Tryz.prog Rows.consoleReadsRow.laid w) (fun _ _ _ hh h => h.of_heap hh) own started (by kernel_rfl) Tryz.func3
    (ChangeSpec.witness_at (enc := enc) (C := Tryz.checked) (os := os) (X := fun w _ => laidMetH Tryz.prog Rows.consoleReadsRow.laid w) false (laidWorld os) #[.string ⟨#[]⟩] 8 rfl (by kernel_rfl) (by kernel_rfl) (by kernel_rfl) (by kernel_rfl) (by kernel_rfl) (laidWorld_met os _)) ?_
  intro W base args ds gs before hsh hval0 hW hL
  have hval : ∀ (j : Nat) t v, Tryz.f3.params[j]? = some t → args[j]? = some v → Value.okWide Tryz.prog W .any base t v := hval0
  have hW' := hW
  obtain ⟨p, q, hA0, hV, rfl, hfz, hnd⟩ := hW
  have hA : DataW.TrodAll enc Tryz.prog W 0 (fun _ => true) true Tryz.f3.params.toList args.toList ds p := hA0
  rw [Tryz.params3] at hA hval
  obtain ⟨v0, d0, rfl, rfl, h0⟩ := trodAll_one hA
  obtain ⟨rfl, rfl⟩ := trodVars_none hV
  obtain ⟨s0, rfl, rfl, rfl, hs0⟩ := open_string Tryz.underlying9 (hval 0 9 v0 rfl rfl) h0
  have e1 : ∀ d0 : DataW H, Rows.consoleReadsSpec.fn H ([d0] ++ []) = { results := [.lit (.bool true)], args := [d0] } := fun _ => rfl
  refine (law_reads s0 W hsh (tab_of_laid hL) (pow_of_laid hL) hs0).mono fun e W' ⟨he, hB⟩ => ?_
  subst he
  refine ⟨_, rfl, _, _, _, [], [], [], hW', ?_, ?_, ?_, hB.frame _, fun h => by cases h⟩
  · rw [e1]; exact trodAll_mk1 (shut_bool Tryz.underlying4 true)
  · rw [e1]; exact trodAll_mk1 (shut_string Tryz.underlying9 hs0)
  · rw [e1]; rfl

theorem facts : joinedFacts Tryz.pinned.checked.prog 3 Tryz.f3 Rows.consoleReadsSpec Rows.consoleReadsRow = true := by
  show joinedFacts Tryz.prog 3 Tryz.f3 Rows.consoleReadsSpec Rows.consoleReadsRow = true
  rw [← P2_eq]
  exact facts2
theorem row_holds : Rows.ConsoleReadsSaid :=
  OpenClaim.holds_of_wide 3 Tryz.f3 rfl rfl rfl rfl rfl rfl rfl ⟨rfl, rfl, rfl, rfl, rfl⟩ rfl rfl rfl rfl rfl (by kernel_rfl) Tryz.func3 facts
    (of_decide_eq_true (by kernel_rfl)) (by unfold Func.isWrapper; first | (rw [if_pos (by decide +kernel)]; kernel_rfl) | (rw [if_neg (by decide +kernel)]; exact ⟨rfl, rfl⟩))
    (fun os started H enc _ => law_lifted os started H enc)

/-! ### The card -/
theorem no_go : (P2.funcs.toList.all fun fn => !fn.goes) = true := by kernel_rfl
theorem goes_none {P : Program} (hn : (P.funcs.toList.all fun fn => !fn.goes) = true) (s : String) : P.goesFrom s = false := by
  have hall : ∀ fn ∈ P.funcs.toList, fn.goes = false := fun fn hfn => by simpa using List.all_eq_true.1 hn fn hfn
  have hany : P.funcs.any Func.goes = false := by
    rw [← Array.any_toList, List.any_eq_false]
    intro fn hfn
    rw [hall fn hfn]
    simp
  unfold Program.goesFrom
  generalize P.funcNamed s = x
  cases x with
  | none => rfl
  | some f =>
    show P.goes f = false
    unfold Program.goes
    rw [hany, Bool.and_false, Bool.or_false, List.any_eq_false]
    intro g _
    generalize hg : P.funcs[g]? = y
    cases y with
    | none => simp
    | some fn =>
      have : fn ∈ P.funcs.toList := by
        rw [← Array.getElem?_toList] at hg
        exact List.mem_of_getElem? hg
      simp [hall fn this]
theorem goes_by : false = Rows.consoleReadsRow.goesBy Tryz.pinned.checked.prog := by
  show false = (Tryz.prog.goesFrom "mandate/mandatelaw25.ConsoleReads" || false)
  rw [← P2_eq, goes_none no_go]
  rfl
theorem looks_at : true = Tryz.prog.looks [] := by rw [← P2_eq]; kernel_rfl
theorem wf_by : Rows.consoleReadsRow.wfByText (OpenSpec.ofChange Rows.consoleReadsSpec) = true := by kernel_rfl
theorem stand_ins : ([9].all fun u => !Tryz.prog.wantsStandIn u) = true := by rw [← P2_eq]; kernel_rfl

theorem card_holds : Rows.ConsoleReadsCardSaid :=
  Claim7.holds_tied_plain_at .later [] [.pinned, .data, .data, .data, .data, .handle] true (true, "7656cc200ddc7b8d408270124ea372538b58a9f37fff00c478841ed85e564780") true
    row_holds (fun _ h => by cases h) wf_by (fun _ h => by cases h) consoleReads_row_tie rfl ⟨rfl, rfl⟩ (by kernel_rfl) rfl
    (fun f fn hf hfn => by
      obtain rfl : f = 3 := Option.some.inj ((show Tryz.prog.funcNamed "mandate/mandatelaw25.ConsoleReads" = some 3 by kernel_rfl).symm.trans hf) |>.symm
      obtain rfl : fn = Tryz.f3 := (Option.some.inj (Tryz.func3.symm.trans hfn)).symm
      exact ⟨looks_at, fun j t ht => by
        rw [Tryz.params3] at ht
        have hm : t ∈ [9] := by simpa using Array.mem_of_getElem? ht
        exact (show Tryz.prog.wantsStandIn t = false by simpa using List.all_eq_true.1 stand_ins t hm)⟩)
    goes_by
#print axioms card_holds
end Go.Proofs.YtilpifbaolmdlaaGreatDoor
