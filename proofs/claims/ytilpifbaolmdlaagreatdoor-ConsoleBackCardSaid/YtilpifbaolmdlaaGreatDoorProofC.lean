/-
  mandate/mandatelaw25.ConsoleBack returns true, whatever its input, and each argument reads behind the call as it read before: the tied card.
  Conditions: none of its own; the card's listed variables are tied to the program's text.
-/
import Derived.Test.YtilpifbaolmdlaaGreatDoorV8
import Derived.Test.YtilpifbaolmdlaaGreatDoorFactsC
import Derived.Test.YtilpifbaolmdlaaGreatDoorTiesC
import Derived.Test.YtilpifbaolmdlaaGreatDoorRows
import Derived.Test.YtilpifbaolmdlaaGreatDoorCards
import Derived.ChangeSame
import Derived.ChangeVars
import Derived.ChangeMaps5
import Derived.JoinedOf
import Derived.RowKit
import Derived.RowKitTokens
import Derived.Carry
import Derived.Deep.Slices
import Derived.Deep.Fields
import Derived.LaidLaws
import Derived.LaidHandle
import Derived.Lib.LaidTab
import Derived.Stop.Joined
import Derived.SevenTiedAt
namespace Go.Proofs.YtilpifbaolmdlaaGreatDoor
open Go Go.ChangeShapes Go.ChangeMaps Go.WideShapes Go.RowKit Go.Deep
set_option maxRecDepth 100000

/-! ### From the row's condition -/
theorem own : ownKnob Tryz.prog.godebug = none := by kernel_rfl
theorem laid_tail {P : Program} {x : String × DataW Unit} {l : List (String × DataW Unit)} {w : World} (h : laidMet P (x :: l) w) : laidMet P l w := by
  obtain ⟨ps, ⟨g, t, cs, fuel, p, q, _, _, _, _, hr, e⟩, hn, hall⟩ := h
  subst e
  exact ⟨q, hr, (List.nodup_append.1 hn).2.1, fun b off hm => hall b off (List.mem_append_right _ hm)⟩
theorem parts_of_laid {W : World} (h : laidMetH Tryz.prog Rows.consoleBackRow.laid W) :
    laidMet Tryz.prog [("unicode/utf8.first", Rows.laid_unicode_utf8_first), ("unicode/utf8.acceptRanges", Rows.laid_unicode_utf8_acceptRanges), ("internal/strconv.uint64pow10", Rows.laid_internal_strconv_uint64pow10), ("math/bits.deBruijn32tab", Rows.laid_math_bits_deBruijn32tab), ("math/bits.deBruijn64tab", Rows.laid_math_bits_deBruijn64tab)] W ∧ handlesMet Tryz.prog [("errors.errorType", Rows.laid_errors_errorType)] W := h
theorem tabB : (Lib.tabData .u8 dbZ : DataW Unit) = Rows.laid_math_bits_deBruijn64tab := by kernel_rfl
theorem tabP : (Lib.tabData .u64 Lib.pow10Tab : DataW Unit) = Rows.laid_internal_strconv_uint64pow10 := by kernel_rfl
theorem gP : Tryz.prog.globalNamed "internal/strconv.uint64pow10" = some 3 := by kernel_rfl
theorem tab_of_laid {W : World} (h : laidMetH Tryz.prog Rows.consoleBackRow.laid W) : Lib.TabIs Tryz.prog W "math/bits.deBruijn64tab" .u8 dbZ := by
  have h' := laid_tail (laid_tail (laid_tail (laid_tail (parts_of_laid h).1)))
  rw [← tabB] at h'
  exact Lib.tabIs_of_head gB (by kernel_rfl) (t := 379) (e := 5) (n := 64) (by kernel_rfl) (by kernel_rfl) (by kernel_rfl) (by kernel_rfl) h'
theorem pow_of_laid {W : World} (h : laidMetH Tryz.prog Rows.consoleBackRow.laid W) : PowTab W := by
  have h' := laid_tail (laid_tail (parts_of_laid h).1)
  rw [← tabP] at h'
  exact Lib.tabIs_of_head gP (by kernel_rfl) (t := 252) (e := 132) (n := Lib.pow10Tab.length) (by kernel_rfl) (by kernel_rfl) (by kernel_rfl) (by kernel_rfl) h'

/-! ### A world that meets the condition -/
def litOf : DataW Unit → Value
  | .lit (.int k n) => .int k n
  | _ => .nilIface
def cellsOfData : DataW Unit → List Value
  | .agg l => l.flatMap fun d => match d with
    | .agg l' => l'.map litOf
    | d => [litOf d]
  | _ => []
def lay (cs : List Value) : Obj → Obj
  | .cells _ t frozen => .cells ⟨cs⟩ t frozen
  | o => o
noncomputable def laidWorld (os : Os) : World :=
  let w0 := World.holding Tryz.prog os ⟨#[], #[], []⟩
  { w0 with heap := ((((((w0.heap.modify 4 (lay [.iface 450 (.agg #[.pointer (some ⟨7, 52, none⟩)])])).modify 6 (lay (cellsOfData Rows.laid_math_bits_deBruijn64tab))).modify 1 (lay (cellsOfData Rows.laid_unicode_utf8_first))).modify 2 (lay (cellsOfData Rows.laid_unicode_utf8_acceptRanges))).modify 3 (lay (cellsOfData Rows.laid_internal_strconv_uint64pow10))).modify 5 (lay (cellsOfData Rows.laid_math_bits_deBruijn32tab))) }
theorem laidWorld_met (os : Os) (args : Array Value) : laidMetH Tryz.prog Rows.consoleBackRow.laid ((laidWorld os).forCall (fun _ _ => 0) ⟨#[], args, []⟩).memory :=
  laidMetH_of_parts3 (fuel := 8) (laidMet_of_run' 8 (by kernel_rfl) (by kernel_rfl)) (by kernel_rfl) (by kernel_rfl)

section
variable {H : Type} {enc : TypeId × Value → H}
/-- The law for contracts, for those that look at how the variables lie. -/
theorem returns_shaped {a : Assume} {C : Checked} {os : Os} {f : FuncId} {fn : Func} {s : ChangeSpec} {conds : List PathCond} {apart fresh handsOn again : Bool} {X : World → Array Value → Prop}
    (hX : ∀ (w w' : World) (args : Array Value), w.heap = w'.heap → X w args → X w' args)
    (own : ownKnob C.prog.godebug = none) (started : os.Started) (noInit : C.prog.inits.idxOf? f = none) (hfn : C.prog.funcs[f]? = some fn)
    (witness : ∃ (w : World) (tape : Tape) (i : Input), w.os = os ∧ (w.forCall tape i).Shaped C.prog ∧ i.vars = [] ∧ Input.okWide C.prog (w.forCall tape i) .any w.heap.size f i ∧
      ((s.pre enc C.prog fn conds apart (w.forCall tape i).memory i.args ∧ X (w.forCall tape i).memory i.args) ∧ sizedMet enc C.prog fn (OpenSpec.ofChange s) apart (w.forCall tape i).memory i.args) ∧ a.holds C.prog (lone (Frame.enter C.prog f i.args .normal) [] (w.forCall tape i)))
    (contract : ∀ (W : World) (base : Nat) (args : Array Value) (ds gs : List (DataW H)) (before : List MemPlace), W.ShapedOpen C.prog →
      (∀ (j : Nat) t v, fn.params[j]? = some t → args[j]? = some v → Value.okWide C.prog W .any base t v) →
      DataW.Whole enc C.prog fn.params.toList s.vars apart W args.toList ds gs before → X W args →
      Calls C.prog f args W fun e W' => ∃ v, e = .returned v ∧ s.post enc C.prog fn apart fresh handsOn again W args v W') :
    ReturnsInHanded a C os f .any (fun w args => (s.pre enc C.prog fn conds apart w args ∧ X w args) ∧ sizedMet enc C.prog fn (OpenSpec.ofChange s) apart w args) (s.post enc C.prog fn apart fresh handsOn again) := by
  refine returnsInHanded_of_calls own started noInit witness ?_
  intro w tape i _ hshape _ hok hpre _
  obtain ⟨_, _, _, fn', hfn', _, _, _, _, hval⟩ := hok
  have e : fn' = fn := Option.some.inj (hfn'.symm.trans hfn)
  subst e
  obtain ⟨⟨⟨ds, gs, before, hw, hc⟩, hx⟩, hz⟩ := hpre
  have hw' := DataW.Whole.of_heap (w' := w.forCall tape i) (by rfl) hw
  refine (contract (w.forCall tape i) w.heap.size i.args ds gs before hshape hval hw' (hX _ _ _ (by rfl) hx)).mono fun e W' ⟨v, he, hp⟩ => ?_
  subst he
  exact ChangeSpec.post_blind hp
end

theorem kept_of_same {W W' : World} {may : MemPlace → Prop} (h1 : W'.os = W.os) (h2 : W'.output = W.output) (h3 : ∀ i, i < W.heap.size → W'.heap[i]? = W.heap[i]?) : W.keptBut W' may := by
  refine ⟨h1, h2, fun i hi => ?_⟩
  rw [h3 i hi]
  cases W.heap[i]? with
  | none => rfl
  | some o => cases o <;> first | exact ⟨rfl, rfl, rfl, fun _ _ => rfl⟩ | exact .inr ⟨rfl, rfl⟩ | rfl

/-! ### A slice of steps that came in -/
section
variable {H : Type} {enc : TypeId × Value → H}
theorem off32 : ∀ (j : Nat) (f : Field), ((Tryz.prog.fieldsOf 32))[j]? = some f → f.offset = j ∧ Tryz.prog.cellsOf f.type = 1 := by
  have h : oneCellFields Tryz.prog (Tryz.prog.fieldsOf 32) = true := by kernel_rfl
  exact hone_of h
theorem cells32 : Tryz.prog.cellsOf 32 = 6 := by kernel_rfl
theorem under32 : Tryz.prog.underlying 32 = some (.struct (Tryz.prog.fieldsOf 32)) := by kernel_rfl
theorem field32 : ((Tryz.prog.fieldsOf 32).map (·.type)) = #[5, 9, 9, 4, 3, 3] := by kernel_rfl
theorem step_of_cells {W : World} {fuel : Nat} {cs : List Value} {x : DataW H × List MemPlace} (h : DataW.trod enc Tryz.prog W 0 (fun _ => true) true fuel 32 cs = some x) :
    ∃ y : St, cs = cellsOf1 y ∧ y.u.size ≤ maxLen ∧ y.t.size ≤ maxLen := by
  obtain ⟨xs, n, _, _, hlen, hxl, hf⟩ := DataW.trod_struct under32 h
  rw [cells32] at hlen
  have hfs : (Tryz.prog.fieldsOf 32).size = 6 := by have := congrArg Array.size field32; simpa using this
  have key : ∀ (j : Nat) (ty : TypeId), (#[5, 9, 9, 4, 3, 3] : Array TypeId)[j]? = some ty → ∃ (v : Value) (r : DataW H × List MemPlace), cs[j]? = some v ∧ DataW.trod enc Tryz.prog W 0 (fun _ => true) true n ty [v] = some r := by
    intro j ty hj
    rw [← field32, Array.getElem?_map] at hj
    obtain ⟨f, hfj, rfl⟩ := Option.map_eq_some_iff.1 hj
    have hjl : j < 6 := by rw [← hfs]; exact (Array.getElem?_eq_some_iff.1 hfj).1
    obtain ⟨ho, hk⟩ := off32 j f hfj
    have h1 := hf j f hfj
    rw [ho, hk] at h1
    have hone : (cs.drop j).take 1 = [cs[j]'(by omega)] := by
      rw [List.drop_eq_getElem_cons (by omega)]
      rfl
    rw [hone, List.getElem?_eq_getElem (by omega)] at h1
    exact ⟨_, _, List.getElem?_eq_getElem (by omega), h1⟩
  obtain ⟨v0, r0, c0, t0⟩ := key 0 5 rfl
  obtain ⟨v1, r1, c1, t1⟩ := key 1 9 rfl
  obtain ⟨v2, r2, c2, t2⟩ := key 2 9 rfl
  obtain ⟨v3, r3, c3, t3⟩ := key 3 4 rfl
  obtain ⟨v4, r4, c4, t4⟩ := key 4 3 rfl
  obtain ⟨v5, r5, c5, t5⟩ := key 5 3 rfl
  obtain ⟨k, e0, _, _⟩ := DataW.trod_int Tryz.underlying5 t0
  obtain ⟨u, e1, _, hu⟩ := DataW.trod_string Tryz.underlying9 t1
  obtain ⟨t, e2, _, ht⟩ := DataW.trod_string Tryz.underlying9 t2
  obtain ⟨f, e3, _⟩ := DataW.trod_bool Tryz.underlying4 t3
  obtain ⟨nn, e4, _, _⟩ := DataW.trod_int Tryz.underlying3 t4
  obtain ⟨p, e5, _, _⟩ := DataW.trod_int Tryz.underlying3 t5
  refine ⟨⟨k, u, t, f, nn, p⟩, ?_, hu, ht⟩
  simp only [List.cons.injEq, and_true] at e0 e1 e2 e3 e4 e5
  subst e0 e1 e2 e3 e4 e5
  match cs, hlen with
  | [a0, a1, a2, a3, a4, a5], _ =>
    simp at c0 c1 c2 c3 c4 c5
    subst c0 c1 c2 c3 c4 c5
    rfl
theorem open_steps {W : World} {base : Nat} {v : Value} {d : DataW H} {p : List MemPlace} (hv : Value.okWide Tryz.prog W .any base 23 v) (h : DataW.Trod enc Tryz.prog W 0 (fun _ => true) true 23 v d p) :
    v = .slice none 0 0 ∨ (∃ a cap, v = .slice (some a) 0 cap) ∨ ∃ b o cap l, v = .slice (some ⟨b, o, none⟩) (List.length l) cap ∧ StepsAt W b o l ∧ b < W.heap.size ∧ l.length ≤ maxLen ∧ ∀ i (h : i < l.length), l[i].u.size ≤ maxLen ∧ l[i].t.size ≤ maxLen := by
  obtain ⟨a0, len, cap, rfl⟩ := okWide_slice Tryz.underlying23 hv
  obtain ⟨fuel, hf⟩ := h
  rcases open_slice Tryz.underlying23 hf with ⟨hcs, _⟩ | ⟨a, len', cap', m, n, D, Pl, hcs, hb, hl, hm, hmm, hx, hi⟩
  · simp [Value.cells] at hcs
    obtain ⟨rfl, rfl, rfl⟩ := hcs
    exact .inl rfl
  · simp [Value.cells] at hcs
    obtain ⟨rfl, rfl, rfl⟩ := hcs
    by_cases h0 : len = 0
    · subst h0
      exact .inr (.inl ⟨a, cap, rfl⟩)
    · have hmc : m = cap := by rw [hmm]; simp
      have each : ∀ i, i < len → ∃ y : St, (∀ r u, (cellsOf1 y)[r]? = some u → W.cell? (a.add (i * 6 + r)) = some u) ∧ y.u.size ≤ maxLen ∧ y.t.size ≤ maxLen := by
        intro i hil
        obtain ⟨cs', hc, ht'⟩ := hi i (by omega)
        rw [cells32] at hc
        obtain ⟨y, rfl, hu, ht⟩ := step_of_cells ht'
        obtain ⟨_, hcl, hat⟩ := World.cells?_some hc
        refine ⟨y, fun r u hr => ?_, hu, ht⟩
        have hrl : r < 6 := (List.getElem?_eq_some_iff.1 hr).1
        have := hat r hrl
        rw [← Go.Deep.add_add, this, hr]
      obtain ⟨b, o, sp⟩ := a
      have hsp : sp = none := by
        obtain ⟨y, hy, _⟩ := each 0 (by omega)
        simpa [Addr.add] using World.cell?_spot (hy 0 _ rfl)
      subst hsp
      have hpick : ∃ f : Nat → St, ∀ i, i < len → (∀ r u, (cellsOf1 (f i))[r]? = some u → W.cell? ((⟨b, o, none⟩ : Addr).add (i * 6 + r)) = some u) ∧ (f i).u.size ≤ maxLen ∧ (f i).t.size ≤ maxLen :=
        ⟨fun i => if h : i < len then (each i h).choose else ⟨0, ⟨#[]⟩, ⟨#[]⟩, false, 0, 0⟩, fun i hil => by
          have e : (if h : i < len then (each i h).choose else (⟨0, ⟨#[]⟩, ⟨#[]⟩, false, 0, 0⟩ : St)) = (each i hil).choose := dif_pos hil
          simp only [e]
          exact (each i hil).choose_spec⟩
      obtain ⟨f, hfs⟩ := hpick
      have hlen : ((List.range len).map f).length = len := by simp
      refine .inr (.inr ⟨b, o, cap, (List.range len).map f, by rw [hlen], fun i hil => ?_, ?_, by rw [hlen]; omega, fun i hil => ?_⟩)
      · have hil' : i < len := by rw [← hlen]; exact hil
        have e : ((List.range len).map f)[i] = f i := by simp
        rw [e]
        have key := (hfs i hil').1
        have step : ∀ r u, (cellsOf1 (f i))[r]? = some u → W.cell? ⟨b, o + i * 6 + r, none⟩ = some u := fun r u hr => by
          have := key r u hr
          rw [Addr.add_lit, show o + (i * 6 + r) = o + i * 6 + r by omega] at this
          exact this
        exact ⟨step 0 _ rfl, step 1 _ rfl, step 2 _ rfl, step 3 _ rfl, step 4 _ rfl, step 5 _ rfl⟩
      · have := (hfs 0 (by omega)).1 0 _ rfl
        exact World.block_lt_of_cell? _ _ this
      · have hil' : i < len := by rw [← hlen]; exact hil
        have e : ((List.range len).map f)[i] = f i := by simp
        rw [e]
        exact (hfs i hil').2
end

theorem laid_out : laidOutB Tryz.prog = true := by rw [← P2_eq]; exact fact1
theorem read_rec : Tryz.prog.readableRec 23 = true := by rw [← P2_eq]; kernel_rfl
theorem types_size : Tryz.prog.types.size = 663 := by rw [← P2_eq]; kernel_rfl
theorem law_lifted (os : Os) (started : os.Started) (H : Type) (enc : TypeId × Value → H) :
    ReturnsInHanded {} Tryz.checked os 5 .any (fun w args => (Rows.consoleBackSpec.pre enc Tryz.prog Tryz.f5 [] false w args ∧ laidMetH Tryz.prog Rows.consoleBackRow.laid w) ∧ sizedMet enc Tryz.prog Tryz.f5 (OpenSpec.ofChange Rows.consoleBackSpec) false w args)
      (Rows.consoleBackSpec.post enc Tryz.prog Tryz.f5 false true false false) := by
  refine returns_shaped (C := Tryz.checked) (X := fun w _ => laidMetH Tryz.prog Rows.consoleBackRow.laid w) (fun _ _ _ hh h => h.of_heap hh) own started (by kernel_rfl) Tryz.func5
    (ChangeSpec.witness_at (enc := enc) (C := Tryz.checked) (os := os) (X := fun w _ => laidMetH Tryz.prog Rows.consoleBackRow.laid w) false (laidWorld os) #[.slice none 0 0, .string ⟨#[]⟩] 8 rfl (by kernel_rfl) (by kernel_rfl) (by kernel_rfl) (by kernel_rfl) (by kernel_rfl) (laidWorld_met os _)) ?_
  intro W base args ds gs before hsh hval0 hW hL
  have hval : ∀ (j : Nat) t v, Tryz.f5.params[j]? = some t → args[j]? = some v → Value.okWide Tryz.prog W .any base t v := hval0
  have hW' := hW
  obtain ⟨p, q, hA0, hV, rfl, hfz, hnd⟩ := hW
  have hA : DataW.TrodAll enc Tryz.prog W 0 (fun _ => true) true Tryz.f5.params.toList args.toList ds p := hA0
  rw [Tryz.params5] at hA hval
  obtain ⟨v0, v1, d0, d1, p0, p1, rfl, rfl, rfl, h0, h1⟩ := trodAll_two hA
  obtain ⟨rfl, rfl⟩ := trodVars_none hV
  obtain ⟨s1, rfl, rfl, rfl, hs1⟩ := open_string Tryz.underlying9 (hval 1 9 v1 rfl rfl) h1
  have hlt : ∀ x ∈ p0, x.block < W.heap.size := fun x hx => hW'.lt x (by simpa using hx)
  have e1 : ∀ d0 d1 : DataW H, Rows.consoleBackSpec.fn H ([d0, d1] ++ []) = { results := [.lit (.bool true)], args := [d0, d1] } := fun _ _ => rfl
  have key : Calls Tryz.prog 5 #[v0, .string s1] W fun e W' => e = .returned (.bool true) ∧ Below W.heap.size W W' := by
    rcases open_steps (hval 0 23 v0 rfl rfl) h0 with rfl | ⟨a, cap, rfl⟩ | ⟨b, o, cap, l, rfl, hst, hb, hl, hsz⟩
    · exact law_back_none s1 W hsh (tab_of_laid hL) (pow_of_laid hL)
    · exact law_back_zero s1 a cap W hsh (tab_of_laid hL) (pow_of_laid hL)
    · by_cases hz : l.length = 0
      · rw [hz]
        exact law_back_zero s1 _ cap W hsh (tab_of_laid hL) (pow_of_laid hL)
      · exact law_back_some s1 b o cap l W hst hb (by omega) hl (fun i h => (hsz i h).1) hsh (tab_of_laid hL) (pow_of_laid hL)
  refine key.mono fun e W' ⟨he, hB⟩ => ?_
  subst he
  refine ⟨_, rfl, _, _, _, [], p0 ++ [], [], hW', ?_, ?_, ?_, hB.frame _, fun h => by cases h⟩
  · rw [e1]; exact trodAll_mk1 (shut_bool Tryz.underlying4 true)
  · rw [e1]; exact trodAll_mk2 (Below.trod laid_out read_rec (by rw [types_size]; decide) h0 hB hlt) (shut_string Tryz.underlying9 hs1)
  · rw [e1]; rfl

theorem facts : joinedFacts Tryz.pinned.checked.prog 5 Tryz.f5 Rows.consoleBackSpec Rows.consoleBackRow = true := by
  show joinedFacts Tryz.prog 5 Tryz.f5 Rows.consoleBackSpec Rows.consoleBackRow = true
  rw [← P2_eq]
  exact facts2
theorem row_holds : Rows.ConsoleBackSaid :=
  OpenClaim.holds_of_wide 5 Tryz.f5 rfl rfl rfl rfl rfl rfl rfl ⟨rfl, rfl, rfl, rfl, rfl⟩ rfl rfl rfl rfl rfl (by kernel_rfl) Tryz.func5 facts
    (of_decide_eq_true (by kernel_rfl)) (by unfold Func.isWrapper; first | (rw [if_pos (by decide +kernel)]; kernel_rfl) | (rw [if_neg (by decide +kernel)]; exact ⟨rfl, rfl⟩))
    (fun os started H enc _ => law_lifted os started H enc)

/-! ### The card -/
theorem no_go : (P2.funcs.toList.all fun fn => !fn.goes) = true := by kernel_rfl
theorem goes_none {P : Program} (hn : (P.funcs.toList.all fun fn => !fn.goes) = true) (s : String) : P.goesFrom s = false := by
  have hall : ∀ fn ∈ P.funcs.toList, fn.goes = false := fun fn hfn => by simpa using List.all_eq_true.1 hn fn hfn
  have hany : P.funcs.any Func.goes = false := by
    rw [← Array.any_toList, List.any_eq_false]
    intro fn hfn
    rw [hall fn hfn]
    simp
  unfold Program.goesFrom
  generalize P.funcNamed s = x
  cases x with
  | none => rfl
  | some f =>
    show P.goes f = false
    unfold Program.goes
    rw [hany, Bool.and_false, Bool.or_false, List.any_eq_false]
    intro g _
    generalize hg : P.funcs[g]? = y
    cases y with
    | none => simp
    | some fn =>
      have : fn ∈ P.funcs.toList := by
        rw [← Array.getElem?_toList] at hg
        exact List.mem_of_getElem? hg
      simp [hall fn this]
theorem goes_by : false = Rows.consoleBackRow.goesBy Tryz.pinned.checked.prog := by
  show false = (Tryz.prog.goesFrom "mandate/mandatelaw25.ConsoleBack" || false)
  rw [← P2_eq, goes_none no_go]
  rfl
theorem looks_at : true = Tryz.prog.looks [] := by rw [← P2_eq]; kernel_rfl
theorem wf_by : Rows.consoleBackRow.wfByText (OpenSpec.ofChange Rows.consoleBackSpec) = true := by kernel_rfl
theorem stand_ins : ([23, 9].all fun u => !Tryz.prog.wantsStandIn u) = true := by rw [← P2_eq]; kernel_rfl

theorem card_holds : Rows.ConsoleBackCardSaid :=
  Claim7.holds_tied_plain_at .later [] [.pinned, .data, .data, .data, .data, .handle] true (true, "7656cc200ddc7b8d408270124ea372538b58a9f37fff00c478841ed85e564780") true
    row_holds (fun _ h => by cases h) wf_by (fun _ h => by cases h) consoleBack_row_tie rfl ⟨rfl, rfl⟩ (by kernel_rfl) rfl
    (fun f fn hf hfn => by
      obtain rfl : f = 5 := Option.some.inj ((show Tryz.prog.funcNamed "mandate/mandatelaw25.ConsoleBack" = some 5 by kernel_rfl).symm.trans hf) |>.symm
      obtain rfl : fn = Tryz.f5 := (Option.some.inj (Tryz.func5.symm.trans hfn)).symm
      exact ⟨looks_at, fun j t ht => by
        rw [Tryz.params5] at ht
        have hm : t ∈ [23, 9] := by simpa using Array.mem_of_getElem? ht
        exact (show Tryz.prog.wantsStandIn t = false by simpa using List.all_eq_true.1 stand_ins t hm)⟩)
    goes_by
#print axioms card_holds
end Go.Proofs.YtilpifbaolmdlaaGreatDoor
