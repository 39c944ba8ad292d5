/- The statement FnExactWriteSlotCardSaid: for every input the law returns true and its arguments read behind the call as they read before; the variables that its row lists are tied to the program's text. -/
import Derived.Test.YtbemokhfcmepjaaGreatDoorP7
import Derived.Test.YtbemokhfcmepjaaGreatDoorRows
import Derived.WalkKit
import Derived.ProofKit
import Derived.OpenShut
import Derived.ShutString
import Derived.ChangeOld
import Derived.Below
import Derived.Test.YtbemokhfcmepjaaGreatDoorTie
import Derived.Test.YtbemokhfcmepjaaGreatDoorCards
import Derived.SevenTiedAt
import Derived.LaidMore
import Derived.Stop.Joined
import Derived.Lib.LaidTab
import Derived.Stop.LaidErr
import Derived.Lay
import Derived.Shelf.Vars
import Derived.Lib.Space
set_option linter.unusedVariables false
set_option linter.unusedSimpArgs false
namespace Go.Proofs.YtbemokhfcmepjaaGreatDoor
open Go.ChangeShapes Go.WideShapes Go.ChangeAt Go.RowKit
open GoD (rd own)
namespace fnExactWriteSlotDone
theorem own : ownKnob Tryz.prog.godebug = none := by kernel_rfl
theorem VW : laidOutB Tryz.prog = true := by kernel_rfl
theorem Dd : Opens Tryz.prog 9 ByteArray := .str Tryz.underlying9 (by as_aux_lemma => kernel_rfl)
theorem Qax : Opens Tryz.prog 23 U4 := .struct Tryz.underlying23 (by as_aux_lemma => kernel_rfl) (.cons rfl Dd (.one rfl Dd))
theorem Rn : Opens Tryz.prog 3 Int := .int Tryz.underlying3 (by as_aux_lemma => kernel_rfl)
theorem SQ : Opens Tryz.prog 85 X9 := .struct Tryz.underlying85 (by as_aux_lemma => kernel_rfl) (.cons rfl Dd (.one rfl Rn))
theorem MV : Opens Tryz.prog 24 (List X9) := .slice Tryz.underlying24 (by as_aux_lemma => kernel_rfl) SQ
theorem Qay : Opens Tryz.prog 4 Bool := .bool Tryz.underlying4 (by as_aux_lemma => kernel_rfl)
theorem GF : Opens Tryz.prog 116 Z7 := .struct Tryz.underlying116 (by as_aux_lemma => kernel_rfl) (.cons rfl Rn (.cons rfl Rn (.one rfl Dd)))
theorem Qaz : Opens Tryz.prog 142 Vc := .struct Tryz.underlying142 (by as_aux_lemma => kernel_rfl) (.cons rfl Dd (.one rfl GF))
theorem SR : Opens Tryz.prog 87 (List Vc) := .slice Tryz.underlying87 (by as_aux_lemma => kernel_rfl) Qaz
theorem Qa0 : Opens Tryz.prog 89 Jk := .struct Tryz.underlying89 (by as_aux_lemma => kernel_rfl) (.cons rfl Rn (.cons rfl Rn (.cons rfl Qay (.cons rfl Rn (.one rfl SR)))))
theorem SS : Opens Tryz.prog 25 (List Jk) := .slice Tryz.underlying25 (by as_aux_lemma => kernel_rfl) Qa0
theorem ST : Opens Tryz.prog 27 Ao := .struct Tryz.underlying27 (by as_aux_lemma => kernel_rfl) (.cons rfl MV (.cons rfl SS (.one rfl Rn)))
theorem Qa1 : Opens Tryz.prog 118 Qw := .struct Tryz.underlying118 (by as_aux_lemma => kernel_rfl) (.cons rfl Rn (.cons rfl Rn (.cons rfl Rn (.cons rfl Dd (.one rfl GF)))))
theorem SU : Opens Tryz.prog 63 (List Qw) := .slice Tryz.underlying63 (by as_aux_lemma => kernel_rfl) Qa1
theorem Qbz : Opens Tryz.prog 65 Z9 := .struct Tryz.underlying65 (by as_aux_lemma => kernel_rfl) (.cons rfl Dd (.one rfl SU))
theorem Qa2 : Opens Tryz.prog 28 (List Z9) := .slice Tryz.underlying28 (by as_aux_lemma => kernel_rfl) Qbz
theorem AZ : Opens Tryz.prog 30 Qp := .struct Tryz.underlying30 (by as_aux_lemma => kernel_rfl) (.cons rfl ST (.one rfl Qa2))
theorem MW : (Rows.laid_internal_strconv_uint64pow10 : DataW Unit) = Lib.tabData .u64 Lib.pow10Tab := by kernel_rfl
theorem SV : (Rows.laid_strings_asciiSpace : DataW Unit) = Lib.tabData .u8 Lib.asciiSpaceTab := by kernel_rfl
theorem Qca : "*" ++ "errors.errorString" = "*errors.errorString" := by decide
theorem Qa3 (u : TypeId) (h : Tryz.prog.typeName? 3 u = some "*errors.errorString") : u = 242 :=
  typeName_ptr_named (nm := "errors.errorString") (by rw [Qca]; kernel_rfl) (by kernel_rfl) (by decide) u (by rw [Qca]; exact h)
theorem HF {P : Program} {W : World} {l : List (String × DataW Unit)} {n : String} {d e : DataW Unit} (h : laidMet P ((n, d) :: l) W) (hd : d = e) : laidMet P ((n, e) :: l) W := hd ▸ h
theorem SW {W : World} (h : laidMetH Tryz.prog Rows.fnExactWriteSlotRow.laid W) (hs : W.ShapedOpen Tryz.prog) : Good Tryz.prog W := by
  rw [MakeChecks.laidMetH_plain _ _ _ (by as_aux_lemma => kernel_rfl)] at h
  refine ⟨fun g hg => ?_, fun g hg => ?_, fun g hg => ?_, fun g hg => ?_⟩
  · exact Lib.tabIs_of_head hg ((show (Tryz.prog.globals[3]?).map (·.type) = some 228 by kernel_rfl) ▸ (congrArg (fun k : Nat => (Tryz.prog.globals[k]?).map (·.type)) (Option.some.inj (hg.symm.trans (show Tryz.prog.globalNamed "internal/strconv.uint64pow10" = some 3 by kernel_rfl))))) Tryz.underlying228 Tryz.underlying206 (by as_aux_lemma => kernel_rfl) (by as_aux_lemma => kernel_rfl) (HF (laidMet.tail (laidMet.tail (h))) MW)
  · obtain ⟨a0, s0, hv0, -, -, -⟩ := laid_sentinel (laidMet.tail (laidMet.tail (laidMet.tail (laidMet.tail (laidMet.tail (h)))))) (show Tryz.prog.globalNamed "strconv.ErrSyntax" = some 1 by kernel_rfl) (show (Tryz.prog.globals[1]?).map (·.type) = some 164 by kernel_rfl) Tryz.underlying164 Qa3 Tryz.underlying242 Tryz.underlying244 rfl rfl Tryz.underlying9 (by as_aux_lemma => kernel_rfl) (by as_aux_lemma => kernel_rfl)
    exact ⟨_, _, hv0⟩
  · obtain rfl := Option.some.inj ((show Tryz.prog.globalNamed "internal/bytealg.MaxLen" = some 0 by kernel_rfl).symm.trans hg)
    exact cell_of_shapedOpen_int (zero := #[.int .i64 0]) (t := 3) hs (of_decide_eq_true (by as_aux_lemma => kernel_rfl)) (by as_aux_lemma => kernel_rfl) rfl (by as_aux_lemma => kernel_rfl) (by as_aux_lemma => kernel_rfl) Tryz.underlying3
  exact Lib.tabIs_of_head hg ((show (Tryz.prog.globals[6]?).map (·.type) = some 235 by kernel_rfl) ▸ (congrArg (fun k : Nat => (Tryz.prog.globals[k]?).map (·.type)) (Option.some.inj (hg.symm.trans (show Tryz.prog.globalNamed "strings.asciiSpace" = some 6 by kernel_rfl))))) Tryz.underlying235 Tryz.underlying5 (by as_aux_lemma => kernel_rfl) (by as_aux_lemma => kernel_rfl) (HF (laidMet.tail (laidMet.tail (laidMet.tail (laidMet.tail (laidMet.tail (laidMet.tail (laidMet.tail (h)))))))) SV)
theorem wrap {H : Type} {enc : TypeId × Value → H} {a : Assume} {C : Checked} {os : Os} {f : FuncId} {fn : Func} {s : ChangeSpec} {conds : List PathCond} {apart fresh handsOn again : Bool} {X : World → Array Value → Prop}
    (hX : ∀ (w w' : World) (args : Array Value), w.heap = w'.heap → X w args → X w' args)
    (own : ownKnob C.prog.godebug = none) (started : os.Started) (noInit : C.prog.inits.idxOf? f = none) (hfn : C.prog.funcs[f]? = some fn)
    (witness : ∃ (w : World) (tape : Tape) (i : Input), w.os = os ∧ (w.forCall tape i).Shaped C.prog ∧ i.vars = [] ∧ Input.okWide C.prog (w.forCall tape i) .any w.heap.size f i ∧
      ((s.pre enc C.prog fn conds apart (w.forCall tape i).memory i.args ∧ X (w.forCall tape i).memory i.args) ∧ sizedMet enc C.prog fn (OpenSpec.ofChange s) apart (w.forCall tape i).memory i.args) ∧ a.holds C.prog (lone (Frame.enter C.prog f i.args .normal) [] (w.forCall tape i)))
    (contract : ∀ (W : World) (base : Nat) (args : Array Value) (ds gs : List (DataW H)) (before : List MemPlace),
      (∀ (j : Nat) t v, fn.params[j]? = some t → args[j]? = some v → Value.okWide C.prog W .any base t v) →
      DataW.Whole enc C.prog fn.params.toList s.vars apart W args.toList ds gs before →
      conds.all (PathCond.test C.prog ⟨fn.params.toList, ds, s.plain.varTypes C.prog, gs⟩) = true → X W args → W.ShapedOpen C.prog →
      Calls C.prog f args W fun e W' => ∃ v, e = .returned v ∧ s.post enc C.prog fn apart fresh handsOn again W args v W') :
    ReturnsInHanded a C os f .any (fun w args => (s.pre enc C.prog fn conds apart w args ∧ X w args) ∧ sizedMet enc C.prog fn (OpenSpec.ofChange s) apart w args) (s.post enc C.prog fn apart fresh handsOn again) := by
  refine returnsInHanded_of_calls own started noInit witness ?_
  intro w tape i _ hsh _ hok hpre _
  obtain ⟨_, _, _, fn', hfn', _, _, _, _, hval⟩ := hok
  obtain rfl := Option.some.inj (hfn'.symm.trans hfn)
  obtain ⟨⟨⟨ds, gs, before, hw, hc⟩, hx⟩, _⟩ := hpre
  refine (contract (w.forCall tape i) w.heap.size i.args ds gs before hval (DataW.Whole.of_heap (w' := w.forCall tape i) (by rfl) hw) hc (hX _ _ _ (by rfl) hx) hsh).mono fun e W' ⟨v, he, hp⟩ => ?_
  subst he
  exact ChangeSpec.post_blind hp
theorem Qb0 (os : Os) : (World.holding Tryz.prog os ⟨#[], #[], []⟩).layFits Tryz.prog Rows.fnExactWriteSlotRow.laid [] = true := by kernel_rfl
theorem SX (os : Os) : (World.holding Tryz.prog os ⟨#[], #[], []⟩).layIfaces Tryz.prog Rows.fnExactWriteSlotRow.laid (World.laidAll Tryz.prog os Rows.fnExactWriteSlotRow.laid) = true := by kernel_rfl
theorem MX (os : Os) (args : Array Value) : laidMetH Tryz.prog Rows.fnExactWriteSlotRow.laid ((World.laidAll Tryz.prog os Rows.fnExactWriteSlotRow.laid).forCall (fun _ _ => 0) ⟨#[], args, []⟩).memory := by
  rw [MakeChecks.laidMetH_plain _ _ _ (by as_aux_lemma => kernel_rfl)]
  exact laidMet_laidAll (P := Tryz.prog) (os := os) (laid := Rows.fnExactWriteSlotRow.laid) args (Qb0 os) (SX os)
set_option maxHeartbeats 1000000 in
set_option maxRecDepth 100000 in
theorem Qa4 (os : Os) (started : os.Started) (H : Type) (enc : TypeId × Value → H) :
    ReturnsInHanded {} Tryz.checked os 3 .any (fun w args => (Rows.fnExactWriteSlotSpec.pre enc Tryz.prog Tryz.f3 [] false w args ∧ laidMetH Tryz.prog Rows.fnExactWriteSlotRow.laid w) ∧ sizedMet enc Tryz.prog Tryz.f3 (OpenSpec.ofChange Rows.fnExactWriteSlotSpec) false w args)
      (Rows.fnExactWriteSlotSpec.post enc Tryz.prog Tryz.f3 false true false false) := by
  refine wrap (C := Tryz.checked) (X := fun w _ => laidMetH Tryz.prog Rows.fnExactWriteSlotRow.laid w) (fun _ _ _ hh h => h.of_heap hh) own started (by as_aux_lemma => kernel_rfl) Tryz.func3
    (ChangeSpec.witness_shaped (enc := enc) (C := Tryz.checked) (os := os) (X := fun w _ => laidMetH Tryz.prog Rows.fnExactWriteSlotRow.laid w) false (World.laidAll Tryz.prog os Rows.fnExactWriteSlotRow.laid) #[.agg #[.string ⟨#[]⟩, .string ⟨#[]⟩], .agg #[.slice none 0 0, .slice none 0 0, .int .i64 0, .slice none 0 0], .int .i64 0] 8 (World.laidAll_os _ _ _) (World.shaped_of_ZipB (by as_aux_lemma => kernel_rfl) (by as_aux_lemma => kernel_rfl)) (by as_aux_lemma => kernel_rfl) (by as_aux_lemma => kernel_rfl) (by as_aux_lemma => kernel_rfl) (MX os _)) ?_
  intro W base args ds gs before hval0 hW hcnd hL hsh
  have hval : ∀ (j : Nat) t v, Tryz.f3.params[j]? = some t → args[j]? = some v → Value.okWide Tryz.prog W .any base t v := hval0
  have hW' := hW
  obtain ⟨p, q, hA0, hV, rfl, hfz, hnd⟩ := hW
  have hA : DataW.TrodAll enc Tryz.prog W 0 (fun _ => true) true Tryz.f3.params.toList args.toList ds p := hA0
  rw [Tryz.params3] at hA hval
  obtain ⟨v0, vs0, d0, ds0, p0, q0, hargs, rfl, rfl, h0, r0⟩ := trodAll_cons hA
  obtain ⟨v1, vs1, d1, ds1, p1, q1, rfl, rfl, rfl, h1, r1⟩ := trodAll_cons r0
  obtain ⟨v2, vs2, d2, ds2, p2, q2, rfl, rfl, rfl, h2, r2⟩ := trodAll_cons r1
  obtain ⟨rfl, rfl, rfl⟩ := trodAll_nil r2
  obtain rfl : args = #[v0, v1, v2] := by cases args; simp_all
  obtain ⟨rfl, rfl⟩ := trodVars_none hV
  have k0 := h0
  have lt0 := Tc k0
  obtain ⟨c0, a0, rfl, w0⟩ := XE Tryz.underlying23 Qax (hval 0 23 v0 rfl rfl) h0
  have k1 := h1
  have lt1 := Tc k1
  obtain ⟨c1, a1, rfl, w1⟩ := XE Tryz.underlying30 AZ (hval 1 30 v1 rfl rfl) h1
  have k2 := h2
  have lt2 := Tc k2
  obtain ⟨a2, rfl, w2⟩ := TG Tryz.underlying3 (by as_aux_lemma => kernel_rfl) (hval 2 3 v2 rfl rfl) h2
  clear hA0 hval0
  have hG := SW hL hsh
  refine (JJ W c0 a0 w0 c1 a1 w1 a2 w2 hG).mono fun e W' ⟨he, bel⟩ => ?_
  subst he
  exact ⟨_, rfl, _, _, _, [], _, [], hW', trodAll_mk1 (shut_bool Tryz.underlying4 _), (trodAll_cons_mk (Below.trod VW (by as_aux_lemma => kernel_rfl) (of_decide_eq_true (by as_aux_lemma => kernel_rfl)) k0 bel lt0) (trodAll_cons_mk (Below.trod VW (by as_aux_lemma => kernel_rfl) (of_decide_eq_true (by as_aux_lemma => kernel_rfl)) k1 bel lt1) (trodAll_cons_mk (Below.trod VW (by as_aux_lemma => kernel_rfl) (of_decide_eq_true (by as_aux_lemma => kernel_rfl)) k2 bel lt2) trodAll_mk0))), rfl, bel.frame _, fun h => by cases h⟩
theorem Qa5 {a b : Bool} (h1 : a = true) (h2 : b = true) : (a && b) = true := by rw [h1, h2]; rfl
set_option maxHeartbeats 1000000 in
theorem SY : joinedFacts Tryz.pinned.checked.prog 3 Tryz.f3 Rows.fnExactWriteSlotSpec Rows.fnExactWriteSlotRow = true := by
  unfold joinedFacts
  repeat' with_reducible apply Qa5
  all_goals (as_aux_lemma => kernel_rfl)
set_option maxHeartbeats 1000000 in
theorem over : Rows.fnExactWriteSlotRow.holds Tryz.pinned (OpenSpec.ofChange Rows.fnExactWriteSlotSpec) :=
  OpenClaim.holds_of_wide 3 Tryz.f3 rfl rfl rfl rfl rfl rfl rfl ⟨rfl, rfl, rfl, rfl, rfl⟩ rfl rfl rfl rfl rfl (by as_aux_lemma => kernel_rfl) Tryz.func3 SY
    (of_decide_eq_true (by as_aux_lemma => kernel_rfl)) (by unfold Func.isWrapper; rw [if_neg (by as_aux_lemma => decide +kernel)]; exact ⟨rfl, rfl⟩)
    (fun os started H enc _ => Qa4 os started H enc)
end fnExactWriteSlotDone
theorem B9 : Rows.FnExactWriteSlotSaid := fnExactWriteSlotDone.over
theorem fnExactWriteSlot_holds : Rows.FnExactWriteSlotCardSaid :=
  Claim7.holds_tied_plain_at .later [] [.data, .data, .data, .data, .sentinel, .sentinel, .listed, .data, .pinned] true (true, "7d9edab398dac4233765d43cef739c7fc36db56e3a354b098ca388e3edaeb0a8") true
    B9 (fun _ h => by cases h) (by as_aux_lemma => kernel_rfl) (fun _ h => by cases h) fnExactWriteSlot_row_tie rfl ⟨rfl, rfl⟩ (by as_aux_lemma => kernel_rfl) rfl
    (fun f fn hf hfn => by
      obtain rfl : f = 3 := Option.some.inj ((show Tryz.prog.funcNamed Rows.fnExactWriteSlotRow.func = some 3 by as_aux_lemma => kernel_rfl).symm.trans hf) |>.symm
      obtain rfl : fn = Tryz.f3 := (Option.some.inj (Tryz.func3.symm.trans hfn)).symm
      exact ⟨(by as_aux_lemma => kernel_rfl), fun j t ht => by
        rw [Tryz.params3] at ht
        have hm : t ∈ [23, 30, 3] := by simpa using Array.mem_of_getElem? ht
        have hall : ([23, 30, 3].all fun u => !Tryz.prog.wantsStandIn u) = true := by as_aux_lemma => kernel_rfl
        exact (show Tryz.prog.wantsStandIn t = false by simpa using List.all_eq_true.1 hall t hm)⟩)
    (by as_aux_lemma => kernel_rfl)
end Go.Proofs.YtbemokhfcmepjaaGreatDoor
