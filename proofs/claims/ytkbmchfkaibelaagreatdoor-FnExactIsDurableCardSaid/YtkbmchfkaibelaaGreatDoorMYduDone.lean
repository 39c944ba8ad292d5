/- The statement FnExactIsDurableCardSaid: for every input the law returns true and its arguments read behind the call as they read before; the variables that its row lists are tied to the program's text. -/
import Derived.Test.YtkbmchfkaibelaaGreatDoorP7
import Derived.Test.YtkbmchfkaibelaaGreatDoorRows
import Derived.WalkKit
import Derived.ProofKit
import Derived.OpenShut
import Derived.ShutString
import Derived.ChangeOld
import Derived.Below
import Derived.Test.YtkbmchfkaibelaaGreatDoorTie
import Derived.Test.YtkbmchfkaibelaaGreatDoorCards
import Derived.SevenTiedAt
import Derived.LaidMore
import Derived.Stop.Joined
import Derived.Lib.LaidTab
import Derived.Stop.LaidErr
import Derived.Lay
import Derived.Shelf.Vars
import Derived.Lib.Space
set_option linter.unusedVariables false
set_option linter.unusedSimpArgs false
namespace Go.Proofs.YtkbmchfkaibelaaGreatDoor
open Go.ChangeShapes Go.WideShapes Go.ChangeAt Go.RowKit
open GoD (rd own)
namespace fnExactIsDurableDone
theorem own : ownKnob Tryz.prog.godebug = none := by kernel_rfl
theorem Qb7 : laidOutB Tryz.prog = true := by kernel_rfl
theorem Bt : Opens Tryz.prog 9 ByteArray := .str Tryz.underlying9 (by as_aux_lemma => kernel_rfl)
theorem Gc : Opens Tryz.prog 3 Int := .int Tryz.underlying3 (by as_aux_lemma => kernel_rfl)
theorem Qb8 : Opens Tryz.prog 152 X6 := .struct Tryz.underlying152 (by as_aux_lemma => kernel_rfl) (.cons rfl Bt (.one rfl Gc))
theorem RW : Opens Tryz.prog 22 (List X6) := .slice Tryz.underlying22 (by as_aux_lemma => kernel_rfl) Qb8
theorem Qdv : Opens Tryz.prog 4 Bool := .bool Tryz.underlying4 (by as_aux_lemma => kernel_rfl)
theorem NA : Opens Tryz.prog 196 Jf := .struct Tryz.underlying196 (by as_aux_lemma => kernel_rfl) (.cons rfl Gc (.cons rfl Gc (.one rfl Bt)))
theorem Qdw : Opens Tryz.prog 227 Kz := .struct Tryz.underlying227 (by as_aux_lemma => kernel_rfl) (.cons rfl Bt (.one rfl NA))
theorem Qb9 : Opens Tryz.prog 154 (List Kz) := .slice Tryz.underlying154 (by as_aux_lemma => kernel_rfl) Qdw
theorem Qdx : Opens Tryz.prog 156 Zl := .struct Tryz.underlying156 (by as_aux_lemma => kernel_rfl) (.cons rfl Gc (.cons rfl Gc (.cons rfl Qdv (.cons rfl Gc (.one rfl Qb9)))))
theorem Qca : Opens Tryz.prog 23 (List Zl) := .slice Tryz.underlying23 (by as_aux_lemma => kernel_rfl) Qdx
theorem NB : Opens Tryz.prog 25 V0 := .struct Tryz.underlying25 (by as_aux_lemma => kernel_rfl) (.cons rfl RW (.cons rfl Qca (.one rfl Gc)))
theorem Qdy : Opens Tryz.prog 198 Qw := .struct Tryz.underlying198 (by as_aux_lemma => kernel_rfl) (.cons rfl Gc (.cons rfl Gc (.cons rfl Gc (.cons rfl Bt (.one rfl NA)))))
theorem Qcb : Opens Tryz.prog 114 (List Qw) := .slice Tryz.underlying114 (by as_aux_lemma => kernel_rfl) Qdy
theorem Qew : Opens Tryz.prog 116 Zw := .struct Tryz.underlying116 (by as_aux_lemma => kernel_rfl) (.cons rfl Bt (.one rfl Qcb))
theorem TM : Opens Tryz.prog 26 (List Zw) := .slice Tryz.underlying26 (by as_aux_lemma => kernel_rfl) Qew
theorem WB : Opens Tryz.prog 34 (List Int) := .slice Tryz.underlying34 (by as_aux_lemma => kernel_rfl) Gc
theorem RX : Opens Tryz.prog 119 Bb := .struct Tryz.underlying119 (by as_aux_lemma => kernel_rfl) (.cons rfl Bt (.one rfl WB))
theorem NC : Opens Tryz.prog 27 (List Bb) := .slice Tryz.underlying27 (by as_aux_lemma => kernel_rfl) RX
theorem ND : Opens Tryz.prog 29 Cr := .struct Tryz.underlying29 (by as_aux_lemma => kernel_rfl) (.cons rfl NB (.cons rfl TM (.one rfl NC)))
theorem Qdz : Opens Tryz.prog 31 Ep := .struct Tryz.underlying31 (by as_aux_lemma => kernel_rfl) (.cons rfl Bt (.one rfl Bt))
theorem EM : Opens Tryz.prog 81 Qp := .struct Tryz.underlying81 (by as_aux_lemma => kernel_rfl) (.cons rfl NB (.one rfl TM))
theorem NE : Opens Tryz.prog 83 U7 := .struct Tryz.underlying83 (by as_aux_lemma => kernel_rfl) (.cons rfl Gc (.cons rfl EM (.one rfl Gc)))
theorem EN : Opens Tryz.prog 32 (List U7) := .slice Tryz.underlying32 (by as_aux_lemma => kernel_rfl) NE
theorem Qcc : Opens Tryz.prog 160 Eg := .struct Tryz.underlying160 (by as_aux_lemma => kernel_rfl) (.cons rfl Gc (.cons rfl WB (.one rfl WB)))
theorem RY : Opens Tryz.prog 85 (List Eg) := .slice Tryz.underlying85 (by as_aux_lemma => kernel_rfl) Qcc
theorem Qcd : Opens Tryz.prog 87 Eh := .struct Tryz.underlying87 (by as_aux_lemma => kernel_rfl) (.cons rfl Gc (.cons rfl Bt (.cons rfl WB (.one rfl RY))))
theorem RZ : Opens Tryz.prog 33 (List Eh) := .slice Tryz.underlying33 (by as_aux_lemma => kernel_rfl) Qcd
theorem SA : Opens Tryz.prog 36 Jy := .struct Tryz.underlying36 (by as_aux_lemma => kernel_rfl) (.cons rfl ND (.cons rfl Qdz (.cons rfl Gc (.cons rfl EN (.cons rfl RZ (.one rfl WB))))))
theorem SB : (Rows.laid_internal_strconv_uint64pow10 : DataW Unit) = Lib.tabData .u64 Lib.pow10Tab := by kernel_rfl
theorem Qce : (Rows.laid_strings_asciiSpace : DataW Unit) = Lib.tabData .u8 Lib.asciiSpaceTab := by kernel_rfl
theorem Qe7 : "*" ++ "errors.errorString" = "*errors.errorString" := by decide
theorem Qd0 (u : TypeId) (h : Tryz.prog.typeName? 3 u = some "*errors.errorString") : u = 311 :=
  typeName_ptr_named (nm := "errors.errorString") (by rw [Qe7]; kernel_rfl) (by kernel_rfl) (by decide) u (by rw [Qe7]; exact h)
theorem CF {P : Program} {W : World} {l : List (String × DataW Unit)} {n : String} {d e : DataW Unit} (h : laidMet P ((n, d) :: l) W) (hd : d = e) : laidMet P ((n, e) :: l) W := hd ▸ h
theorem Qcf {W : World} (h : laidMetH Tryz.prog Rows.fnExactIsDurableRow.laid W) (hs : W.ShapedOpen Tryz.prog) : Good Tryz.prog W := by
  rw [MakeChecks.laidMetH_plain _ _ _ (by as_aux_lemma => kernel_rfl)] at h
  refine ⟨fun g hg => ?_, fun g hg => ?_, fun g hg => ?_, fun g hg => ?_⟩
  · exact Lib.tabIs_of_head hg ((show (Tryz.prog.globals[3]?).map (·.type) = some 299 by kernel_rfl) ▸ (congrArg (fun k : Nat => (Tryz.prog.globals[k]?).map (·.type)) (Option.some.inj (hg.symm.trans (show Tryz.prog.globalNamed "internal/strconv.uint64pow10" = some 3 by kernel_rfl))))) Tryz.underlying299 Tryz.underlying276 (by as_aux_lemma => kernel_rfl) (by as_aux_lemma => kernel_rfl) (CF (laidMet.tail (laidMet.tail (h))) SB)
  · obtain ⟨a0, s0, hv0, -, -, -⟩ := laid_sentinel (laidMet.tail (laidMet.tail (laidMet.tail (laidMet.tail (laidMet.tail (h)))))) (show Tryz.prog.globalNamed "strconv.ErrSyntax" = some 1 by kernel_rfl) (show (Tryz.prog.globals[1]?).map (·.type) = some 214 by kernel_rfl) Tryz.underlying214 Qd0 Tryz.underlying311 Tryz.underlying313 rfl rfl Tryz.underlying9 (by as_aux_lemma => kernel_rfl) (by as_aux_lemma => kernel_rfl)
    exact ⟨_, _, hv0⟩
  · obtain rfl := Option.some.inj ((show Tryz.prog.globalNamed "internal/bytealg.MaxLen" = some 0 by kernel_rfl).symm.trans hg)
    exact cell_of_shapedOpen_int (zero := #[.int .i64 0]) (t := 3) hs (of_decide_eq_true (by as_aux_lemma => kernel_rfl)) (by as_aux_lemma => kernel_rfl) rfl (by as_aux_lemma => kernel_rfl) (by as_aux_lemma => kernel_rfl) Tryz.underlying3
  exact Lib.tabIs_of_head hg ((show (Tryz.prog.globals[6]?).map (·.type) = some 304 by kernel_rfl) ▸ (congrArg (fun k : Nat => (Tryz.prog.globals[k]?).map (·.type)) (Option.some.inj (hg.symm.trans (show Tryz.prog.globalNamed "strings.asciiSpace" = some 6 by kernel_rfl))))) Tryz.underlying304 Tryz.underlying5 (by as_aux_lemma => kernel_rfl) (by as_aux_lemma => kernel_rfl) (CF (laidMet.tail (laidMet.tail (laidMet.tail (laidMet.tail (laidMet.tail (laidMet.tail (laidMet.tail (h)))))))) Qce)
theorem wrap {H : Type} {enc : TypeId × Value → H} {a : Assume} {C : Checked} {os : Os} {f : FuncId} {fn : Func} {s : ChangeSpec} {conds : List PathCond} {apart fresh handsOn again : Bool} {X : World → Array Value → Prop}
    (hX : ∀ (w w' : World) (args : Array Value), w.heap = w'.heap → X w args → X w' args)
    (own : ownKnob C.prog.godebug = none) (started : os.Started) (noInit : C.prog.inits.idxOf? f = none) (hfn : C.prog.funcs[f]? = some fn)
    (witness : ∃ (w : World) (tape : Tape) (i : Input), w.os = os ∧ (w.forCall tape i).Shaped C.prog ∧ i.vars = [] ∧ Input.okWide C.prog (w.forCall tape i) .any w.heap.size f i ∧
      ((s.pre enc C.prog fn conds apart (w.forCall tape i).memory i.args ∧ X (w.forCall tape i).memory i.args) ∧ sizedMet enc C.prog fn (OpenSpec.ofChange s) apart (w.forCall tape i).memory i.args) ∧ a.holds C.prog (lone (Frame.enter C.prog f i.args .normal) [] (w.forCall tape i)))
    (contract : ∀ (W : World) (base : Nat) (args : Array Value) (ds gs : List (DataW H)) (before : List MemPlace),
      (∀ (j : Nat) t v, fn.params[j]? = some t → args[j]? = some v → Value.okWide C.prog W .any base t v) →
      DataW.Whole enc C.prog fn.params.toList s.vars apart W args.toList ds gs before →
      conds.all (PathCond.test C.prog ⟨fn.params.toList, ds, s.plain.varTypes C.prog, gs⟩) = true → X W args → W.ShapedOpen C.prog →
      Calls C.prog f args W fun e W' => ∃ v, e = .returned v ∧ s.post enc C.prog fn apart fresh handsOn again W args v W') :
    ReturnsInHanded a C os f .any (fun w args => (s.pre enc C.prog fn conds apart w args ∧ X w args) ∧ sizedMet enc C.prog fn (OpenSpec.ofChange s) apart w args) (s.post enc C.prog fn apart fresh handsOn again) := by
  refine returnsInHanded_of_calls own started noInit witness ?_
  intro w tape i _ hsh _ hok hpre _
  obtain ⟨_, _, _, fn', hfn', _, _, _, _, hval⟩ := hok
  obtain rfl := Option.some.inj (hfn'.symm.trans hfn)
  obtain ⟨⟨⟨ds, gs, before, hw, hc⟩, hx⟩, _⟩ := hpre
  refine (contract (w.forCall tape i) w.heap.size i.args ds gs before hval (DataW.Whole.of_heap (w' := w.forCall tape i) (by rfl) hw) hc (hX _ _ _ (by rfl) hx) hsh).mono fun e W' ⟨v, he, hp⟩ => ?_
  subst he
  exact ChangeSpec.post_blind hp
theorem Qex (os : Os) : (World.holding Tryz.prog os ⟨#[], #[], []⟩).layFits Tryz.prog Rows.fnExactIsDurableRow.laid [] = true := by kernel_rfl
theorem Qcg (os : Os) : (World.holding Tryz.prog os ⟨#[], #[], []⟩).layIfaces Tryz.prog Rows.fnExactIsDurableRow.laid (World.laidAll Tryz.prog os Rows.fnExactIsDurableRow.laid) = true := by kernel_rfl
theorem SC (os : Os) (args : Array Value) : laidMetH Tryz.prog Rows.fnExactIsDurableRow.laid ((World.laidAll Tryz.prog os Rows.fnExactIsDurableRow.laid).forCall (fun _ _ => 0) ⟨#[], args, []⟩).memory := by
  rw [MakeChecks.laidMetH_plain _ _ _ (by as_aux_lemma => kernel_rfl)]
  exact laidMet_laidAll (P := Tryz.prog) (os := os) (laid := Rows.fnExactIsDurableRow.laid) args (Qex os) (Qcg os)
set_option maxHeartbeats 1000000 in
set_option maxRecDepth 100000 in
theorem Qd1 (os : Os) (started : os.Started) (H : Type) (enc : TypeId × Value → H) :
    ReturnsInHanded {} Tryz.checked os 3 .any (fun w args => (Rows.fnExactIsDurableSpec.pre enc Tryz.prog Tryz.f3 [] false w args ∧ laidMetH Tryz.prog Rows.fnExactIsDurableRow.laid w) ∧ sizedMet enc Tryz.prog Tryz.f3 (OpenSpec.ofChange Rows.fnExactIsDurableSpec) false w args)
      (Rows.fnExactIsDurableSpec.post enc Tryz.prog Tryz.f3 false true false false) := by
  refine wrap (C := Tryz.checked) (X := fun w _ => laidMetH Tryz.prog Rows.fnExactIsDurableRow.laid w) (fun _ _ _ hh h => h.of_heap hh) own started (by as_aux_lemma => kernel_rfl) Tryz.func3
    (ChangeSpec.witness_shaped (enc := enc) (C := Tryz.checked) (os := os) (X := fun w _ => laidMetH Tryz.prog Rows.fnExactIsDurableRow.laid w) false (World.laidAll Tryz.prog os Rows.fnExactIsDurableRow.laid) #[.agg #[.slice none 0 0, .slice none 0 0, .int .i64 0, .slice none 0 0, .slice none 0 0, .string ⟨#[]⟩, .string ⟨#[]⟩, .int .i64 0, .slice none 0 0, .slice none 0 0, .slice none 0 0]] 8 (World.laidAll_os _ _ _) (World.shaped_of_ZipB (by as_aux_lemma => kernel_rfl) (by as_aux_lemma => kernel_rfl)) (by as_aux_lemma => kernel_rfl) (by as_aux_lemma => kernel_rfl) (by as_aux_lemma => kernel_rfl) (SC os _)) ?_
  intro W base args ds gs before hval0 hW hcnd hL hsh
  have hval : ∀ (j : Nat) t v, Tryz.f3.params[j]? = some t → args[j]? = some v → Value.okWide Tryz.prog W .any base t v := hval0
  have hW' := hW
  obtain ⟨p, q, hA0, hV, rfl, hfz, hnd⟩ := hW
  have hA : DataW.TrodAll enc Tryz.prog W 0 (fun _ => true) true Tryz.f3.params.toList args.toList ds p := hA0
  rw [Tryz.params3] at hA hval
  obtain ⟨v0, vs0, d0, ds0, p0, q0, hargs, rfl, rfl, h0, r0⟩ := trodAll_cons hA
  obtain ⟨rfl, rfl, rfl⟩ := trodAll_nil r0
  obtain rfl : args = #[v0] := by cases args; simp_all
  obtain ⟨rfl, rfl⟩ := trodVars_none hV
  have k0 := h0
  have lt0 := NR k0
  obtain ⟨c0, a0, rfl, w0⟩ := FB Tryz.underlying36 SA (hval 0 36 v0 rfl rfl) h0
  clear hA0 hval0
  have hG := Qcf hL hsh
  refine (WA W c0 a0 w0 hG).mono fun e W' ⟨he, bel⟩ => ?_
  subst he
  exact ⟨_, rfl, _, _, _, [], _, [], hW', trodAll_mk1 (shut_bool Tryz.underlying4 _), (trodAll_cons_mk (Below.trod Qb7 (by as_aux_lemma => kernel_rfl) (of_decide_eq_true (by as_aux_lemma => kernel_rfl)) k0 bel lt0) trodAll_mk0), rfl, bel.frame _, fun h => by cases h⟩
theorem Qd2 {a b : Bool} (h1 : a = true) (h2 : b = true) : (a && b) = true := by rw [h1, h2]; rfl
set_option maxHeartbeats 1000000 in
theorem Qch : joinedFacts Tryz.pinned.checked.prog 3 Tryz.f3 Rows.fnExactIsDurableSpec Rows.fnExactIsDurableRow = true := by
  unfold joinedFacts
  repeat' with_reducible apply Qd2
  all_goals (as_aux_lemma => kernel_rfl)
set_option maxHeartbeats 1000000 in
theorem over : Rows.fnExactIsDurableRow.holds Tryz.pinned (OpenSpec.ofChange Rows.fnExactIsDurableSpec) :=
  OpenClaim.holds_of_wide 3 Tryz.f3 rfl rfl rfl rfl rfl rfl rfl ⟨rfl, rfl, rfl, rfl, rfl⟩ rfl rfl rfl rfl rfl (by as_aux_lemma => kernel_rfl) Tryz.func3 Qch
    (of_decide_eq_true (by as_aux_lemma => kernel_rfl)) (by unfold Func.isWrapper; rw [if_neg (by as_aux_lemma => decide +kernel)]; exact ⟨rfl, rfl⟩)
    (fun os started H enc _ => Qd1 os started H enc)
end fnExactIsDurableDone
theorem C7 : Rows.FnExactIsDurableSaid := fnExactIsDurableDone.over
theorem fnExactIsDurable_holds : Rows.FnExactIsDurableCardSaid :=
  Claim7.holds_tied_plain_at .later [] [.data, .data, .data, .data, .sentinel, .sentinel, .listed, .data, .pinned] true (true, "dea2f035cf5f2f9336ca98b9866b4fb1d9361cf440717f1a380066fe184ab31a") true
    C7 (fun _ h => by cases h) (by as_aux_lemma => kernel_rfl) (fun _ h => by cases h) fnExactIsDurable_row_tie rfl ⟨rfl, rfl⟩ (by as_aux_lemma => kernel_rfl) rfl
    (fun f fn hf hfn => by
      obtain rfl : f = 3 := Option.some.inj ((show Tryz.prog.funcNamed Rows.fnExactIsDurableRow.func = some 3 by as_aux_lemma => kernel_rfl).symm.trans hf) |>.symm
      obtain rfl : fn = Tryz.f3 := (Option.some.inj (Tryz.func3.symm.trans hfn)).symm
      exact ⟨(by as_aux_lemma => kernel_rfl), fun j t ht => by
        rw [Tryz.params3] at ht
        have hm : t ∈ [36] := by simpa using Array.mem_of_getElem? ht
        have hall : ([36].all fun u => !Tryz.prog.wantsStandIn u) = true := by as_aux_lemma => kernel_rfl
        exact (show Tryz.prog.wantsStandIn t = false by simpa using List.all_eq_true.1 hall t hm)⟩)
    (by as_aux_lemma => kernel_rfl)
end Go.Proofs.YtkbmchfkaibelaaGreatDoor
