/- The statement FnExactCheckStepSaid: for every input the law returns true and its arguments read behind the call as they read before. -/
import Derived.Test.YtkjlkokcpeoeeaaGreatRows
import Derived.Test.YtkjlkokcpeoeeaaGreatRd
import Derived.WalkKit
import Derived.ProofKit
import Derived.OpenShut
import Derived.ShutString
import Derived.ChangeOld
import Derived.Below
import Derived.Test.YtkjlkokcpeoeeaaGreatMPp
namespace Go.Proofs.YtkjlkokcpeoeeaaGreat
open Go.ChangeShapes Go.WideShapes Go.ChangeAt Go.RowKit
open GoD (rd own)
namespace fnExactCheckStepDone
theorem own : ownKnob Tryz.prog.godebug = none := by kernel_rfl
theorem laidOut : laidOutB Tryz.prog = true := by kernel_rfl
theorem opString : Opens Tryz.prog 9 ByteArray := .str Tryz.underlying9 (by as_aux_lemma => kernel_rfl)
theorem opInt : Opens Tryz.prog 3 Int := .int Tryz.underlying3 (by as_aux_lemma => kernel_rfl)
theorem opField : Opens Tryz.prog 184 FieldD := .struct Tryz.underlying184 (by as_aux_lemma => kernel_rfl) (.cons rfl opString (.one rfl opInt))
theorem opFieldS : Opens Tryz.prog 22 (List FieldD) := .slice Tryz.underlying22 (by as_aux_lemma => kernel_rfl) opField
theorem opBool : Opens Tryz.prog 4 Bool := .bool Tryz.underlying4 (by as_aux_lemma => kernel_rfl)
theorem opValue : Opens Tryz.prog 208 ValueD := .struct Tryz.underlying208 (by as_aux_lemma => kernel_rfl) (.cons rfl opInt (.cons rfl opInt (.one rfl opString)))
theorem opAttr : Opens Tryz.prog 221 AttrD := .struct Tryz.underlying221 (by as_aux_lemma => kernel_rfl) (.cons rfl opString (.one rfl opValue))
theorem opAttrS : Opens Tryz.prog 186 (List AttrD) := .slice Tryz.underlying186 (by as_aux_lemma => kernel_rfl) opAttr
theorem opFile : Opens Tryz.prog 188 FileD := .struct Tryz.underlying188 (by as_aux_lemma => kernel_rfl) (.cons rfl opInt (.cons rfl opInt (.cons rfl opBool (.cons rfl opInt (.one rfl opAttrS)))))
theorem opFileS : Opens Tryz.prog 23 (List FileD) := .slice Tryz.underlying23 (by as_aux_lemma => kernel_rfl) opFile
theorem opStore : Opens Tryz.prog 25 StoreD := .struct Tryz.underlying25 (by as_aux_lemma => kernel_rfl) (.cons rfl opFieldS (.cons rfl opFileS (.one rfl opInt)))
theorem opNode : Opens Tryz.prog 210 NodeD := .struct Tryz.underlying210 (by as_aux_lemma => kernel_rfl) (.cons rfl opInt (.cons rfl opInt (.cons rfl opInt (.cons rfl opString (.one rfl opValue)))))
theorem opNodeS : Opens Tryz.prog 150 (List NodeD) := .slice Tryz.underlying150 (by as_aux_lemma => kernel_rfl) opNode
theorem opDir : Opens Tryz.prog 152 DirD := .struct Tryz.underlying152 (by as_aux_lemma => kernel_rfl) (.cons rfl opString (.one rfl opNodeS))
theorem opDirS : Opens Tryz.prog 26 (List DirD) := .slice Tryz.underlying26 (by as_aux_lemma => kernel_rfl) opDir
theorem opIntS : Opens Tryz.prog 34 (List Int) := .slice Tryz.underlying34 (by as_aux_lemma => kernel_rfl) opInt
theorem opResult : Opens Tryz.prog 155 ResultD := .struct Tryz.underlying155 (by as_aux_lemma => kernel_rfl) (.cons rfl opString (.one rfl opIntS))
theorem opResultS : Opens Tryz.prog 27 (List ResultD) := .slice Tryz.underlying27 (by as_aux_lemma => kernel_rfl) opResult
theorem opCatalog : Opens Tryz.prog 29 CatalogD := .struct Tryz.underlying29 (by as_aux_lemma => kernel_rfl) (.cons rfl opStore (.cons rfl opDirS (.one rfl opResultS)))
theorem opStringS : Opens Tryz.prog 64 (List ByteArray) := .slice Tryz.underlying64 (by as_aux_lemma => kernel_rfl) opString
theorem opCheck : Opens Tryz.prog 73 CheckD := .struct Tryz.underlying73 (by as_aux_lemma => kernel_rfl) (.cons rfl opInt (.one rfl opStringS))
set_option maxRecDepth 100000 in
theorem lifted (os : Os) (started : os.Started) (H : Type) (enc : TypeId × Value → H) : ReturnsInHanded {} Tryz.checked os 6 .any (Rows.fnExactCheckStepSpec.pre6 enc Tryz.prog Tryz.f6 Rows.fnExactCheckStepRow.domain false) (Rows.fnExactCheckStepSpec.post enc Tryz.prog Tryz.f6 false true false false) := by
  refine returnsInHanded_of_change (C := Tryz.checked) own started (by as_aux_lemma => kernel_rfl) Tryz.func6 (ChangeSpec.witness6 (enc := enc) (C := Tryz.checked) false ⟨#[], #[.agg #[.slice none 0 0, .slice none 0 0, .int .i64 0, .slice none 0 0, .slice none 0 0], .agg #[.int .i64 0, .slice none 0 0]], []⟩ 8 (by as_aux_lemma => kernel_rfl) (by as_aux_lemma => kernel_rfl) (by as_aux_lemma => kernel_rfl) (by as_aux_lemma => kernel_rfl)) ?_
  intro W base args ds gs before hval0 hW hcnd _
  have hval : ∀ (j : Nat) t v, Tryz.f6.params[j]? = some t → args[j]? = some v → Value.okWide Tryz.prog W .any base t v := hval0
  have hW' := hW
  obtain ⟨p, q, hA0, hV, rfl, hfz, hnd⟩ := hW
  have hA : DataW.TrodAll enc Tryz.prog W 0 (fun _ => true) true Tryz.f6.params.toList args.toList ds p := hA0
  rw [Tryz.params6] at hA hval
  obtain ⟨v0, vs0, d0, ds0, p0, q0, hargs, rfl, rfl, h0, r0⟩ := trodAll_cons hA
  obtain ⟨v1, vs1, d1, ds1, p1, q1, rfl, rfl, rfl, h1, r1⟩ := trodAll_cons r0
  obtain ⟨rfl, rfl, rfl⟩ := trodAll_nil r1
  obtain rfl : args = #[v0, v1] := by cases args; simp_all
  obtain ⟨rfl, rfl⟩ := trodVars_none hV
  have k0 := h0
  have lt0 := trod_lt' k0
  obtain ⟨c0, a0, rfl, w0⟩ := in_struct Tryz.underlying29 opCatalog (hval 0 29 v0 rfl rfl) h0
  have k1 := h1
  have lt1 := trod_lt' k1
  obtain ⟨c1, a1, rfl, w1⟩ := in_struct Tryz.underlying73 opCheck (hval 1 73 v1 rfl rfl) h1
  clear hA0 hval0
  refine (lawCheckStep W c0 a0 w0 c1 a1 w1).mono fun e W' ⟨he, bel⟩ => ?_
  subst he
  exact ⟨_, rfl, _, _, _, [], _, [], hW', trodAll_mk1 (shut_bool Tryz.underlying4 _), (trodAll_cons_mk (Below.trod laidOut (by as_aux_lemma => kernel_rfl) (of_decide_eq_true (by as_aux_lemma => kernel_rfl)) k0 bel lt0) (trodAll_cons_mk (Below.trod laidOut (by as_aux_lemma => kernel_rfl) (of_decide_eq_true (by as_aux_lemma => kernel_rfl)) k1 bel lt1) trodAll_mk0)), rfl, bel.frame _, fun h => by cases h⟩

set_option maxHeartbeats 1000000 in
theorem over : Rows.fnExactCheckStepRow.holds Tryz.pinned (OpenSpec.ofChange Rows.fnExactCheckStepSpec) :=
  OpenClaim.holds_of_wide 6 Tryz.f6 rfl rfl rfl rfl rfl rfl rfl ⟨rfl, rfl, rfl, rfl, rfl⟩ rfl rfl rfl rfl rfl (by as_aux_lemma => kernel_rfl) Tryz.func6 (by as_aux_lemma => kernel_rfl)
    (of_decide_eq_true (by as_aux_lemma => kernel_rfl)) (by unfold Func.isWrapper; rw [if_neg (by as_aux_lemma => decide +kernel)]; exact ⟨rfl, rfl⟩)
    (fun os started H enc _ => lifted os started H enc)
end fnExactCheckStepDone
theorem fnExactCheckStep_holds : Rows.FnExactCheckStepSaid := fnExactCheckStepDone.over
end Go.Proofs.YtkjlkokcpeoeeaaGreat
