/- The statement FnExactIsConsistentSaid: for every input the law returns true and its arguments read behind the call as they read before. -/
import Derived.Test.YtjkfmihbmkbjfaaGreatRows
import Derived.Test.YtjkfmihbmkbjfaaGreatRd
import Derived.WalkKit
import Derived.ProofKit
import Derived.OpenShut
import Derived.ShutString
import Derived.ChangeOld
import Derived.Below
import Derived.Test.YtjkfmihbmkbjfaaGreatMPi
set_option linter.unusedVariables false
set_option linter.unusedSimpArgs false
namespace Go.Proofs.YtjkfmihbmkbjfaaGreat
open Go.ChangeShapes Go.WideShapes Go.ChangeAt Go.RowKit
open GoD (rd own)
namespace fnExactIsConsistentDone
theorem own : ownKnob Tryz.prog.godebug = none := by kernel_rfl
theorem laidOut : laidOutB Tryz.prog = true := by kernel_rfl
theorem opString : Opens Tryz.prog 9 ByteArray := .str Tryz.underlying9 (by as_aux_lemma => kernel_rfl)
theorem opInt : Opens Tryz.prog 3 Int := .int Tryz.underlying3 (by as_aux_lemma => kernel_rfl)
theorem opField : Opens Tryz.prog 196 FieldD := .struct Tryz.underlying196 (by as_aux_lemma => kernel_rfl) (.cons rfl opString (.one rfl opInt))
theorem opFieldS : Opens Tryz.prog 22 (List FieldD) := .slice Tryz.underlying22 (by as_aux_lemma => kernel_rfl) opField
theorem opBool : Opens Tryz.prog 4 Bool := .bool Tryz.underlying4 (by as_aux_lemma => kernel_rfl)
theorem opValue : Opens Tryz.prog 225 ValueD := .struct Tryz.underlying225 (by as_aux_lemma => kernel_rfl) (.cons rfl opInt (.cons rfl opInt (.one rfl opString)))
theorem opAttr : Opens Tryz.prog 241 AttrD := .struct Tryz.underlying241 (by as_aux_lemma => kernel_rfl) (.cons rfl opString (.one rfl opValue))
theorem opAttrS : Opens Tryz.prog 198 (List AttrD) := .slice Tryz.underlying198 (by as_aux_lemma => kernel_rfl) opAttr
theorem opFile : Opens Tryz.prog 200 FileD := .struct Tryz.underlying200 (by as_aux_lemma => kernel_rfl) (.cons rfl opInt (.cons rfl opInt (.cons rfl opBool (.cons rfl opInt (.one rfl opAttrS)))))
theorem opFileS : Opens Tryz.prog 23 (List FileD) := .slice Tryz.underlying23 (by as_aux_lemma => kernel_rfl) opFile
theorem opStore : Opens Tryz.prog 25 StoreD := .struct Tryz.underlying25 (by as_aux_lemma => kernel_rfl) (.cons rfl opFieldS (.cons rfl opFileS (.one rfl opInt)))
theorem opNode : Opens Tryz.prog 227 NodeD := .struct Tryz.underlying227 (by as_aux_lemma => kernel_rfl) (.cons rfl opInt (.cons rfl opInt (.cons rfl opInt (.cons rfl opString (.one rfl opValue)))))
theorem opNodeS : Opens Tryz.prog 154 (List NodeD) := .slice Tryz.underlying154 (by as_aux_lemma => kernel_rfl) opNode
theorem opDir : Opens Tryz.prog 156 DirD := .struct Tryz.underlying156 (by as_aux_lemma => kernel_rfl) (.cons rfl opString (.one rfl opNodeS))
theorem opDirS : Opens Tryz.prog 26 (List DirD) := .slice Tryz.underlying26 (by as_aux_lemma => kernel_rfl) opDir
theorem opIntS : Opens Tryz.prog 34 (List Int) := .slice Tryz.underlying34 (by as_aux_lemma => kernel_rfl) opInt
theorem opResult : Opens Tryz.prog 158 ResultD := .struct Tryz.underlying158 (by as_aux_lemma => kernel_rfl) (.cons rfl opString (.one rfl opIntS))
theorem opResultS : Opens Tryz.prog 27 (List ResultD) := .slice Tryz.underlying27 (by as_aux_lemma => kernel_rfl) opResult
theorem opCatalog : Opens Tryz.prog 29 CatalogD := .struct Tryz.underlying29 (by as_aux_lemma => kernel_rfl) (.cons rfl opStore (.cons rfl opDirS (.one rfl opResultS)))
set_option maxRecDepth 100000 in
theorem lifted (os : Os) (started : os.Started) (H : Type) (enc : TypeId × Value → H) : ReturnsInHanded {} Tryz.checked os 5 .any (Rows.fnExactIsConsistentSpec.pre6 enc Tryz.prog Tryz.f5 Rows.fnExactIsConsistentRow.domain false) (Rows.fnExactIsConsistentSpec.post enc Tryz.prog Tryz.f5 false true false false) := by
  refine returnsInHanded_of_change (C := Tryz.checked) own started (by as_aux_lemma => kernel_rfl) Tryz.func5 (ChangeSpec.witness6 (enc := enc) (C := Tryz.checked) false ⟨#[], #[.agg #[.slice none 0 0, .slice none 0 0, .int .i64 0, .slice none 0 0, .slice none 0 0]], []⟩ 8 (by as_aux_lemma => kernel_rfl) (by as_aux_lemma => kernel_rfl) (by as_aux_lemma => kernel_rfl) (by as_aux_lemma => kernel_rfl)) ?_
  intro W base args ds gs before hval0 hW hcnd _
  have hval : ∀ (j : Nat) t v, Tryz.f5.params[j]? = some t → args[j]? = some v → Value.okWide Tryz.prog W .any base t v := hval0
  have hW' := hW
  obtain ⟨p, q, hA0, hV, rfl, hfz, hnd⟩ := hW
  have hA : DataW.TrodAll enc Tryz.prog W 0 (fun _ => true) true Tryz.f5.params.toList args.toList ds p := hA0
  rw [Tryz.params5] at hA hval
  obtain ⟨v0, vs0, d0, ds0, p0, q0, hargs, rfl, rfl, h0, r0⟩ := trodAll_cons hA
  obtain ⟨rfl, rfl, rfl⟩ := trodAll_nil r0
  obtain rfl : args = #[v0] := by cases args; simp_all
  obtain ⟨rfl, rfl⟩ := trodVars_none hV
  have k0 := h0
  have lt0 := trod_lt' k0
  obtain ⟨c0, a0, rfl, w0⟩ := in_struct Tryz.underlying29 opCatalog (hval 0 29 v0 rfl rfl) h0
  clear hA0 hval0
  refine (lawIsConsistent W c0 a0 w0).mono fun e W' ⟨he, bel⟩ => ?_
  subst he
  exact ⟨_, rfl, _, _, _, [], _, [], hW', trodAll_mk1 (shut_bool Tryz.underlying4 _), (trodAll_cons_mk (Below.trod laidOut (by as_aux_lemma => kernel_rfl) (of_decide_eq_true (by as_aux_lemma => kernel_rfl)) k0 bel lt0) trodAll_mk0), rfl, bel.frame _, fun h => by cases h⟩
set_option maxHeartbeats 1000000 in
theorem over : Rows.fnExactIsConsistentRow.holds Tryz.pinned (OpenSpec.ofChange Rows.fnExactIsConsistentSpec) :=
  OpenClaim.holds_of_wide 5 Tryz.f5 rfl rfl rfl rfl rfl rfl rfl ⟨rfl, rfl, rfl, rfl, rfl⟩ rfl rfl rfl rfl rfl (by as_aux_lemma => kernel_rfl) Tryz.func5 (by as_aux_lemma => kernel_rfl)
    (of_decide_eq_true (by as_aux_lemma => kernel_rfl)) (by unfold Func.isWrapper; rw [if_neg (by as_aux_lemma => decide +kernel)]; exact ⟨rfl, rfl⟩)
    (fun os started H enc _ => lifted os started H enc)
end fnExactIsConsistentDone
theorem fnExactIsConsistent_holds : Rows.FnExactIsConsistentSaid := fnExactIsConsistentDone.over
end Go.Proofs.YtjkfmihbmkbjfaaGreat
