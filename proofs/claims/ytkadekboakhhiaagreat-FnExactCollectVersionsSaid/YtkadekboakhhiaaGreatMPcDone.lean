/- The statement FnExactCollectVersionsSaid: for every input the law returns true and its arguments read behind the call as they read before. -/
import Derived.Test.YtkadekboakhhiaaGreatP6
import Derived.Test.YtkadekboakhhiaaGreatRows
import Derived.WalkKit
import Derived.ProofKit
import Derived.OpenShut
import Derived.ShutString
import Derived.ChangeOld
import Derived.Below
set_option linter.unusedVariables false
set_option linter.unusedSimpArgs false
namespace Go.Proofs.YtkadekboakhhiaaGreat
open Go.ChangeShapes Go.WideShapes Go.ChangeAt Go.RowKit
open GoD (rd own)
namespace fnExactCollectVersionsDone
theorem own : ownKnob Tryz.prog.godebug = none := by kernel_rfl
theorem laidOut : laidOutB Tryz.prog = true := by kernel_rfl
theorem opInt : Opens Tryz.prog 3 Int := .int Tryz.underlying3 (by as_aux_lemma => kernel_rfl)
theorem opString : Opens Tryz.prog 9 ByteArray := .str Tryz.underlying9 (by as_aux_lemma => kernel_rfl)
theorem opField : Opens Tryz.prog 114 FieldD := .struct Tryz.underlying114 (by as_aux_lemma => kernel_rfl) (.cons rfl opString (.one rfl opInt))
theorem opFieldS : Opens Tryz.prog 31 (List FieldD) := .slice Tryz.underlying31 (by as_aux_lemma => kernel_rfl) opField
theorem opBool : Opens Tryz.prog 4 Bool := .bool Tryz.underlying4 (by as_aux_lemma => kernel_rfl)
theorem opValue : Opens Tryz.prog 137 ValueD := .struct Tryz.underlying137 (by as_aux_lemma => kernel_rfl) (.cons rfl opInt (.cons rfl opInt (.one rfl opString)))
theorem opAttr : Opens Tryz.prog 153 AttrD := .struct Tryz.underlying153 (by as_aux_lemma => kernel_rfl) (.cons rfl opString (.one rfl opValue))
theorem opAttrS : Opens Tryz.prog 116 (List AttrD) := .slice Tryz.underlying116 (by as_aux_lemma => kernel_rfl) opAttr
theorem opFile : Opens Tryz.prog 118 FileD := .struct Tryz.underlying118 (by as_aux_lemma => kernel_rfl) (.cons rfl opInt (.cons rfl opInt (.cons rfl opBool (.cons rfl opInt (.one rfl opAttrS)))))
theorem opFileS : Opens Tryz.prog 32 (List FileD) := .slice Tryz.underlying32 (by as_aux_lemma => kernel_rfl) opFile
theorem opStore : Opens Tryz.prog 34 StoreD := .struct Tryz.underlying34 (by as_aux_lemma => kernel_rfl) (.cons rfl opFieldS (.cons rfl opFileS (.one rfl opInt)))
theorem opNode : Opens Tryz.prog 139 NodeD := .struct Tryz.underlying139 (by as_aux_lemma => kernel_rfl) (.cons rfl opInt (.cons rfl opInt (.cons rfl opInt (.cons rfl opString (.one rfl opValue)))))
theorem opNodeS : Opens Tryz.prog 95 (List NodeD) := .slice Tryz.underlying95 (by as_aux_lemma => kernel_rfl) opNode
theorem opDir : Opens Tryz.prog 97 DirD := .struct Tryz.underlying97 (by as_aux_lemma => kernel_rfl) (.cons rfl opString (.one rfl opNodeS))
theorem opDirS : Opens Tryz.prog 35 (List DirD) := .slice Tryz.underlying35 (by as_aux_lemma => kernel_rfl) opDir
theorem opSnapshot : Opens Tryz.prog 37 SnapshotD := .struct Tryz.underlying37 (by as_aux_lemma => kernel_rfl) (.cons rfl opStore (.one rfl opDirS))
theorem opVersion : Opens Tryz.prog 39 VersionD := .struct Tryz.underlying39 (by as_aux_lemma => kernel_rfl) (.cons rfl opInt (.cons rfl opSnapshot (.one rfl opInt)))
theorem opVersionS : Opens Tryz.prog 22 (List VersionD) := .slice Tryz.underlying22 (by as_aux_lemma => kernel_rfl) opVersion
set_option maxRecDepth 100000 in
theorem lifted (os : Os) (started : os.Started) (H : Type) (enc : TypeId × Value → H) : ReturnsInHanded {} Tryz.checked os 3 .any (Rows.fnExactCollectVersionsSpec.pre6 enc Tryz.prog Tryz.f3 Rows.fnExactCollectVersionsRow.domain false) (Rows.fnExactCollectVersionsSpec.post enc Tryz.prog Tryz.f3 false true false false) := by
  refine returnsInHanded_of_change (C := Tryz.checked) own started (by as_aux_lemma => kernel_rfl) Tryz.func3 (ChangeSpec.witness6 (enc := enc) (C := Tryz.checked) false ⟨#[], #[.slice none 0 0], []⟩ 8 (by as_aux_lemma => kernel_rfl) (by as_aux_lemma => kernel_rfl) (by as_aux_lemma => kernel_rfl) (by as_aux_lemma => kernel_rfl)) ?_
  intro W base args ds gs before hval0 hW hcnd _
  have hval : ∀ (j : Nat) t v, Tryz.f3.params[j]? = some t → args[j]? = some v → Value.okWide Tryz.prog W .any base t v := hval0
  have hW' := hW
  obtain ⟨p, q, hA0, hV, rfl, hfz, hnd⟩ := hW
  have hA : DataW.TrodAll enc Tryz.prog W 0 (fun _ => true) true Tryz.f3.params.toList args.toList ds p := hA0
  rw [Tryz.params3] at hA hval
  obtain ⟨v0, vs0, d0, ds0, p0, q0, hargs, rfl, rfl, h0, r0⟩ := trodAll_cons hA
  obtain ⟨rfl, rfl, rfl⟩ := trodAll_nil r0
  obtain rfl : args = #[v0] := by cases args; simp_all
  obtain ⟨rfl, rfl⟩ := trodVars_none hV
  have k0 := h0
  have lt0 := trod_lt' k0
  obtain ⟨a0, w0⟩ := in_slice Tryz.underlying22 opVersionS (hval 0 22 v0 rfl rfl) h0
  clear hA0 hval0
  refine (lawCollectVersions W _ a0 w0).mono fun e W' ⟨he, bel⟩ => ?_
  subst he
  exact ⟨_, rfl, _, _, _, [], _, [], hW', trodAll_mk1 (shut_bool Tryz.underlying4 _), (trodAll_cons_mk (Below.trod laidOut (by as_aux_lemma => kernel_rfl) (of_decide_eq_true (by as_aux_lemma => kernel_rfl)) k0 bel lt0) trodAll_mk0), rfl, bel.frame _, fun h => by cases h⟩
theorem and_tt {a b : Bool} (h1 : a = true) (h2 : b = true) : (a && b) = true := by rw [h1, h2]; rfl
set_option maxHeartbeats 20000000 in
theorem closedF : joinedFacts Tryz.pinned.checked.prog 3 Tryz.f3 Rows.fnExactCollectVersionsSpec Rows.fnExactCollectVersionsRow = true := by
  unfold joinedFacts
  repeat' with_reducible apply and_tt
  all_goals (as_aux_lemma => kernel_rfl)
set_option maxHeartbeats 1000000 in
theorem over : Rows.fnExactCollectVersionsRow.holds Tryz.pinned (OpenSpec.ofChange Rows.fnExactCollectVersionsSpec) :=
  OpenClaim.holds_of_wide 3 Tryz.f3 rfl rfl rfl rfl rfl rfl rfl ⟨rfl, rfl, rfl, rfl, rfl⟩ rfl rfl rfl rfl rfl (by as_aux_lemma => kernel_rfl) Tryz.func3 closedF
    (of_decide_eq_true (by as_aux_lemma => kernel_rfl)) (by unfold Func.isWrapper; rw [if_neg (by as_aux_lemma => decide +kernel)]; exact ⟨rfl, rfl⟩)
    (fun os started H enc _ => lifted os started H enc)
end fnExactCollectVersionsDone
theorem fnExactCollectVersions_holds : Rows.FnExactCollectVersionsSaid := fnExactCollectVersionsDone.over
end Go.Proofs.YtkadekboakhhiaaGreat
