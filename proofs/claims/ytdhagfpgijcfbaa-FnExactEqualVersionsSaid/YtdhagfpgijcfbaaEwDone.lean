/- The statement FnExactEqualVersionsSaid: for every input the law returns true and its arguments read behind the call as they read before. -/
import Derived.Test.YtdhagfpgijcfbaaRows
import Derived.Test.YtdhagfpgijcfbaaRd
import Derived.WalkKit
import Derived.ProofKit
import Derived.OpenShut
import Derived.ShutString
import Derived.ChangeOld
import Derived.Below
import Derived.Test.YtdhagfpgijcfbaaEw
namespace Go.Proofs.Ytdhagfpgijcfbaa
open Go.ChangeShapes Go.WideShapes Go.ChangeAt Go.RowKit
open GoD (rd own)
namespace fnExactEqualVersionsDone
theorem own : ownKnob Try.prog.godebug = none := by kernel_rfl
theorem laidOut : laidOutB Try.prog = true := by kernel_rfl
theorem opInt : Opens Try.prog 3 Int := .int Try.underlying3 (by as_aux_lemma => kernel_rfl)
theorem opString : Opens Try.prog 9 ByteArray := .str Try.underlying9 (by as_aux_lemma => kernel_rfl)
theorem opField : Opens Try.prog 134 FieldD := .struct Try.underlying134 (by as_aux_lemma => kernel_rfl) (.cons rfl opString (.one rfl opInt))
theorem opFieldS : Opens Try.prog 40 (List FieldD) := .slice Try.underlying40 (by as_aux_lemma => kernel_rfl) opField
theorem opBool : Opens Try.prog 4 Bool := .bool Try.underlying4 (by as_aux_lemma => kernel_rfl)
theorem opValue : Opens Try.prog 94 ValueD := .struct Try.underlying94 (by as_aux_lemma => kernel_rfl) (.cons rfl opInt (.cons rfl opInt (.one rfl opString)))
theorem opAttr : Opens Try.prog 200 AttrD := .struct Try.underlying200 (by as_aux_lemma => kernel_rfl) (.cons rfl opString (.one rfl opValue))
theorem opAttrS : Opens Try.prog 136 (List AttrD) := .slice Try.underlying136 (by as_aux_lemma => kernel_rfl) opAttr
theorem opFile : Opens Try.prog 138 FileD := .struct Try.underlying138 (by as_aux_lemma => kernel_rfl) (.cons rfl opInt (.cons rfl opInt (.cons rfl opBool (.cons rfl opInt (.one rfl opAttrS)))))
theorem opFileS : Opens Try.prog 41 (List FileD) := .slice Try.underlying41 (by as_aux_lemma => kernel_rfl) opFile
theorem opStore : Opens Try.prog 43 StoreD := .struct Try.underlying43 (by as_aux_lemma => kernel_rfl) (.cons rfl opFieldS (.cons rfl opFileS (.one rfl opInt)))
theorem opNode : Opens Try.prog 212 NodeD := .struct Try.underlying212 (by as_aux_lemma => kernel_rfl) (.cons rfl opInt (.cons rfl opInt (.cons rfl opInt (.cons rfl opString (.one rfl opValue)))))
theorem opNodeS : Opens Try.prog 163 (List NodeD) := .slice Try.underlying163 (by as_aux_lemma => kernel_rfl) opNode
theorem opDir : Opens Try.prog 165 DirD := .struct Try.underlying165 (by as_aux_lemma => kernel_rfl) (.cons rfl opString (.one rfl opNodeS))
theorem opDirS : Opens Try.prog 68 (List DirD) := .slice Try.underlying68 (by as_aux_lemma => kernel_rfl) opDir
theorem opSnapshot : Opens Try.prog 70 SnapshotD := .struct Try.underlying70 (by as_aux_lemma => kernel_rfl) (.cons rfl opStore (.one rfl opDirS))
theorem opVersion : Opens Try.prog 72 VersionD := .struct Try.underlying72 (by as_aux_lemma => kernel_rfl) (.cons rfl opInt (.cons rfl opSnapshot (.one rfl opInt)))
theorem opVersionS : Opens Try.prog 22 (List VersionD) := .slice Try.underlying22 (by as_aux_lemma => kernel_rfl) opVersion
set_option maxRecDepth 100000 in
theorem lifted (os : Os) (started : os.Started) (H : Type) (enc : TypeId × Value → H) : ReturnsInHanded {} Try.checked os 3 .any (Rows.fnExactEqualVersionsSpec.pre6 enc Try.prog Try.f3 Rows.fnExactEqualVersionsRow.domain false) (Rows.fnExactEqualVersionsSpec.post enc Try.prog Try.f3 false true false false) := by
  refine returnsInHanded_of_change (C := Try.checked) own started (by as_aux_lemma => kernel_rfl) Try.func3 (ChangeSpec.witness6 (enc := enc) (C := Try.checked) false ⟨#[], #[.slice none 0 0, .slice none 0 0], []⟩ 8 (by as_aux_lemma => kernel_rfl) (by as_aux_lemma => kernel_rfl) (by as_aux_lemma => kernel_rfl) (by as_aux_lemma => kernel_rfl)) ?_
  intro W base args ds gs before hval0 hW hcnd _
  have hval : ∀ (j : Nat) t v, Try.f3.params[j]? = some t → args[j]? = some v → Value.okWide Try.prog W .any base t v := hval0
  have hW' := hW
  obtain ⟨p, q, hA0, hV, rfl, hfz, hnd⟩ := hW
  have hA : DataW.TrodAll enc Try.prog W 0 (fun _ => true) true Try.f3.params.toList args.toList ds p := hA0
  rw [Try.params3] at hA hval
  obtain ⟨v0, vs0, d0, ds0, p0, q0, hargs, rfl, rfl, h0, r0⟩ := trodAll_cons hA
  obtain ⟨v1, vs1, d1, ds1, p1, q1, rfl, rfl, rfl, h1, r1⟩ := trodAll_cons r0
  obtain ⟨rfl, rfl, rfl⟩ := trodAll_nil r1
  obtain rfl : args = #[v0, v1] := by cases args; simp_all
  obtain ⟨rfl, rfl⟩ := trodVars_none hV
  have k0 := h0
  have lt0 := trod_lt' k0
  obtain ⟨a0, w0⟩ := in_slice Try.underlying22 opVersionS (hval 0 22 v0 rfl rfl) h0
  have k1 := h1
  have lt1 := trod_lt' k1
  obtain ⟨a1, w1⟩ := in_slice Try.underlying22 opVersionS (hval 1 22 v1 rfl rfl) h1
  clear hA0 hval0
  refine (lawEqualVersions W _ a0 w0 _ a1 w1).mono fun e W' ⟨he, bel⟩ => ?_
  subst he
  exact ⟨_, rfl, _, _, _, [], _, [], hW', trodAll_mk1 (shut_bool Try.underlying4 _), (trodAll_cons_mk (Below.trod laidOut (by as_aux_lemma => kernel_rfl) (of_decide_eq_true (by as_aux_lemma => kernel_rfl)) k0 bel lt0) (trodAll_cons_mk (Below.trod laidOut (by as_aux_lemma => kernel_rfl) (of_decide_eq_true (by as_aux_lemma => kernel_rfl)) k1 bel lt1) trodAll_mk0)), rfl, bel.frame _, fun h => by cases h⟩

set_option maxHeartbeats 1000000 in
theorem over : Rows.fnExactEqualVersionsRow.holds Try.pinned (OpenSpec.ofChange Rows.fnExactEqualVersionsSpec) :=
  OpenClaim.holds_of_wide 3 Try.f3 rfl rfl rfl rfl rfl rfl rfl ⟨rfl, rfl, rfl, rfl, rfl⟩ rfl rfl rfl rfl rfl (by as_aux_lemma => kernel_rfl) Try.func3 (by as_aux_lemma => kernel_rfl)
    (of_decide_eq_true (by as_aux_lemma => kernel_rfl)) (by unfold Func.isWrapper; rw [if_neg (by as_aux_lemma => decide +kernel)]; exact ⟨rfl, rfl⟩)
    (fun os started H enc _ => lifted os started H enc)
end fnExactEqualVersionsDone
theorem fnExactEqualVersions_holds : Rows.FnExactEqualVersionsSaid := fnExactEqualVersionsDone.over
end Go.Proofs.Ytdhagfpgijcfbaa
