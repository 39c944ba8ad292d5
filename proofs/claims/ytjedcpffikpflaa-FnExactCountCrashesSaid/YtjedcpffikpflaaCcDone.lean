/- The statement FnExactCountCrashesSaid: for every input the law returns true and its arguments read behind the call as they read before. -/
import Derived.Test.YtjedcpffikpflaaRows
import Derived.Test.YtjedcpffikpflaaRd
import Derived.WalkKit
import Derived.ProofKit
import Derived.OpenShut
import Derived.ShutString
import Derived.ChangeOld
import Derived.Below
import Derived.Test.YtjedcpffikpflaaCl
namespace Go.Proofs.Ytjedcpffikpflaa
open Go.ChangeShapes Go.WideShapes Go.ChangeAt Go.RowKit
open GoD (rd own)
namespace fnExactCountCrashesDone
theorem own : ownKnob Try.prog.godebug = none := by kernel_rfl
theorem laidOut : laidOutB Try.prog = true := by kernel_rfl
theorem opInt : Opens Try.prog 3 Int := .int Try.underlying3 (by as_aux_lemma => kernel_rfl)
theorem opBool : Opens Try.prog 4 Bool := .bool Try.underlying4 (by as_aux_lemma => kernel_rfl)
theorem opString : Opens Try.prog 9 ByteArray := .str Try.underlying9 (by as_aux_lemma => kernel_rfl)
theorem opValue : Opens Try.prog 296 ValueD := .struct Try.underlying296 (by as_aux_lemma => kernel_rfl) (.cons rfl opInt (.cons rfl opInt (.one rfl opString)))
theorem opAttr : Opens Try.prog 298 AttrD := .struct Try.underlying298 (by as_aux_lemma => kernel_rfl) (.cons rfl opString (.one rfl opValue))
theorem opAttrS : Opens Try.prog 222 (List AttrD) := .slice Try.underlying222 (by as_aux_lemma => kernel_rfl) opAttr
theorem opFile : Opens Try.prog 224 FileD := .struct Try.underlying224 (by as_aux_lemma => kernel_rfl) (.cons rfl opInt (.cons rfl opInt (.cons rfl opBool (.cons rfl opInt (.one rfl opAttrS)))))
theorem opNode : Opens Try.prog 301 NodeD := .struct Try.underlying301 (by as_aux_lemma => kernel_rfl) (.cons rfl opInt (.cons rfl opInt (.cons rfl opInt (.cons rfl opString (.one rfl opValue)))))
theorem opNodeS : Opens Try.prog 225 (List NodeD) := .slice Try.underlying225 (by as_aux_lemma => kernel_rfl) opNode
theorem opDir : Opens Try.prog 227 DirD := .struct Try.underlying227 (by as_aux_lemma => kernel_rfl) (.cons rfl opString (.one rfl opNodeS))
theorem opChange : Opens Try.prog 229 ChangeD := .struct Try.underlying229 (by as_aux_lemma => kernel_rfl) (.cons rfl opInt (.cons rfl opFile (.cons rfl opInt (.one rfl opDir))))
theorem opChangeS : Opens Try.prog 107 (List ChangeD) := .slice Try.underlying107 (by as_aux_lemma => kernel_rfl) opChange
theorem opAction : Opens Try.prog 109 ActionD := .struct Try.underlying109 (by as_aux_lemma => kernel_rfl) (.cons rfl opInt (.cons rfl opInt (.cons rfl opChangeS (.cons rfl opString (.one rfl opInt)))))
theorem opActionS : Opens Try.prog 22 (List ActionD) := .slice Try.underlying22 (by as_aux_lemma => kernel_rfl) opAction
set_option maxRecDepth 100000 in
theorem lifted (os : Os) (started : os.Started) (H : Type) (enc : TypeId × Value → H) : ReturnsInHanded {} Try.checked os 3 .any (Rows.fnExactCountCrashesSpec.pre6 enc Try.prog Try.f3 Rows.fnExactCountCrashesRow.domain false) (Rows.fnExactCountCrashesSpec.post enc Try.prog Try.f3 false true false false) := by
  refine returnsInHanded_of_change (C := Try.checked) own started (by as_aux_lemma => kernel_rfl) Try.func3 (ChangeSpec.witness6 (enc := enc) (C := Try.checked) false ⟨#[], #[.slice none 0 0], []⟩ 8 (by as_aux_lemma => kernel_rfl) (by as_aux_lemma => kernel_rfl) (by as_aux_lemma => kernel_rfl) (by as_aux_lemma => kernel_rfl)) ?_
  intro W base args ds gs before hval0 hW hcnd _
  have hval : ∀ (j : Nat) t v, Try.f3.params[j]? = some t → args[j]? = some v → Value.okWide Try.prog W .any base t v := hval0
  have hW' := hW
  obtain ⟨p, q, hA0, hV, rfl, hfz, hnd⟩ := hW
  have hA : DataW.TrodAll enc Try.prog W 0 (fun _ => true) true Try.f3.params.toList args.toList ds p := hA0
  rw [Try.params3] at hA hval
  obtain ⟨v0, vs0, d0, ds0, p0, q0, hargs, rfl, rfl, h0, r0⟩ := trodAll_cons hA
  obtain ⟨rfl, rfl, rfl⟩ := trodAll_nil r0
  obtain rfl : args = #[v0] := by cases args; simp_all
  obtain ⟨rfl, rfl⟩ := trodVars_none hV
  have k0 := h0
  have lt0 := trod_lt' k0
  obtain ⟨a0, w0⟩ := in_slice Try.underlying22 opActionS (hval 0 22 v0 rfl rfl) h0
  clear hA0 hval0
  refine (lawCountCrashes W _ a0 w0).mono fun e W' ⟨he, bel⟩ => ?_
  subst he
  exact ⟨_, rfl, _, _, _, [], _, [], hW', trodAll_mk1 (shut_bool Try.underlying4 _), (trodAll_cons_mk (Below.trod laidOut (by as_aux_lemma => kernel_rfl) (of_decide_eq_true (by as_aux_lemma => kernel_rfl)) k0 bel lt0) trodAll_mk0), rfl, bel.frame _, fun h => by cases h⟩

set_option maxHeartbeats 1000000 in
theorem over : Rows.fnExactCountCrashesRow.holds Try.pinned (OpenSpec.ofChange Rows.fnExactCountCrashesSpec) :=
  OpenClaim.holds_of_wide 3 Try.f3 rfl rfl rfl rfl rfl rfl rfl ⟨rfl, rfl, rfl, rfl, rfl⟩ rfl rfl rfl rfl rfl (by as_aux_lemma => kernel_rfl) Try.func3 (by as_aux_lemma => kernel_rfl)
    (of_decide_eq_true (by as_aux_lemma => kernel_rfl)) (by unfold Func.isWrapper; rw [if_neg (by as_aux_lemma => decide +kernel)]; exact ⟨rfl, rfl⟩)
    (fun os started H enc _ => lifted os started H enc)
end fnExactCountCrashesDone
theorem fnExactCountCrashes_holds : Rows.FnExactCountCrashesSaid := fnExactCountCrashesDone.over
end Go.Proofs.Ytjedcpffikpflaa
