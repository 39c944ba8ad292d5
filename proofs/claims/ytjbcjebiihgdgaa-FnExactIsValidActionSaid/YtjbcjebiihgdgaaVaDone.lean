/- The statement FnExactIsValidActionSaid: for every input the law returns true and its arguments read behind the call as they read before. -/
import Derived.Test.YtjbcjebiihgdgaaRows
import Derived.Test.YtjbcjebiihgdgaaLa
import Derived.Test.YtjbcjebiihgdgaaRd
import Derived.WalkKit
import Derived.ProofKit
import Derived.OpenShut
import Derived.ShutString
import Derived.ChangeOld
import Derived.Below
namespace Go.Proofs.Ytjbcjebiihgdgaa
open Go.ChangeShapes Go.WideShapes Go.ChangeAt Go.RowKit
open GoD (rd own)
namespace fnExactIsValidActionDone
theorem own : ownKnob Try.prog.godebug = none := by kernel_rfl
theorem laidOut : laidOutB Try.prog = true := by kernel_rfl
theorem opInt : Opens Try.prog 3 Int := .int Try.underlying3 (by kernel_rfl)
theorem opBool : Opens Try.prog 4 Bool := .bool Try.underlying4 (by kernel_rfl)
theorem opString : Opens Try.prog 9 ByteArray := .str Try.underlying9 (by kernel_rfl)
theorem opValue : Opens Try.prog 161 ValueD := .struct Try.underlying161 (by kernel_rfl) (.cons rfl opInt (.cons rfl opInt (.one rfl opString)))
theorem opAttr : Opens Try.prog 163 AttrD := .struct Try.underlying163 (by kernel_rfl) (.cons rfl opString (.one rfl opValue))
theorem opAttrS : Opens Try.prog 126 (List AttrD) := .slice Try.underlying126 (by kernel_rfl) opAttr
theorem opFile : Opens Try.prog 128 FileD := .struct Try.underlying128 (by kernel_rfl) (.cons rfl opInt (.cons rfl opInt (.cons rfl opBool (.cons rfl opInt (.one rfl opAttrS)))))
theorem opNode : Opens Try.prog 168 NodeD := .struct Try.underlying168 (by kernel_rfl) (.cons rfl opInt (.cons rfl opInt (.cons rfl opInt (.cons rfl opString (.one rfl opValue)))))
theorem opNodeS : Opens Try.prog 129 (List NodeD) := .slice Try.underlying129 (by kernel_rfl) opNode
theorem opDir : Opens Try.prog 131 DirD := .struct Try.underlying131 (by kernel_rfl) (.cons rfl opString (.one rfl opNodeS))
theorem opChange : Opens Try.prog 133 ChangeD := .struct Try.underlying133 (by kernel_rfl) (.cons rfl opInt (.cons rfl opFile (.cons rfl opInt (.one rfl opDir))))
theorem opChangeS : Opens Try.prog 56 (List ChangeD) := .slice Try.underlying56 (by kernel_rfl) opChange
theorem opAction : Opens Try.prog 58 ActionD := .struct Try.underlying58 (by kernel_rfl) (.cons rfl opInt (.cons rfl opInt (.cons rfl opChangeS (.cons rfl opString (.one rfl opInt)))))
set_option maxRecDepth 100000 in
theorem lifted (os : Os) (started : os.Started) (H : Type) (enc : TypeId × Value → H) : ReturnsInHanded {} Try.checked os 7 .any (Rows.fnExactIsValidActionSpec.pre6 enc Try.prog Try.f7 Rows.fnExactIsValidActionRow.domain false) (Rows.fnExactIsValidActionSpec.post enc Try.prog Try.f7 false true false false) := by
  refine returnsInHanded_of_change (C := Try.checked) own started (by kernel_rfl) Try.func7 (ChangeSpec.witness6 (enc := enc) (C := Try.checked) false ⟨#[], #[.agg #[.int .i64 0, .int .i64 0, .slice none 0 0, .string ⟨#[]⟩, .int .i64 0]], []⟩ 8 (by kernel_rfl) (by kernel_rfl) (by kernel_rfl) (by kernel_rfl)) ?_
  intro W base args ds gs before hval0 hW hcnd _
  have hval : ∀ (j : Nat) t v, Try.f7.params[j]? = some t → args[j]? = some v → Value.okWide Try.prog W .any base t v := hval0
  have hW' := hW
  obtain ⟨p, q, hA0, hV, rfl, hfz, hnd⟩ := hW
  have hA : DataW.TrodAll enc Try.prog W 0 (fun _ => true) true Try.f7.params.toList args.toList ds p := hA0
  rw [Try.params7] at hA hval
  obtain ⟨v0, vs0, d0, ds0, p0, q0, hargs, rfl, rfl, h0, r0⟩ := trodAll_cons hA
  obtain ⟨rfl, rfl, rfl⟩ := trodAll_nil r0
  obtain rfl : args = #[v0] := by cases args; simp_all
  obtain ⟨rfl, rfl⟩ := trodVars_none hV
  have k0 := h0
  have lt0 := trod_lt' k0
  obtain ⟨c0, a0, rfl, w0⟩ := in_struct Try.underlying58 opAction (hval 0 58 v0 rfl rfl) h0
  clear hA0 hval0
  refine (lawIsValidAction W c0 a0 w0).mono fun e W' ⟨he, bel⟩ => ?_
  subst he
  exact ⟨_, rfl, _, _, _, [], _, [], hW', trodAll_mk1 (shut_bool Try.underlying4 _), (trodAll_cons_mk (Below.trod laidOut (by kernel_rfl) (of_decide_eq_true (by kernel_rfl)) k0 bel lt0) trodAll_mk0), rfl, bel.frame _, fun h => by cases h⟩

theorem over : Rows.fnExactIsValidActionRow.holds Try.pinned (OpenSpec.ofChange Rows.fnExactIsValidActionSpec) :=
  OpenClaim.holds_of_wide 7 Try.f7 rfl rfl rfl rfl rfl rfl rfl ⟨rfl, rfl, rfl, rfl, rfl⟩ rfl rfl rfl rfl rfl (by kernel_rfl) Try.func7 (by kernel_rfl)
    (of_decide_eq_true (by kernel_rfl)) (by unfold Func.isWrapper; first | (rw [if_pos (by decide +kernel)]; kernel_rfl) | (rw [if_neg (by decide +kernel)]; exact ⟨rfl, rfl⟩))
    (fun os started H enc _ => lifted os started H enc)
end fnExactIsValidActionDone
theorem fnExactIsValidAction_holds : Rows.FnExactIsValidActionSaid := fnExactIsValidActionDone.over
end Go.Proofs.Ytjbcjebiihgdgaa
