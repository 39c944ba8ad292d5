/- The statement FnExactHiddenFilesSaid: for every input the law returns true and its arguments read behind the call as they read before. -/
import Derived.Test.YtjbcjebiihgdgaaRows
import Derived.Test.YtjbcjebiihgdgaaRd
import Derived.WalkKit
import Derived.ProofKit
import Derived.OpenShut
import Derived.ShutString
import Derived.ChangeOld
import Derived.Below
import Derived.Test.YtjbcjebiihgdgaaHl
namespace Go.Proofs.Ytjbcjebiihgdgaa
open Go.ChangeShapes Go.WideShapes Go.ChangeAt Go.RowKit
open GoD (rd own)
namespace fnExactHiddenFilesDone
theorem own : ownKnob Try.prog.godebug = none := by kernel_rfl
theorem laidOut : laidOutB Try.prog = true := by kernel_rfl
theorem opString : Opens Try.prog 9 ByteArray := .str Try.underlying9 (by kernel_rfl)
theorem opInt : Opens Try.prog 3 Int := .int Try.underlying3 (by kernel_rfl)
theorem opField : Opens Try.prog 142 FieldD := .struct Try.underlying142 (by kernel_rfl) (.cons rfl opString (.one rfl opInt))
theorem opFieldS : Opens Try.prog 67 (List FieldD) := .slice Try.underlying67 (by kernel_rfl) opField
theorem opBool : Opens Try.prog 4 Bool := .bool Try.underlying4 (by kernel_rfl)
theorem opValue : Opens Try.prog 161 ValueD := .struct Try.underlying161 (by kernel_rfl) (.cons rfl opInt (.cons rfl opInt (.one rfl opString)))
theorem opAttr : Opens Try.prog 163 AttrD := .struct Try.underlying163 (by kernel_rfl) (.cons rfl opString (.one rfl opValue))
theorem opAttrS : Opens Try.prog 126 (List AttrD) := .slice Try.underlying126 (by kernel_rfl) opAttr
theorem opFile : Opens Try.prog 128 FileD := .struct Try.underlying128 (by kernel_rfl) (.cons rfl opInt (.cons rfl opInt (.cons rfl opBool (.cons rfl opInt (.one rfl opAttrS)))))
theorem opFileS : Opens Try.prog 68 (List FileD) := .slice Try.underlying68 (by kernel_rfl) opFile
theorem opStore : Opens Try.prog 70 StoreD := .struct Try.underlying70 (by kernel_rfl) (.cons rfl opFieldS (.cons rfl opFileS (.one rfl opInt)))
set_option maxRecDepth 100000 in
theorem lifted (os : Os) (started : os.Started) (H : Type) (enc : TypeId × Value → H) : ReturnsInHanded {} Try.checked os 8 .any (Rows.fnExactHiddenFilesSpec.pre6 enc Try.prog Try.f8 Rows.fnExactHiddenFilesRow.domain false) (Rows.fnExactHiddenFilesSpec.post enc Try.prog Try.f8 false true false false) := by
  refine returnsInHanded_of_change (C := Try.checked) own started (by kernel_rfl) Try.func8 (ChangeSpec.witness6 (enc := enc) (C := Try.checked) false ⟨#[], #[.agg #[.slice none 0 0, .slice none 0 0, .int .i64 0], .int .i64 0], []⟩ 8 (by kernel_rfl) (by kernel_rfl) (by kernel_rfl) (by kernel_rfl)) ?_
  intro W base args ds gs before hval0 hW hcnd _
  have hval : ∀ (j : Nat) t v, Try.f8.params[j]? = some t → args[j]? = some v → Value.okWide Try.prog W .any base t v := hval0
  have hW' := hW
  obtain ⟨p, q, hA0, hV, rfl, hfz, hnd⟩ := hW
  have hA : DataW.TrodAll enc Try.prog W 0 (fun _ => true) true Try.f8.params.toList args.toList ds p := hA0
  rw [Try.params8] at hA hval
  obtain ⟨v0, vs0, d0, ds0, p0, q0, hargs, rfl, rfl, h0, r0⟩ := trodAll_cons hA
  obtain ⟨v1, vs1, d1, ds1, p1, q1, rfl, rfl, rfl, h1, r1⟩ := trodAll_cons r0
  obtain ⟨rfl, rfl, rfl⟩ := trodAll_nil r1
  obtain rfl : args = #[v0, v1] := by cases args; simp_all
  obtain ⟨rfl, rfl⟩ := trodVars_none hV
  have k0 := h0
  have lt0 := trod_lt' k0
  obtain ⟨c0, a0, rfl, w0⟩ := in_struct Try.underlying70 opStore (hval 0 70 v0 rfl rfl) h0
  have k1 := h1
  have lt1 := trod_lt' k1
  obtain ⟨a1, rfl, w1⟩ := in_int Try.underlying3 (by kernel_rfl) (hval 1 3 v1 rfl rfl) h1
  clear hA0 hval0
  refine (lawHiddenFiles W c0 a0 w0 a1 w1).mono fun e W' ⟨he, bel⟩ => ?_
  subst he
  exact ⟨_, rfl, _, _, _, [], _, [], hW', trodAll_mk1 (shut_bool Try.underlying4 _), (trodAll_cons_mk (Below.trod laidOut (by kernel_rfl) (of_decide_eq_true (by kernel_rfl)) k0 bel lt0) (trodAll_cons_mk (Below.trod laidOut (by kernel_rfl) (of_decide_eq_true (by kernel_rfl)) k1 bel lt1) trodAll_mk0)), rfl, bel.frame _, fun h => by cases h⟩

theorem over : Rows.fnExactHiddenFilesRow.holds Try.pinned (OpenSpec.ofChange Rows.fnExactHiddenFilesSpec) :=
  OpenClaim.holds_of_wide 8 Try.f8 rfl rfl rfl rfl rfl rfl rfl ⟨rfl, rfl, rfl, rfl, rfl⟩ rfl rfl rfl rfl rfl (by kernel_rfl) Try.func8 (by kernel_rfl)
    (of_decide_eq_true (by kernel_rfl)) (by unfold Func.isWrapper; first | (rw [if_pos (by decide +kernel)]; kernel_rfl) | (rw [if_neg (by decide +kernel)]; exact ⟨rfl, rfl⟩))
    (fun os started H enc _ => lifted os started H enc)
end fnExactHiddenFilesDone
theorem fnExactHiddenFiles_holds : Rows.FnExactHiddenFilesSaid := fnExactHiddenFilesDone.over
end Go.Proofs.Ytjbcjebiihgdgaa
