/- The statement FnExactCheckIndexSaid: for every input the law returns true and its arguments read behind the call as they read before. -/
import Derived.Test.YtiafgmepdgfpbaaRows
import Derived.Test.YtiafgmepdgfpbaaRd
import Derived.WalkKit
import Derived.ProofKit
import Derived.OpenShut
import Derived.ShutString
import Derived.ChangeOld
import Derived.Below
import Derived.Test.YtiafgmepdgfpbaaMCi
set_option linter.unusedVariables false
set_option linter.unusedSimpArgs false
namespace Go.Proofs.Ytiafgmepdgfpbaa
open Go.ChangeShapes Go.WideShapes Go.ChangeAt Go.RowKit
open GoD (rd own)
namespace fnExactCheckIndexDone
theorem own : ownKnob Try.prog.godebug = none := by kernel_rfl
theorem laidOut : laidOutB Try.prog = true := by kernel_rfl
theorem opString : Opens Try.prog 9 ByteArray := .str Try.underlying9 (by as_aux_lemma => kernel_rfl)
theorem opInt : Opens Try.prog 3 Int := .int Try.underlying3 (by as_aux_lemma => kernel_rfl)
theorem opField : Opens Try.prog 121 FieldD := .struct Try.underlying121 (by as_aux_lemma => kernel_rfl) (.cons rfl opString (.one rfl opInt))
theorem opFieldS : Opens Try.prog 48 (List FieldD) := .slice Try.underlying48 (by as_aux_lemma => kernel_rfl) opField
theorem opBool : Opens Try.prog 4 Bool := .bool Try.underlying4 (by as_aux_lemma => kernel_rfl)
theorem opValue : Opens Try.prog 84 ValueD := .struct Try.underlying84 (by as_aux_lemma => kernel_rfl) (.cons rfl opInt (.cons rfl opInt (.one rfl opString)))
theorem opAttr : Opens Try.prog 152 AttrD := .struct Try.underlying152 (by as_aux_lemma => kernel_rfl) (.cons rfl opString (.one rfl opValue))
theorem opAttrS : Opens Try.prog 123 (List AttrD) := .slice Try.underlying123 (by as_aux_lemma => kernel_rfl) opAttr
theorem opFile : Opens Try.prog 125 FileD := .struct Try.underlying125 (by as_aux_lemma => kernel_rfl) (.cons rfl opInt (.cons rfl opInt (.cons rfl opBool (.cons rfl opInt (.one rfl opAttrS)))))
theorem opFileS : Opens Try.prog 49 (List FileD) := .slice Try.underlying49 (by as_aux_lemma => kernel_rfl) opFile
theorem opStore : Opens Try.prog 51 StoreD := .struct Try.underlying51 (by as_aux_lemma => kernel_rfl) (.cons rfl opFieldS (.cons rfl opFileS (.one rfl opInt)))
theorem opIntS : Opens Try.prog 37 (List Int) := .slice Try.underlying37 (by as_aux_lemma => kernel_rfl) opInt
theorem opPosting : Opens Try.prog 86 PostingD := .struct Try.underlying86 (by as_aux_lemma => kernel_rfl) (.cons rfl opString (.cons rfl opValue (.one rfl opIntS)))
theorem opPostingS : Opens Try.prog 52 (List PostingD) := .slice Try.underlying52 (by as_aux_lemma => kernel_rfl) opPosting
set_option maxRecDepth 100000 in
theorem lifted (os : Os) (started : os.Started) (H : Type) (enc : TypeId × Value → H) : ReturnsInHanded {} Try.checked os 4 .any (Rows.fnExactCheckIndexSpec.pre6 enc Try.prog Try.f4 Rows.fnExactCheckIndexRow.domain false) (Rows.fnExactCheckIndexSpec.post enc Try.prog Try.f4 false true false false) := by
  refine returnsInHanded_of_change (C := Try.checked) own started (by as_aux_lemma => kernel_rfl) Try.func4 (ChangeSpec.witness6 (enc := enc) (C := Try.checked) false ⟨#[], #[.agg #[.slice none 0 0, .slice none 0 0, .int .i64 0], .slice none 0 0], []⟩ 8 (by as_aux_lemma => kernel_rfl) (by as_aux_lemma => kernel_rfl) (by as_aux_lemma => kernel_rfl) (by as_aux_lemma => kernel_rfl)) ?_
  intro W base args ds gs before hval0 hW hcnd _
  have hval : ∀ (j : Nat) t v, Try.f4.params[j]? = some t → args[j]? = some v → Value.okWide Try.prog W .any base t v := hval0
  have hW' := hW
  obtain ⟨p, q, hA0, hV, rfl, hfz, hnd⟩ := hW
  have hA : DataW.TrodAll enc Try.prog W 0 (fun _ => true) true Try.f4.params.toList args.toList ds p := hA0
  rw [Try.params4] at hA hval
  obtain ⟨v0, vs0, d0, ds0, p0, q0, hargs, rfl, rfl, h0, r0⟩ := trodAll_cons hA
  obtain ⟨v1, vs1, d1, ds1, p1, q1, rfl, rfl, rfl, h1, r1⟩ := trodAll_cons r0
  obtain ⟨rfl, rfl, rfl⟩ := trodAll_nil r1
  obtain rfl : args = #[v0, v1] := by cases args; simp_all
  obtain ⟨rfl, rfl⟩ := trodVars_none hV
  have k0 := h0
  have lt0 := trod_lt' k0
  obtain ⟨c0, a0, rfl, w0⟩ := in_struct Try.underlying51 opStore (hval 0 51 v0 rfl rfl) h0
  have k1 := h1
  have lt1 := trod_lt' k1
  obtain ⟨a1, w1⟩ := in_slice Try.underlying52 opPostingS (hval 1 52 v1 rfl rfl) h1
  clear hA0 hval0
  refine (lawCheckIndex W c0 a0 w0 _ a1 w1).mono fun e W' ⟨he, bel⟩ => ?_
  subst he
  exact ⟨_, rfl, _, _, _, [], _, [], hW', trodAll_mk1 (shut_bool Try.underlying4 _), (trodAll_cons_mk (Below.trod laidOut (by as_aux_lemma => kernel_rfl) (of_decide_eq_true (by as_aux_lemma => kernel_rfl)) k0 bel lt0) (trodAll_cons_mk (Below.trod laidOut (by as_aux_lemma => kernel_rfl) (of_decide_eq_true (by as_aux_lemma => kernel_rfl)) k1 bel lt1) trodAll_mk0)), rfl, bel.frame _, fun h => by cases h⟩
theorem and_tt {a b : Bool} (h1 : a = true) (h2 : b = true) : (a && b) = true := by rw [h1, h2]; rfl
set_option maxHeartbeats 1000000 in
theorem closedF : joinedFacts Try.pinned.checked.prog 4 Try.f4 Rows.fnExactCheckIndexSpec Rows.fnExactCheckIndexRow = true := by
  unfold joinedFacts
  repeat' with_reducible apply and_tt
  all_goals (as_aux_lemma => kernel_rfl)
set_option maxHeartbeats 1000000 in
theorem over : Rows.fnExactCheckIndexRow.holds Try.pinned (OpenSpec.ofChange Rows.fnExactCheckIndexSpec) :=
  OpenClaim.holds_of_wide 4 Try.f4 rfl rfl rfl rfl rfl rfl rfl ⟨rfl, rfl, rfl, rfl, rfl⟩ rfl rfl rfl rfl rfl (by as_aux_lemma => kernel_rfl) Try.func4 closedF
    (of_decide_eq_true (by as_aux_lemma => kernel_rfl)) (by unfold Func.isWrapper; rw [if_neg (by as_aux_lemma => decide +kernel)]; exact ⟨rfl, rfl⟩)
    (fun os started H enc _ => lifted os started H enc)
end fnExactCheckIndexDone
theorem fnExactCheckIndex_holds : Rows.FnExactCheckIndexSaid := fnExactCheckIndexDone.over
end Go.Proofs.Ytiafgmepdgfpbaa
