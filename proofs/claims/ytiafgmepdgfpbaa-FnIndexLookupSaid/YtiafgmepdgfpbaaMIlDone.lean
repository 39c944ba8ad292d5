/- The statement FnIndexLookupSaid: for every input the law returns true and its arguments read behind the call as they read before. -/
import Derived.Test.YtiafgmepdgfpbaaRows
import Derived.Test.YtiafgmepdgfpbaaRd
import Derived.WalkKit
import Derived.ProofKit
import Derived.OpenShut
import Derived.ShutString
import Derived.ChangeOld
import Derived.Below
import Derived.Test.YtiafgmepdgfpbaaBy
import Derived.Test.YtiafgmepdgfpbaaMIl
set_option linter.unusedVariables false
set_option linter.unusedSimpArgs false
namespace Go.Proofs.Ytiafgmepdgfpbaa
open Go.ChangeShapes Go.WideShapes Go.ChangeAt Go.RowKit
open GoD (rd own)
namespace fnIndexLookupDone
theorem own : ownKnob Try.prog.godebug = none := by kernel_rfl
theorem laidOut : laidOutB Try.prog = true := by kernel_rfl
theorem opByte : Opens Try.prog 5 UInt8 := .u8 Try.underlying5 (by as_aux_lemma => kernel_rfl)
theorem opByteS : Opens Try.prog 22 (List UInt8) := .slice Try.underlying22 (by as_aux_lemma => kernel_rfl) opByte
set_option maxRecDepth 100000 in
theorem lifted (os : Os) (started : os.Started) (H : Type) (enc : TypeId × Value → H) : ReturnsInHanded {} Try.checked os 3 .any (Rows.fnIndexLookupSpec.pre6 enc Try.prog Try.f3 Rows.fnIndexLookupRow.domain false) (Rows.fnIndexLookupSpec.post enc Try.prog Try.f3 false true false false) := by
  refine returnsInHanded_of_change (C := Try.checked) own started (by as_aux_lemma => kernel_rfl) Try.func3 (ChangeSpec.witness6 (enc := enc) (C := Try.checked) false ⟨#[], #[.slice none 0 0], []⟩ 8 (by as_aux_lemma => kernel_rfl) (by as_aux_lemma => kernel_rfl) (by as_aux_lemma => kernel_rfl) (by as_aux_lemma => kernel_rfl)) ?_
  intro W base args ds gs before hval0 hW hcnd _
  have hval : ∀ (j : Nat) t v, Try.f3.params[j]? = some t → args[j]? = some v → Value.okWide Try.prog W .any base t v := hval0
  have hW' := hW
  obtain ⟨p, q, hA0, hV, rfl, hfz, hnd⟩ := hW
  have hA : DataW.TrodAll enc Try.prog W 0 (fun _ => true) true Try.f3.params.toList args.toList ds p := hA0
  rw [Try.params3] at hA hval
  obtain ⟨v0, vs0, d0, ds0, p0, q0, hargs, rfl, rfl, h0, r0⟩ := trodAll_cons hA
  obtain ⟨rfl, rfl, rfl⟩ := trodAll_nil r0
  obtain rfl : args = #[v0] := by cases args; simp_all
  obtain ⟨rfl, rfl⟩ := trodVars_none hV
  have k0 := h0
  have lt0 := trod_lt' k0
  obtain ⟨a0, w0⟩ := in_slice Try.underlying22 opByteS (hval 0 22 v0 rfl rfl) h0
  clear hA0 hval0
  refine (lawIndexLookup W _ a0 w0).mono fun e W' ⟨he, bel⟩ => ?_
  subst he
  exact ⟨_, rfl, _, _, _, [], _, [], hW', trodAll_mk1 (shut_bool Try.underlying4 _), (trodAll_cons_mk (Below.trod laidOut (by as_aux_lemma => kernel_rfl) (of_decide_eq_true (by as_aux_lemma => kernel_rfl)) k0 bel lt0) trodAll_mk0), rfl, bel.frame _, fun h => by cases h⟩
theorem and_tt {a b : Bool} (h1 : a = true) (h2 : b = true) : (a && b) = true := by rw [h1, h2]; rfl
set_option maxHeartbeats 1000000 in
theorem closedF : joinedFacts Try.pinned.checked.prog 3 Try.f3 Rows.fnIndexLookupSpec Rows.fnIndexLookupRow = true := by
  unfold joinedFacts
  repeat' with_reducible apply and_tt
  all_goals (as_aux_lemma => kernel_rfl)
set_option maxHeartbeats 1000000 in
theorem over : Rows.fnIndexLookupRow.holds Try.pinned (OpenSpec.ofChange Rows.fnIndexLookupSpec) :=
  OpenClaim.holds_of_wide 3 Try.f3 rfl rfl rfl rfl rfl rfl rfl ⟨rfl, rfl, rfl, rfl, rfl⟩ rfl rfl rfl rfl rfl (by as_aux_lemma => kernel_rfl) Try.func3 closedF
    (of_decide_eq_true (by as_aux_lemma => kernel_rfl)) (by unfold Func.isWrapper; rw [if_neg (by as_aux_lemma => decide +kernel)]; exact ⟨rfl, rfl⟩)
    (fun os started H enc _ => lifted os started H enc)
end fnIndexLookupDone
theorem fnIndexLookup_holds : Rows.FnIndexLookupSaid := fnIndexLookupDone.over
end Go.Proofs.Ytiafgmepdgfpbaa
