/- The statement FnExactIsValidWatchSaid: for every input the law returns true and its arguments read behind the call as they read before. -/
import Derived.Test.YtonniokonadkfaaRows
import Derived.Test.YtonniokonadkfaaRd
import Derived.WalkKit
import Derived.ProofKit
import Derived.OpenShut
import Derived.ShutString
import Derived.ChangeOld
import Derived.Below
import Derived.Test.YtonniokonadkfaaIz
namespace Go.Proofs.Ytonniokonadkfaa
open Go.ChangeShapes Go.WideShapes Go.ChangeAt Go.RowKit
open GoD (rd own)
namespace fnExactIsValidWatchDone
theorem own : ownKnob Try.prog.godebug = none := by kernel_rfl
theorem laidOut : laidOutB Try.prog = true := by kernel_rfl
theorem opInt : Opens Try.prog 3 Int := .int Try.underlying3 (by as_aux_lemma => kernel_rfl)
theorem opString : Opens Try.prog 9 ByteArray := .str Try.underlying9 (by as_aux_lemma => kernel_rfl)
theorem opIntS : Opens Try.prog 22 (List Int) := .slice Try.underlying22 (by as_aux_lemma => kernel_rfl) opInt
theorem opEvent : Opens Try.prog 49 EventD := .struct Try.underlying49 (by as_aux_lemma => kernel_rfl) (.cons rfl opInt (.cons rfl opIntS (.one rfl opIntS)))
theorem opEventS : Opens Try.prog 23 (List EventD) := .slice Try.underlying23 (by as_aux_lemma => kernel_rfl) opEvent
theorem opWatch : Opens Try.prog 35 WatchD := .struct Try.underlying35 (by as_aux_lemma => kernel_rfl) (.cons rfl opInt (.cons rfl opString (.cons rfl opIntS (.one rfl opEventS))))
set_option maxRecDepth 100000 in
theorem lifted (os : Os) (started : os.Started) (H : Type) (enc : TypeId × Value → H) : ReturnsInHanded {} Try.checked os 6 .any (Rows.fnExactIsValidWatchSpec.pre6 enc Try.prog Try.f6 Rows.fnExactIsValidWatchRow.domain false) (Rows.fnExactIsValidWatchSpec.post enc Try.prog Try.f6 false true false false) := by
  refine returnsInHanded_of_change (C := Try.checked) own started (by as_aux_lemma => kernel_rfl) Try.func6 (ChangeSpec.witness6 (enc := enc) (C := Try.checked) false ⟨#[], #[.agg #[.int .i64 0, .string ⟨#[]⟩, .slice none 0 0, .slice none 0 0]], []⟩ 8 (by as_aux_lemma => kernel_rfl) (by as_aux_lemma => kernel_rfl) (by as_aux_lemma => kernel_rfl) (by as_aux_lemma => kernel_rfl)) ?_
  intro W base args ds gs before hval0 hW hcnd _
  have hval : ∀ (j : Nat) t v, Try.f6.params[j]? = some t → args[j]? = some v → Value.okWide Try.prog W .any base t v := hval0
  have hW' := hW
  obtain ⟨p, q, hA0, hV, rfl, hfz, hnd⟩ := hW
  have hA : DataW.TrodAll enc Try.prog W 0 (fun _ => true) true Try.f6.params.toList args.toList ds p := hA0
  rw [Try.params6] at hA hval
  obtain ⟨v0, vs0, d0, ds0, p0, q0, hargs, rfl, rfl, h0, r0⟩ := trodAll_cons hA
  obtain ⟨rfl, rfl, rfl⟩ := trodAll_nil r0
  obtain rfl : args = #[v0] := by cases args; simp_all
  obtain ⟨rfl, rfl⟩ := trodVars_none hV
  have k0 := h0
  have lt0 := trod_lt' k0
  obtain ⟨c0, a0, rfl, w0⟩ := in_struct Try.underlying35 opWatch (hval 0 35 v0 rfl rfl) h0
  clear hA0 hval0
  refine (lawIsValidWatch W c0 a0 w0).mono fun e W' ⟨he, bel⟩ => ?_
  subst he
  exact ⟨_, rfl, _, _, _, [], _, [], hW', trodAll_mk1 (shut_bool Try.underlying4 _), (trodAll_cons_mk (Below.trod laidOut (by as_aux_lemma => kernel_rfl) (of_decide_eq_true (by as_aux_lemma => kernel_rfl)) k0 bel lt0) trodAll_mk0), rfl, bel.frame _, fun h => by cases h⟩

set_option maxHeartbeats 1000000 in
theorem over : Rows.fnExactIsValidWatchRow.holds Try.pinned (OpenSpec.ofChange Rows.fnExactIsValidWatchSpec) :=
  OpenClaim.holds_of_wide 6 Try.f6 rfl rfl rfl rfl rfl rfl rfl ⟨rfl, rfl, rfl, rfl, rfl⟩ rfl rfl rfl rfl rfl (by as_aux_lemma => kernel_rfl) Try.func6 (by as_aux_lemma => kernel_rfl)
    (of_decide_eq_true (by as_aux_lemma => kernel_rfl)) (by unfold Func.isWrapper; rw [if_neg (by as_aux_lemma => decide +kernel)]; exact ⟨rfl, rfl⟩)
    (fun os started H enc _ => lifted os started H enc)
end fnExactIsValidWatchDone
theorem fnExactIsValidWatch_holds : Rows.FnExactIsValidWatchSaid := fnExactIsValidWatchDone.over
end Go.Proofs.Ytonniokonadkfaa
