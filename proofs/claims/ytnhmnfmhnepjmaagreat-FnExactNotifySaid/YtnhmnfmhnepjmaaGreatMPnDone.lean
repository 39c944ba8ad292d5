/- The statement FnExactNotifySaid: for every input the law returns true and its arguments read behind the call as they read before. -/
import Derived.Test.YtnhmnfmhnepjmaaGreatP7
import Derived.Test.YtnhmnfmhnepjmaaGreatRows
import Derived.WalkKit
import Derived.ProofKit
import Derived.OpenShut
import Derived.ShutString
import Derived.ChangeOld
import Derived.Below
set_option linter.unusedVariables false
set_option linter.unusedSimpArgs false
namespace Go.Proofs.YtnhmnfmhnepjmaaGreat
open Go.ChangeShapes Go.WideShapes Go.ChangeAt Go.RowKit
open GoD (rd own)
namespace fnExactNotifyDone
theorem own : ownKnob Tryz.prog.godebug = none := by kernel_rfl
theorem Qoc : laidOutB Tryz.prog = true := by kernel_rfl
theorem Qia : Opens Tryz.prog 3 Int := .int Tryz.underlying3 (by as_aux_lemma => kernel_rfl)
theorem Qe8 : Opens Tryz.prog 9 ByteArray := .str Tryz.underlying9 (by as_aux_lemma => kernel_rfl)
theorem opIntS : Opens Tryz.prog 29 (List Int) := .slice Tryz.underlying29 (by as_aux_lemma => kernel_rfl) Qia
theorem opEvent : Opens Tryz.prog 167 Zk := .struct Tryz.underlying167 (by as_aux_lemma => kernel_rfl) (.cons rfl Qia (.cons rfl opIntS (.one rfl opIntS)))
theorem opEventS : Opens Tryz.prog 52 (List Zk) := .slice Tryz.underlying52 (by as_aux_lemma => kernel_rfl) opEvent
theorem opWatch : Opens Tryz.prog 54 Jl := .struct Tryz.underlying54 (by as_aux_lemma => kernel_rfl) (.cons rfl Qia (.cons rfl Qe8 (.cons rfl opIntS (.one rfl opEventS))))
theorem opField : Opens Tryz.prog 134 Jr := .struct Tryz.underlying134 (by as_aux_lemma => kernel_rfl) (.cons rfl Qe8 (.one rfl Qia))
theorem opFieldS : Opens Tryz.prog 22 (List Jr) := .slice Tryz.underlying22 (by as_aux_lemma => kernel_rfl) opField
theorem opBool : Opens Tryz.prog 4 Bool := .bool Tryz.underlying4 (by as_aux_lemma => kernel_rfl)
theorem opValue : Opens Tryz.prog 190 H5 := .struct Tryz.underlying190 (by as_aux_lemma => kernel_rfl) (.cons rfl Qia (.cons rfl Qia (.one rfl Qe8)))
theorem opAttr : Opens Tryz.prog 236 Qdd := .struct Tryz.underlying236 (by as_aux_lemma => kernel_rfl) (.cons rfl Qe8 (.one rfl opValue))
theorem opAttrS : Opens Tryz.prog 136 (List Qdd) := .slice Tryz.underlying136 (by as_aux_lemma => kernel_rfl) opAttr
theorem opFile : Opens Tryz.prog 138 Yt := .struct Tryz.underlying138 (by as_aux_lemma => kernel_rfl) (.cons rfl Qia (.cons rfl Qia (.cons rfl opBool (.cons rfl Qia (.one rfl opAttrS)))))
theorem opFileS : Opens Tryz.prog 23 (List Yt) := .slice Tryz.underlying23 (by as_aux_lemma => kernel_rfl) opFile
theorem opStore : Opens Tryz.prog 25 X7 := .struct Tryz.underlying25 (by as_aux_lemma => kernel_rfl) (.cons rfl opFieldS (.cons rfl opFileS (.one rfl Qia)))
theorem opNode : Opens Tryz.prog 192 Yq := .struct Tryz.underlying192 (by as_aux_lemma => kernel_rfl) (.cons rfl Qia (.cons rfl Qia (.cons rfl Qia (.cons rfl Qe8 (.one rfl opValue)))))
theorem opNodeS : Opens Tryz.prog 84 (List Yq) := .slice Tryz.underlying84 (by as_aux_lemma => kernel_rfl) opNode
theorem opDir : Opens Tryz.prog 86 Zh := .struct Tryz.underlying86 (by as_aux_lemma => kernel_rfl) (.cons rfl Qe8 (.one rfl opNodeS))
theorem opDirS : Opens Tryz.prog 26 (List Zh) := .slice Tryz.underlying26 (by as_aux_lemma => kernel_rfl) opDir
set_option maxRecDepth 100000 in
theorem lifted (os : Os) (started : os.Started) (H : Type) (enc : TypeId × Value → H) : ReturnsInHanded {} Tryz.checked os 5 .any (Rows.fnExactNotifySpec.pre6 enc Tryz.prog Tryz.f5 Rows.fnExactNotifyRow.domain false) (Rows.fnExactNotifySpec.post enc Tryz.prog Tryz.f5 false true false false) := by
  refine returnsInHanded_of_change (C := Tryz.checked) own started (by as_aux_lemma => kernel_rfl) Tryz.func5 (ChangeSpec.witness6 (enc := enc) (C := Tryz.checked) false ⟨#[], #[.agg #[.int .i64 0, .string ⟨#[]⟩, .slice none 0 0, .slice none 0 0], .int .i64 0, .agg #[.slice none 0 0, .slice none 0 0, .int .i64 0], .slice none 0 0], []⟩ 8 (by as_aux_lemma => kernel_rfl) (by as_aux_lemma => kernel_rfl) (by as_aux_lemma => kernel_rfl) (by as_aux_lemma => kernel_rfl)) ?_
  intro W base args ds gs before hval0 hW hcnd _
  have hval : ∀ (j : Nat) t v, Tryz.f5.params[j]? = some t → args[j]? = some v → Value.okWide Tryz.prog W .any base t v := hval0
  have hW' := hW
  obtain ⟨p, q, hA0, hV, rfl, hfz, hnd⟩ := hW
  have hA : DataW.TrodAll enc Tryz.prog W 0 (fun _ => true) true Tryz.f5.params.toList args.toList ds p := hA0
  rw [Tryz.params5] at hA hval
  obtain ⟨v0, vs0, d0, ds0, p0, q0, hargs, rfl, rfl, h0, r0⟩ := trodAll_cons hA
  obtain ⟨v1, vs1, d1, ds1, p1, q1, rfl, rfl, rfl, h1, r1⟩ := trodAll_cons r0
  obtain ⟨v2, vs2, d2, ds2, p2, q2, rfl, rfl, rfl, h2, r2⟩ := trodAll_cons r1
  obtain ⟨v3, vs3, d3, ds3, p3, q3, rfl, rfl, rfl, h3, r3⟩ := trodAll_cons r2
  obtain ⟨rfl, rfl, rfl⟩ := trodAll_nil r3
  obtain rfl : args = #[v0, v1, v2, v3] := by cases args; simp_all
  obtain ⟨rfl, rfl⟩ := trodVars_none hV
  have k0 := h0
  have lt0 := Qiv k0
  obtain ⟨c0, a0, rfl, w0⟩ := Qoj Tryz.underlying54 opWatch (hval 0 54 v0 rfl rfl) h0
  have k1 := h1
  have lt1 := Qiv k1
  obtain ⟨a1, rfl, w1⟩ := in_int Tryz.underlying3 (by as_aux_lemma => kernel_rfl) (hval 1 3 v1 rfl rfl) h1
  have k2 := h2
  have lt2 := Qiv k2
  obtain ⟨c2, a2, rfl, w2⟩ := Qoj Tryz.underlying25 opStore (hval 2 25 v2 rfl rfl) h2
  have k3 := h3
  have lt3 := Qiv k3
  obtain ⟨a3, w3⟩ := in_slice Tryz.underlying26 opDirS (hval 3 26 v3 rfl rfl) h3
  clear hA0 hval0
  refine (lawNotify W c0 a0 w0 a1 w1 c2 a2 w2 _ a3 w3).mono fun e W' ⟨he, bel⟩ => ?_
  subst he
  exact ⟨_, rfl, _, _, _, [], _, [], hW', trodAll_mk1 (shut_bool Tryz.underlying4 _), (trodAll_cons_mk (Below.trod Qoc (by as_aux_lemma => kernel_rfl) (of_decide_eq_true (by as_aux_lemma => kernel_rfl)) k0 bel lt0) (trodAll_cons_mk (Below.trod Qoc (by as_aux_lemma => kernel_rfl) (of_decide_eq_true (by as_aux_lemma => kernel_rfl)) k1 bel lt1) (trodAll_cons_mk (Below.trod Qoc (by as_aux_lemma => kernel_rfl) (of_decide_eq_true (by as_aux_lemma => kernel_rfl)) k2 bel lt2) (trodAll_cons_mk (Below.trod Qoc (by as_aux_lemma => kernel_rfl) (of_decide_eq_true (by as_aux_lemma => kernel_rfl)) k3 bel lt3) trodAll_mk0)))), rfl, bel.frame _, fun h => by cases h⟩
set_option maxHeartbeats 1000000 in
theorem over : Rows.fnExactNotifyRow.holds Tryz.pinned (OpenSpec.ofChange Rows.fnExactNotifySpec) :=
  OpenClaim.holds_of_wide 5 Tryz.f5 rfl rfl rfl rfl rfl rfl rfl ⟨rfl, rfl, rfl, rfl, rfl⟩ rfl rfl rfl rfl rfl (by as_aux_lemma => kernel_rfl) Tryz.func5 (by as_aux_lemma => kernel_rfl)
    (of_decide_eq_true (by as_aux_lemma => kernel_rfl)) (by unfold Func.isWrapper; rw [if_neg (by as_aux_lemma => decide +kernel)]; exact ⟨rfl, rfl⟩)
    (fun os started H enc _ => lifted os started H enc)
end fnExactNotifyDone
theorem fnExactNotify_holds : Rows.FnExactNotifySaid := fnExactNotifyDone.over
end Go.Proofs.YtnhmnfmhnepjmaaGreat
