/- The statement FnExactIsStreamConsistentSaid: for every input the law returns true and its arguments read behind the call as they read before. -/
import Derived.Test.YtnhmnfmhnepjmaaGreatP7
import Derived.Test.YtnhmnfmhnepjmaaGreatRows
import Derived.WalkKit
import Derived.ProofKit
import Derived.OpenShut
import Derived.ShutString
import Derived.ChangeOld
import Derived.Below
set_option linter.unusedVariables false
set_option linter.unusedSimpArgs false
namespace Go.Proofs.YtnhmnfmhnepjmaaGreat
open Go.ChangeShapes Go.WideShapes Go.ChangeAt Go.RowKit
open GoD (rd own)
namespace fnExactIsStreamConsistentDone
theorem own : ownKnob Tryz.prog.godebug = none := by kernel_rfl
theorem laidOut : laidOutB Tryz.prog = true := by kernel_rfl
theorem opString : Opens Tryz.prog 9 ByteArray := .str Tryz.underlying9 (by as_aux_lemma => kernel_rfl)
theorem opInt : Opens Tryz.prog 3 Int := .int Tryz.underlying3 (by as_aux_lemma => kernel_rfl)
theorem opField : Opens Tryz.prog 134 Jr := .struct Tryz.underlying134 (by as_aux_lemma => kernel_rfl) (.cons rfl opString (.one rfl opInt))
theorem opFieldS : Opens Tryz.prog 22 (List Jr) := .slice Tryz.underlying22 (by as_aux_lemma => kernel_rfl) opField
theorem opBool : Opens Tryz.prog 4 Bool := .bool Tryz.underlying4 (by as_aux_lemma => kernel_rfl)
theorem opValue : Opens Tryz.prog 190 ValueD := .struct Tryz.underlying190 (by as_aux_lemma => kernel_rfl) (.cons rfl opInt (.cons rfl opInt (.one rfl opString)))
theorem opAttr : Opens Tryz.prog 236 AttrD := .struct Tryz.underlying236 (by as_aux_lemma => kernel_rfl) (.cons rfl opString (.one rfl opValue))
theorem opAttrS : Opens Tryz.prog 136 (List AttrD) := .slice Tryz.underlying136 (by as_aux_lemma => kernel_rfl) opAttr
theorem opFile : Opens Tryz.prog 138 Yo := .struct Tryz.underlying138 (by as_aux_lemma => kernel_rfl) (.cons rfl opInt (.cons rfl opInt (.cons rfl opBool (.cons rfl opInt (.one rfl opAttrS)))))
theorem opFileS : Opens Tryz.prog 23 (List Yo) := .slice Tryz.underlying23 (by as_aux_lemma => kernel_rfl) opFile
theorem opStore : Opens Tryz.prog 25 Yn := .struct Tryz.underlying25 (by as_aux_lemma => kernel_rfl) (.cons rfl opFieldS (.cons rfl opFileS (.one rfl opInt)))
theorem opNode : Opens Tryz.prog 192 Yg := .struct Tryz.underlying192 (by as_aux_lemma => kernel_rfl) (.cons rfl opInt (.cons rfl opInt (.cons rfl opInt (.cons rfl opString (.one rfl opValue)))))
theorem opNodeS : Opens Tryz.prog 84 (List Yg) := .slice Tryz.underlying84 (by as_aux_lemma => kernel_rfl) opNode
theorem opDir : Opens Tryz.prog 86 Zh := .struct Tryz.underlying86 (by as_aux_lemma => kernel_rfl) (.cons rfl opString (.one rfl opNodeS))
theorem opDirS : Opens Tryz.prog 26 (List Zh) := .slice Tryz.underlying26 (by as_aux_lemma => kernel_rfl) opDir
theorem opIntS : Opens Tryz.prog 29 (List Int) := .slice Tryz.underlying29 (by as_aux_lemma => kernel_rfl) opInt
theorem opResult : Opens Tryz.prog 228 Qi := .struct Tryz.underlying228 (by as_aux_lemma => kernel_rfl) (.cons rfl opString (.one rfl opIntS))
theorem opResultS : Opens Tryz.prog 59 (List Qi) := .slice Tryz.underlying59 (by as_aux_lemma => kernel_rfl) opResult
theorem opCatalog : Opens Tryz.prog 61 CatalogD := .struct Tryz.underlying61 (by as_aux_lemma => kernel_rfl) (.cons rfl opStore (.cons rfl opDirS (.one rfl opResultS)))
theorem opDisk : Opens Tryz.prog 63 DiskD := .struct Tryz.underlying63 (by as_aux_lemma => kernel_rfl) (.cons rfl opString (.one rfl opString))
theorem opSnapshot : Opens Tryz.prog 177 SnapshotD := .struct Tryz.underlying177 (by as_aux_lemma => kernel_rfl) (.cons rfl opStore (.one rfl opDirS))
theorem opVersion : Opens Tryz.prog 179 VersionD := .struct Tryz.underlying179 (by as_aux_lemma => kernel_rfl) (.cons rfl opInt (.cons rfl opSnapshot (.one rfl opInt)))
theorem opVersionS : Opens Tryz.prog 64 (List VersionD) := .slice Tryz.underlying64 (by as_aux_lemma => kernel_rfl) opVersion
theorem opEvent : Opens Tryz.prog 167 Zs := .struct Tryz.underlying167 (by as_aux_lemma => kernel_rfl) (.cons rfl opInt (.cons rfl opIntS (.one rfl opIntS)))
theorem opEventS : Opens Tryz.prog 52 (List Zs) := .slice Tryz.underlying52 (by as_aux_lemma => kernel_rfl) opEvent
theorem opWatch : Opens Tryz.prog 54 WatchD := .struct Tryz.underlying54 (by as_aux_lemma => kernel_rfl) (.cons rfl opInt (.cons rfl opString (.cons rfl opIntS (.one rfl opEventS))))
theorem opWatchS : Opens Tryz.prog 65 (List WatchD) := .slice Tryz.underlying65 (by as_aux_lemma => kernel_rfl) opWatch
theorem opSystem : Opens Tryz.prog 67 Vo := .struct Tryz.underlying67 (by as_aux_lemma => kernel_rfl) (.cons rfl opCatalog (.cons rfl opDisk (.cons rfl opInt (.cons rfl opVersionS (.cons rfl opWatchS (.one rfl opIntS))))))
set_option maxRecDepth 100000 in
theorem lifted (os : Os) (started : os.Started) (H : Type) (enc : TypeId × Value → H) : ReturnsInHanded {} Tryz.checked os 6 .any (Rows.fnExactIsStreamConsistentSpec.pre6 enc Tryz.prog Tryz.f6 Rows.fnExactIsStreamConsistentRow.domain false) (Rows.fnExactIsStreamConsistentSpec.post enc Tryz.prog Tryz.f6 false true false false) := by
  refine returnsInHanded_of_change (C := Tryz.checked) own started (by as_aux_lemma => kernel_rfl) Tryz.func6 (ChangeSpec.witness6 (enc := enc) (C := Tryz.checked) false ⟨#[], #[.agg #[.slice none 0 0, .slice none 0 0, .int .i64 0, .slice none 0 0, .slice none 0 0, .string ⟨#[]⟩, .string ⟨#[]⟩, .int .i64 0, .slice none 0 0, .slice none 0 0, .slice none 0 0], .int .i64 0], []⟩ 8 (by as_aux_lemma => kernel_rfl) (by as_aux_lemma => kernel_rfl) (by as_aux_lemma => kernel_rfl) (by as_aux_lemma => kernel_rfl)) ?_
  intro W base args ds gs before hval0 hW hcnd _
  have hval : ∀ (j : Nat) t v, Tryz.f6.params[j]? = some t → args[j]? = some v → Value.okWide Tryz.prog W .any base t v := hval0
  have hW' := hW
  obtain ⟨p, q, hA0, hV, rfl, hfz, hnd⟩ := hW
  have hA : DataW.TrodAll enc Tryz.prog W 0 (fun _ => true) true Tryz.f6.params.toList args.toList ds p := hA0
  rw [Tryz.params6] at hA hval
  obtain ⟨v0, vs0, d0, ds0, p0, q0, hargs, rfl, rfl, h0, r0⟩ := trodAll_cons hA
  obtain ⟨v1, vs1, d1, ds1, p1, q1, rfl, rfl, rfl, h1, r1⟩ := trodAll_cons r0
  obtain ⟨rfl, rfl, rfl⟩ := trodAll_nil r1
  obtain rfl : args = #[v0, v1] := by cases args; simp_all
  obtain ⟨rfl, rfl⟩ := trodVars_none hV
  have k0 := h0
  have lt0 := trod_lt' k0
  obtain ⟨c0, a0, rfl, w0⟩ := in_struct Tryz.underlying67 opSystem (hval 0 67 v0 rfl rfl) h0
  have k1 := h1
  have lt1 := trod_lt' k1
  obtain ⟨a1, rfl, w1⟩ := in_int Tryz.underlying3 (by as_aux_lemma => kernel_rfl) (hval 1 3 v1 rfl rfl) h1
  clear hA0 hval0
  refine (lawIsStreamConsistent W c0 a0 w0 a1 w1).mono fun e W' ⟨he, bel⟩ => ?_
  subst he
  exact ⟨_, rfl, _, _, _, [], _, [], hW', trodAll_mk1 (shut_bool Tryz.underlying4 _), (trodAll_cons_mk (Below.trod laidOut (by as_aux_lemma => kernel_rfl) (of_decide_eq_true (by as_aux_lemma => kernel_rfl)) k0 bel lt0) (trodAll_cons_mk (Below.trod laidOut (by as_aux_lemma => kernel_rfl) (of_decide_eq_true (by as_aux_lemma => kernel_rfl)) k1 bel lt1) trodAll_mk0)), rfl, bel.frame _, fun h => by cases h⟩
set_option maxHeartbeats 1000000 in
theorem over : Rows.fnExactIsStreamConsistentRow.holds Tryz.pinned (OpenSpec.ofChange Rows.fnExactIsStreamConsistentSpec) :=
  OpenClaim.holds_of_wide 6 Tryz.f6 rfl rfl rfl rfl rfl rfl rfl ⟨rfl, rfl, rfl, rfl, rfl⟩ rfl rfl rfl rfl rfl (by as_aux_lemma => kernel_rfl) Tryz.func6 (by as_aux_lemma => kernel_rfl)
    (of_decide_eq_true (by as_aux_lemma => kernel_rfl)) (by unfold Func.isWrapper; rw [if_neg (by as_aux_lemma => decide +kernel)]; exact ⟨rfl, rfl⟩)
    (fun os started H enc _ => lifted os started H enc)
end fnExactIsStreamConsistentDone
theorem fnExactIsStreamConsistent_holds : Rows.FnExactIsStreamConsistentSaid := fnExactIsStreamConsistentDone.over
end Go.Proofs.YtnhmnfmhnepjmaaGreat
