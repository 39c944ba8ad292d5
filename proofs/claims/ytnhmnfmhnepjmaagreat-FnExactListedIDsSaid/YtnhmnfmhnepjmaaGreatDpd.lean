/- What a query depends on: both sides alike. -/
import Derived.Test.YtnhmnfmhnepjmaaGreatDpc
set_option linter.unusedVariables false
set_option linter.unusedSimpArgs false
namespace Go.Proofs.YtnhmnfmhnepjmaaGreat
open Go.RowKit
theorem namesDir_eq (n : NodeD) : specl01In n.1 8 9 = implnamesDir n := by
  unfold specl01In implnamesDir
  rw [Bool.eq_iff_iff]
  simp
  omega
theorem deps_loop (q : List NodeD) (b : Bool) : ∀ (l : List Bool) (k : Nat) (s : List ByteArray), ∃ m, forL (impldepsBelow_f0 q b) impldepsBelow_e0 l k s = .brk (s ++ m) ∧ ∀ t, forL (specl12Names_f0 q b) specl12Names_e0 l k t = .brk (putAllS t m)
  | [], k, s => ⟨[], by simp [forL, impldepsBelow_e0], fun t => by simp [forL, specl12Names_e0, putAllS]⟩
  | a :: l, k, s => by
    simp only [forL, impldepsBelow_f0, specl12Names_f0, namesDir_eq]
    cases h : (implnamesDir (nth q k) && (a == b)) with
    | true =>
      obtain ⟨m, h1, h2⟩ := deps_loop q b l (k + 1) (s ++ [(nth q k).2.2.2.1])
      refine ⟨(nth q k).2.2.2.1 :: m, ?_, fun t => ?_⟩
      · simp only [cond_true]; rw [h1, List.append_assoc]; rfl
      · simp only [cond_true]; rw [h2, l04Put_eq]; rfl
    | false =>
      obtain ⟨m, h1, h2⟩ := deps_loop q b l (k + 1) s
      exact ⟨m, by simp only [cond_false]; exact h1, fun t => by simp only [cond_false]; exact h2 t⟩
theorem deps_eq (q : List NodeD) (b : Bool) : specl12Names q b = impldepsBelow q b := by
  unfold specl12Names impldepsBelow
  obtain ⟨m, h1, h2⟩ := deps_loop q b (implNegatedNodes q) 0 []
  rw [negated_eq, h1, h2]
  simp only [Out.on, List.nil_append]
  exact (once_put m).symm
theorem posdeps_eq (q : List NodeD) : specPositiveDeps q = implPositiveDeps q := deps_eq q false
theorem negdeps_eq (q : List NodeD) : specNegativeDeps q = implNegativeDeps q := deps_eq q true
end Go.Proofs.YtnhmnfmhnepjmaaGreat
