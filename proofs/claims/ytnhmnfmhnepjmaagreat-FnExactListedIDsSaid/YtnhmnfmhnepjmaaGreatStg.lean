/- One round of the reference keeps the number of levels. -/
import Derived.Test.YtnhmnfmhnepjmaaGreatStc
set_option linter.unusedVariables false
set_option linter.unusedSimpArgs false
namespace Go.Proofs.YtnhmnfmhnepjmaaGreat
open Go.RowKit
theorem forL_inv {α R S T : Type} {f : Nat → α → S → Rd R S T} {e : Nat → S → T} (I : S → Prop) (h : ∀ k a s, I s → ∃ s', f k a s = .next s' ∧ I s') : ∀ (l : List α) (k : Nat) (s : S), I s → ∃ s', forL f e l k s = .brk (e (k + l.length) s') ∧ I s'
  | [], k, s, hs => ⟨s, by simp [forL], hs⟩
  | a :: l, k, s, hs => by
    obtain ⟨s1, h1, h2⟩ := h k a s hs
    obtain ⟨s2, h3, h4⟩ := forL_inv I h l (k + 1) s1 h2
    refine ⟨s2, ?_, h4⟩
    simp only [forL, h1]
    rw [h3, List.length_cons, show k + 1 + l.length = k + (l.length + 1) by omega]
theorem l13_f1 (d : List DirD) (k0 n : Nat) (k : Nat) (a : ByteArray) (s : List Int) (hs : s.length = n) : ∃ s', specl13Raise_f1 d k0 k a s = .next s' ∧ s'.length = n := by
  unfold specl13Raise_f1
  generalize (decide ((specl11Place d a) ≥ (0 : Int)) && decide ((nth s (Int.toNat (specl11Place d a))) > (nth s k0))) = c
  cases c <;> exact ⟨_, rfl, by simpa using hs⟩
theorem l13_f2 (d : List DirD) (k0 n : Nat) (k : Nat) (a : ByteArray) (s : List Int) (hs : s.length = n) : ∃ s', specl13Raise_f2 d k0 k a s = .next s' ∧ s'.length = n := by
  unfold specl13Raise_f2
  generalize (decide ((specl11Place d a) ≥ (0 : Int)) && decide (IntKind.i64.wrap ((nth s (Int.toNat (specl11Place d a))) + 1) > (nth s k0))) = c
  cases c <;> exact ⟨_, rfl, by simpa using hs⟩
theorem l13_f0 (d : List DirD) (n : Nat) (k : Nat) (a : DirD) (s : List Int) (hs : s.length = n) : ∃ s', specl13Raise_f0 d k a s = .next s' ∧ s'.length = n := by
  unfold specl13Raise_f0
  obtain ⟨s1, h1, h2⟩ := forL_inv (e := specl13Raise_e1) (fun s : List Int => s.length = n) (l13_f1 d k n) (specPositiveDeps a.2) 0 s hs
  obtain ⟨s2, h3, h4⟩ := forL_inv (e := specl13Raise_e2) (fun s : List Int => s.length = n) (l13_f2 d k n) (specNegativeDeps a.2) 0 s1 h2
  refine ⟨s2, ?_, h4⟩
  rw [h1]
  simp only [Out.on, specl13Raise_e1]
  rw [h3]
  rfl
theorem l13Raise_len (d : List DirD) (lev : List Int) : List.length (specl13Raise d lev) = List.length lev := by
  unfold specl13Raise
  obtain ⟨s1, h1, h2⟩ := forL_inv (e := specl13Raise_e0) (fun s : List Int => s.length = lev.length) (l13_f0 d lev.length) d 0 lev rfl
  rw [h1]
  exact h2
theorem vdirs_len {d : List DirD} (h : implIsValidDirs d = true) : List.length d ≤ 5 := by
  unfold implIsValidDirs at h
  cases hf : forL (implIsValidDirs_f0 d) implIsValidDirs_e0 d 0 () with
  | brk t => rw [hf] at h; simp only [Out.on, decide_eq_true_eq] at h; omega
  | ret r =>
    rw [hf] at h
    obtain rfl : r = true := h
    exfalso
    have key : ∀ (l : List DirD) k, forL (implIsValidDirs_f0 d) implIsValidDirs_e0 l k () ≠ .ret true := by
      intro l
      induction l with
      | nil => intro k h; simp [forL] at h
      | cons a l ih =>
        intro k h
        simp only [forL] at h
        unfold implIsValidDirs_f0 at h
        split at h
        · rename_i hf; exact ih _ h
        · cases h
        · rename_i r hf; cases h; revert hf; generalize (_ || _ : Bool) = c; cases c <;> simp
    exact key _ _ hf
theorem dirs5 {d : List DirD} (h : specIsValidDirs d = true) : IntKind.i64.wrap (IntKind.i64.wrap ((d.length : Int) * (d.length : Int)) + 1) = ((List.length d * List.length d + 1 : Nat) : Int) ∧ ((List.length d * List.length d + 1 : Nat) : Int) ≤ 26 := by
  have h5 := vdirs_len ((vdirs_eq d).trans h)
  generalize List.length d = n at h5 ⊢
  have : n = 0 ∨ n = 1 ∨ n = 2 ∨ n = 3 ∨ n = 4 ∨ n = 5 := by omega
  rcases this with rfl | rfl | rfl | rfl | rfl | rfl <;> decide
end Go.Proofs.YtnhmnfmhnepjmaaGreat
