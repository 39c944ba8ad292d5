/- Directories: valid ones, and where a name stands; both sides alike. -/
import Derived.Test.YtnhmnfmhnepjmaaGreatSta
set_option linter.unusedVariables false
set_option linter.unusedSimpArgs false
namespace Go.Proofs.YtnhmnfmhnepjmaaGreat
open Go.RowKit
theorem vdirs_eq (d : List DirD) : implIsValidDirs d = specIsValidDirs d := by
  unfold implIsValidDirs specIsValidDirs
  rw [forL_ext (f := implIsValidDirs_f0 d) (g := specIsValidDirs_f0 d) (e := implIsValidDirs_e0) (e' := specIsValidDirs_e0) (fun k a s => by
    unfold implIsValidDirs_f0 specIsValidDirs_f0
    rw [vq_eq, vstr_eq]
    cases specIsValidString a.1 <;> cases specIsValidQuery a.2 <;> cases decide (((k : Nat) : Int) > (0 : Int)) <;> simp) (fun _ _ => rfl)]
theorem place_eq (d : List DirD) (s : ByteArray) : specl11Place d s = impldirAt d s := rfl
theorem place_go (s : ByteArray) : ∀ (l : List DirD) (k : Nat), forL (specl11Place_f0 s) specl11Place_e0 l k () = .brk () ∨ ∃ i : Nat, i < l.length ∧ forL (specl11Place_f0 s) specl11Place_e0 l k () = .ret (((k + i : Nat)) : Int)
  | [], _ => .inl rfl
  | a :: l, k => by
    simp only [forL, specl11Place_f0]
    cases (a.1.toList == s.toList) with
    | true => exact .inr ⟨0, by simp, rfl⟩
    | false =>
      simp only [cond_false]
      rcases place_go s l (k + 1) with h | ⟨i, hi, h⟩
      · exact .inl h
      · exact .inr ⟨i + 1, by simpa using hi, by rw [h, show k + 1 + i = k + (i + 1) by omega]⟩
theorem place_lt (d : List DirD) (s : ByteArray) : -1 ≤ impldirAt d s ∧ impldirAt d s < (List.length d : Int) := by
  rw [← place_eq]
  unfold specl11Place
  rcases place_go s d 0 with h | ⟨i, hi, h⟩
  · rw [h]; simp only [Out.on]; omega
  · rw [h]; simp only [Out.on]; omega
theorem place_ltS (d : List DirD) (s : ByteArray) : -1 ≤ specl11Place d s ∧ specl11Place d s < (List.length d : Int) := place_lt d s
end Go.Proofs.YtnhmnfmhnepjmaaGreat
