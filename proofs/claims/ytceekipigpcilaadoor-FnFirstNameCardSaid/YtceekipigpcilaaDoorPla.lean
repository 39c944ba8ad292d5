/- The twelve places of a draw: how many, how large. -/
import Derived.Test.YtceekipigpcilaaDoorCue
set_option linter.unusedVariables false
set_option linter.unusedSimpArgs false
namespace Go.Proofs.YtceekipigpcilaaDoor
open Go.RowKit
theorem places_go (code : List UInt8) : ∀ (n k : Nat) (s : List Int × Nat × Int), s.1.length = k → (∀ x, x ∈ s.1 → 0 ≤ x ∧ x < 10000) → ∃ t, forN (specDrawPlaces_f0 code) specDrawPlaces_e0 n k s = .brk t ∧ t.length = k + n ∧ ∀ x, x ∈ t → 0 ≤ x ∧ x < 10000
  | 0, k, s, h, hb => ⟨s.1, rfl, h, hb⟩
  | n + 1, k, s, h, hb => by
    simp only [forN, specDrawPlaces_f0, lt]
    have hd := specl01Below_bd code s.2.1 s.2.2 10000
    obtain ⟨t, h1, h2, h3⟩ := places_go code n (k + 1) (s.1 ++ [(specl01Below code s.2.1 s.2.2 10000).1], (specl01Below code s.2.1 s.2.2 10000).2.1, (specl01Below code s.2.1 s.2.2 10000).2.2) (by simp [h]) (fun x hx => by
      rcases List.mem_append.1 hx with hx | hx
      · exact hb x hx
      · obtain rfl := List.mem_singleton.1 hx
        exact ⟨hd.1, hd.2.1 (by decide)⟩)
    exact ⟨t, h1, by omega, h3⟩
theorem places_ok (code : List UInt8) : (specDrawPlaces code).length = 12 ∧ ∀ x, x ∈ specDrawPlaces code → 0 ≤ x ∧ x < 10000 := by
  unfold specDrawPlaces lt
  obtain ⟨t, h1, h2, h3⟩ := places_go code (Int.toNat (12 : Int)) 0 ([], (specl01New code).1, (specl01New code).2) rfl (fun x hx => by simp at hx)
  simp only [h1, Out.on]
  exact ⟨by simpa using h2, h3⟩
theorem places_len (code : List UInt8) : (specDrawPlaces code).length = 12 := (places_ok code).1
theorem places_bd (code : List UInt8) : ∀ x, x ∈ specDrawPlaces code → 0 ≤ x ∧ x < 10000 := (places_ok code).2
theorem place_mod (code : List UInt8) (i : Nat) (hi : i < 12) {m : Int} (hm : 0 < m) : (0 ≤ nth (specDrawPlaces code) i ∧ nth (specDrawPlaces code) i < 10000) ∧ 0 ≤ Int.tmod (nth (specDrawPlaces code) i) m ∧ Int.tmod (nth (specDrawPlaces code) i) m < m := by
  have h := places_bd code _ (List.mem_of_getElem? (nth_get (l := specDrawPlaces code) (i := i) (by rw [places_len]; exact hi)))
  exact ⟨h, Int.tmod_nonneg _ h.1, Int.tmod_lt_of_pos _ hm⟩
end Go.Proofs.YtceekipigpcilaaDoor
