/- Loops that only leave by their end. No program in sight. -/
import Derived.Test.YtiafgmepdgfpbaaZc
set_option linter.unusedVariables false
set_option linter.unusedSimpArgs false
namespace Go.Proofs.Ytiafgmepdgfpbaa
open Go.RowKit
theorem whl_noret {R S T : Type} {f : S → Rd R S T} (hf : ∀ s r, f s ≠ .ret r) : ∀ n s r, whl f n s ≠ some (.ret r)
  | 0, _, _ => by simp [whl]
  | n + 1, s, r => by
    simp only [whl]
    cases h : f s with
    | next s' => exact whl_noret hf n s' r
    | brk t => simp
    | ret r' => exact absurd h (hf s r')
theorem whlD_brk {R S T : Type} [Inhabited T] {f : S → Rd R S T} (hf : ∀ s r, f s ≠ .ret r) (n : Nat) (s : S) : ∃ t, whlD f n s = .brk t := by
  unfold whlD
  cases h : whl f n s with
  | none => exact ⟨default, rfl⟩
  | some o =>
    cases o with
    | brk t => exact ⟨t, rfl⟩
    | ret r => exact absurd h (whl_noret hf n s r)
theorem whl_inv {R S T : Type} {f : S → Rd R S T} (I : S → Prop) (J : T → Prop) (hn : ∀ s s', I s → f s = .next s' → I s') (hb : ∀ s t, I s → f s = .brk t → J t) : ∀ n s t, I s → whl f n s = some (.brk t) → J t
  | 0, _, _, _, h => by simp [whl] at h
  | n + 1, s, t, hi, h => by
    simp only [whl] at h
    cases hs : f s with
    | next s' => rw [hs] at h; exact whl_inv I J hn hb n s' t (hn s s' hi hs) h
    | brk t' =>
      rw [hs] at h
      obtain rfl : t' = t := by simpa using h
      exact hb s t' hi hs
    | ret r => rw [hs] at h; simp at h
theorem whlD_inv {R S T : Type} [Inhabited T] {f : S → Rd R S T} (I : S → Prop) (J : T → Prop) (hn : ∀ s s', I s → f s = .next s' → I s') (hb : ∀ s t, I s → f s = .brk t → J t) {n : Nat} {s : S} {t : T} (hi : I s) (hw : (whl f n s).isSome = true) (h : whlD f n s = .brk t) : J t :=
  whl_inv I J hn hb n s t hi (by rw [whl_some hw, h])
theorem forL_noret {α R S T : Type} {f : Nat → α → S → Rd R S T} {e : Nat → S → T} (hf : ∀ k a s r, f k a s ≠ .ret r) : ∀ (l : List α) (k : Nat) (s : S), ∃ t, forL f e l k s = .brk t
  | [], k, s => ⟨_, rfl⟩
  | a :: l, k, s => by
    simp only [forL]
    cases h : f k a s with
    | next s' => exact forL_noret hf l (k + 1) s'
    | brk t => exact ⟨t, rfl⟩
    | ret r => exact absurd h (hf k a s r)
theorem forN_inv {R S T : Type} {f : Nat → S → Rd R S T} {e : Nat → S → T} (I : Nat → S → Prop) (hn : ∀ k s, I k s → ∃ s', f k s = .next s' ∧ I (k + 1) s') : ∀ (n k : Nat) (s : S), I k s → ∃ s', forN f e n k s = .brk (e (k + n) s') ∧ I (k + n) s'
  | 0, k, s, h => ⟨s, rfl, h⟩
  | n + 1, k, s, h => by
    obtain ⟨s', h1, h2⟩ := hn k s h
    obtain ⟨t, h3, h4⟩ := forN_inv I hn n (k + 1) s' h2
    rw [show k + 1 + n = k + (n + 1) by omega] at h3 h4
    exact ⟨t, by simp only [forN, h1]; exact h3, h4⟩
theorem whl_upI {R S T : Type} {f : S → Rd R S T} (I : S → Prop) (m : S → Int) (N : Int) (h : ∀ s s', I s → f s = .next s' → m s < N ∧ m s' = m s + 1 ∧ I s') : ∀ (n : Nat) (s : S), I s → N ≤ m s + n → (whl f (n + 1) s).isSome = true
  | 0, s, hi, hn => by
    simp only [whl]
    cases hs : f s with
    | next s' => have := (h s s' hi hs).1; omega
    | brk t => rfl
    | ret r => rfl
  | n + 1, s, hi, hn => by
    rw [whl]
    cases hs : f s with
    | next s' =>
      obtain ⟨h1, h2, h3⟩ := h s s' hi hs
      exact whl_upI I m N h n s' h3 (by omega)
    | brk t => rfl
    | ret r => rfl
theorem lt_any {α R : Type} {t : α} {f : α → R} {P : R → Prop} (Q : α → Prop) (h : Q t) (k : ∀ x, Q x → P (f x)) : P (lt t f) := k t h
end Go.Proofs.Ytiafgmepdgfpbaa
