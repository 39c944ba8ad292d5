/- Loops as folds: plain facts. No program in sight. -/
import Derived.Test.YtjkfmihbmkbjfaaGreatWd
namespace Go.Proofs.YtjkfmihbmkbjfaaGreat

section
variable {α R S T : Type} {f g : Nat → α → S → Rd R S T} {e e' : Nat → S → T}
theorem forL_congr (he : ∀ k s, e k s = e' k s) : ∀ (l : List α) (k : Nat) (s : S), (∀ i a s, l[i]? = some a → f (k + i) a s = g (k + i) a s) → forL f e l k s = forL g e' l k s
  | [], k, s, _ => by simp only [forL, he]
  | a :: l, k, s, h => by
    have h0 := h 0 a s rfl
    simp only [forL]
    rw [Nat.add_zero] at h0
    rw [h0]
    cases g k a s with
    | next s' =>
      refine forL_congr he l (k + 1) s' fun i a s hi => ?_
      have := h (i + 1) a s (by simpa using hi)
      rwa [show k + (i + 1) = k + 1 + i by omega] at this
    | brk t => rfl
    | ret r => rfl
theorem forL_ext (hf : ∀ k a s, f k a s = g k a s) (he : ∀ k s, e k s = e' k s) (l : List α) (k : Nat) (s : S) : forL f e l k s = forL g e' l k s := forL_congr he l k s fun _ _ _ _ => hf _ _ _
end
section
variable {R S T : Type} {f g : Nat → S → Rd R S T} {e e' : Nat → S → T}
theorem forN_congr (he : ∀ k s, e k s = e' k s) : ∀ (n k : Nat) (s : S), (∀ i s, k ≤ i → i < k + n → f i s = g i s) → forN f e n k s = forN g e' n k s
  | 0, k, s, _ => by simp only [forN, he]
  | n + 1, k, s, h => by
    simp only [forN]
    rw [h k s (Nat.le_refl _) (by omega)]
    cases g k s with
    | next s' => exact forN_congr he n (k + 1) s' fun i s h1 h2 => h i s (by omega) (by omega)
    | brk t => rfl
    | ret r => rfl
end
section
variable {α R T : Type} {f : Nat → α → Unit → Rd R Unit T} {e : Nat → Unit → T}
/-- a loop without state that runs to its end: no round left it -/
theorem forL_all (hb : ∀ k a t, f k a () ≠ .brk t) : ∀ {l : List α} {k : Nat} {t : T}, forL f e l k () = .brk t → ∀ (i : Nat) (a : α), l[i]? = some a → f (k + i) a () = .next ()
  | [], _, _, _, i, a, hi => by simp at hi
  | x :: l, k, t, h, i, a, hi => by
    simp only [forL] at h
    cases hf : f k x () with
    | next s' =>
      rw [hf] at h
      cases i with
      | zero => obtain rfl : x = a := by simpa using hi
                exact hf
      | succ i =>
        have := forL_all hb (k := k + 1) h i a (by simpa using hi)
        rwa [show k + 1 + i = k + (i + 1) by omega] at this
    | brk t' => exact (hb k x t' hf).elim
    | ret r => rw [hf] at h; cases h
/-- .. and the other way round -/
theorem forL_of_all : ∀ (l : List α) (k : Nat), (∀ i a, l[i]? = some a → f (k + i) a () = .next ()) → forL f e l k () = .brk (e (k + l.length) ())
  | [], k, _ => by simp [forL]
  | x :: l, k, h => by
    have h0 := h 0 x rfl
    rw [Nat.add_zero] at h0
    simp only [forL, h0]
    rw [forL_of_all l (k + 1) fun i a hi => by
      have := h (i + 1) a (by simpa using hi)
      rwa [show k + (i + 1) = k + 1 + i by omega] at this]
    rw [List.length_cons, show k + 1 + l.length = k + (l.length + 1) by omega]
end
/-- lists filtered and turned -/
theorem forL_filter {α β R T : Type} {f : Nat → α → List β → Rd R (List β) T} {e : Nat → List β → T} {p : α → Bool} {g : α → β} (hf : ∀ k a s, f k a s = (bif p a then .next (s ++ [g a]) else .next s)) : ∀ (l : List α) (k : Nat) (s : List β), forL f e l k s = .brk (e (k + l.length) (s ++ (l.filter p).map g))
  | [], k, s => by simp [forL]
  | a :: l, k, s => by
    simp only [forL, hf]
    cases hp : p a with
    | true => simp only [cond_true]; rw [forL_filter hf l (k + 1), show k + 1 + l.length = k + (l.length + 1) by omega]; simp [hp]
    | false => simp only [cond_false]; rw [forL_filter hf l (k + 1), show k + 1 + l.length = k + (l.length + 1) by omega]; simp [hp]
theorem forL_map {α β R T : Type} {f : Nat → α → List β → Rd R (List β) T} {e : Nat → List β → T} {g : α → β} (hf : ∀ k a s, f k a s = .next (s ++ [g a])) : ∀ (l : List α) (k : Nat) (s : List β), forL f e l k s = .brk (e (k + l.length) (s ++ l.map g))
  | [], k, s => by simp [forL]
  | a :: l, k, s => by
    simp only [forL, hf]
    rw [forL_map hf l (k + 1), show k + 1 + l.length = k + (l.length + 1) by omega]
    simp
theorem on_brk {R T : Type} (t : T) (f : T → R) : (Out.brk t).on f = f t := rfl
theorem on_ret {R T : Type} (r : R) (f : T → R) : (Out.ret r : Out R T).on f = r := rfl
end Go.Proofs.YtjkfmihbmkbjfaaGreat
