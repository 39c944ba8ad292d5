/- Work lists: a list that grows by new names of a fixed stock while it is gone through ends. No program in sight. -/
import Derived.Test.YtiafgmepdgfpbaaZc
set_option linter.unusedVariables false
set_option linter.unusedSimpArgs false
namespace Go.Proofs.Ytiafgmepdgfpbaa
theorem nodup_le {α : Type} [DecidableEq α] : ∀ {l N : List α}, l.Nodup → (∀ x, x ∈ l → x ∈ N) → l.length ≤ N.length
  | [], _, _, _ => Nat.zero_le _
  | a :: l, N, hn, hs => by
    have hn' := List.nodup_cons.1 hn
    have ha := hs a (List.mem_cons_self ..)
    have h := nodup_le (l := l) (N := N.erase a) hn'.2 fun x hx => (List.mem_erase_of_ne (fun e : x = a => hn'.1 (by rw [← e]; exact hx))).2 (hs x (List.mem_cons_of_mem _ hx))
    rw [List.length_erase_of_mem ha] at h
    have : 0 < N.length := List.length_pos_of_mem ha
    rw [List.length_cons]
    omega
def Fresh {α : Type} (N out out' : List α) : Prop := ∃ new : List α, out' = out ++ new ∧ new.Nodup ∧ ∀ x, x ∈ new → x ∉ out ∧ x ∈ N
theorem Fresh.refl {α : Type} (N out : List α) : Fresh N out out := ⟨[], by simp, List.nodup_nil, by simp⟩
theorem Fresh.one {α : Type} {N out : List α} {x : α} (h1 : x ∉ out) (h2 : x ∈ N) : Fresh N out (out ++ [x]) := ⟨[x], rfl, by simp, by simp [h1, h2]⟩
theorem Fresh.trans {α : Type} {N a b c : List α} (h : Fresh N a b) (k : Fresh N b c) : Fresh N a c := by
  obtain ⟨p, rfl, h1, h2⟩ := h
  obtain ⟨q, rfl, k1, k2⟩ := k
  refine ⟨p ++ q, by rw [List.append_assoc], List.nodup_append.2 ⟨h1, k1, fun x hx y hy e => ?_⟩, fun x hx => ?_⟩
  · subst e
    exact (k2 _ hy).1 (List.mem_append_right _ hx)
  · rcases List.mem_append.1 hx with hx | hx
    · exact h2 x hx
    · exact ⟨fun h => (k2 x hx).1 (List.mem_append_left _ h), (k2 x hx).2⟩
theorem fresh_len {α : Type} [DecidableEq α] {N a b : List α} (h : Fresh N a b) : b.length ≤ a.length + N.length := by
  obtain ⟨new, rfl, h1, h2⟩ := h
  have := nodup_le h1 fun x hx => (h2 x hx).2
  rw [List.length_append]
  omega
theorem work_go {α R T : Type} [DecidableEq α] {N names : List α} {f : List α × Int → Rd R (List α × Int) T}
    (hf : ∀ out i s', 0 ≤ i → out.length ≤ names.length + N.length → f (out, i) = .next s' → i < (out.length : Int) ∧ s'.2 = i + 1 ∧ Fresh N out s'.1) : ∀ (n : Nat) (out : List α) (i : Int), 0 ≤ i → Fresh N names out → (names.length : Int) + N.length ≤ i + n → (whl f (n + 1) (out, i)).isSome = true
  | n, out, i, h0, hF, hn => by
    simp only [whl]
    cases hc : f (out, i) with
    | brk t => rfl
    | ret r => rfl
    | next s' =>
      have hl := fresh_len hF
      obtain ⟨h1, h2, h3⟩ := hf out i s' h0 hl hc
      cases n with
      | zero => omega
      | succ n =>
        obtain ⟨o', i'⟩ := s'
        obtain rfl : i' = i + 1 := h2
        exact work_go hf n o' (i + 1) (by omega) (hF.trans h3) (by omega)
theorem work_some {α R T : Type} [DecidableEq α] {N names : List α} {f : List α × Int → Rd R (List α × Int) T}
    (hf : ∀ out i s', 0 ≤ i → out.length ≤ names.length + N.length → f (out, i) = .next s' → i < (out.length : Int) ∧ s'.2 = i + 1 ∧ Fresh N out s'.1) : (whl f (List.length names + List.length N + 1) (names, 0)).isSome = true :=
  work_go hf _ names 0 (Int.le_refl 0) (Fresh.refl N names) (by omega)
end Go.Proofs.Ytiafgmepdgfpbaa
