/- What a user is shown: both sides alike; how long it is. -/
import Derived.Test.YtnhmnfmhnepjmaaGreatEua
set_option linter.unusedVariables false
set_option linter.unusedSimpArgs false
namespace Go.Proofs.YtnhmnfmhnepjmaaGreat
open Go.RowKit
theorem forL_forN {α R S T : Type} {f : Nat → α → S → Rd R S T} {g : Nat → S → Rd R S T} {e e' : Nat → S → T} (hf : ∀ k a s, f k a s = g k s) (he : ∀ k s, e k s = e' k s) : ∀ (l : List α) (k : Nat) (s : S), forL f e l k s = forN g e' l.length k s
  | [], k, s => by simp [forL, forN, he]
  | a :: l, k, s => by
    simp only [forL, forN, List.length_cons, hf]
    cases g k s with
    | next s' => exact forL_forN hf he l (k + 1) s'
    | brk t => rfl
    | ret r => rfl
theorem visible_eq (s : StoreD) (u : Int) : specVisibleStore s u = implVisibleStore s u := by
  unfold specVisibleStore implVisibleStore
  rw [forL_congr (f := specVisibleStore_f0 u) (g := implVisibleStore_f0 u) (e := specVisibleStore_e0) (e' := implVisibleStore_e0) (fun _ _ => rfl) s.2.1 0 _ (fun i a t _ => rfl)]
  congr 1
  funext y
  rw [forL_forN (f := implVisibleStore_f1 s) (g := specVisibleStore_f1 s) (e := implVisibleStore_e1) (e' := specVisibleStore_e1) (fun _ _ _ => rfl) (fun _ _ => rfl)]
theorem evalUser_eq (s : StoreD) (d : List DirD) (u : Int) : specEvaluateForUser s d u = implEvaluateForUser s d u := by
  unfold specEvaluateForUser implEvaluateForUser
  rw [store_eq, visible_eq, evaluate_eq]
  have h : specl01In u 0 2 = implisUser u := rfl
  rw [h, Bool.or_comm]
theorem store12 {s : StoreD} (h : implIsValidStore s = true) : s.2.1.length ≤ 12 := by
  unfold implIsValidStore at h
  cases hf : forL (implIsValidStore_f0 s) implIsValidStore_e0 s.2.1 0 () with
  | brk t =>
    rw [hf] at h
    simp only [Out.on, Bool.and_eq_true, decide_eq_true_eq] at h
    omega
  | ret r =>
    rw [hf] at h
    obtain rfl : r = true := h
    exfalso
    have key : ∀ (l : List FileD) k, forL (implIsValidStore_f0 s) implIsValidStore_e0 l k () ≠ .ret true := by
      intro l
      induction l with
      | nil => intro k h; simp [forL] at h
      | cons a l ih =>
        intro k h
        simp only [forL] at h
        unfold implIsValidStore_f0 at h
        split at h
        · rename_i hf; exact ih _ h
        · cases h
        · rename_i r hf; cases h; revert hf; generalize (_ || _ : Bool) = c; cases c <;> simp
    exact key _ _ hf
theorem user_ok (s : StoreD) (d : List DirD) (u : Int) : ((implEvaluateForUser s d u)).1.length ≤ 5 ∧ ∀ x, x ∈ ((implEvaluateForUser s d u)).1 → x.2.length ≤ 12 := by
  unfold implEvaluateForUser
  cases hc : ((!(implIsValidStore s)) || (!(implisUser u))) with
  | true => exact ⟨Nat.zero_le _, fun x hx => by simp at hx⟩
  | false =>
    simp only [cond_false]
    cases he : (implEvaluate (implVisibleStore s u) d).2 with
    | false => rw [evaluate_no he]; exact ⟨Nat.zero_le _, fun x hx => by simp at hx⟩
    | true =>
      obtain ⟨h1, h2, h3, h4⟩ := evaluate_ok he
      have h5 := store12 h2
      have hlen := congrArg List.length h3
      rw [List.length_map, List.length_map] at hlen
      exact ⟨by omega, fun x hx => Nat.le_trans (h4 x hx) h5⟩
theorem user_len (s : StoreD) (d : List DirD) (u : Int) : ((implEvaluateForUser s d u)).1.length ≤ 5 := (user_ok s d u).1
theorem user_short {s : StoreD} {d : List DirD} {u : Int} {k : Nat} {x : ResultD} (h : ((implEvaluateForUser s d u)).1[k]? = some x) : x.2.length ≤ 12 := (user_ok s d u).2 x (List.mem_of_getElem? h)
theorem user_lenS (s : StoreD) (d : List DirD) (u : Int) : ((specEvaluateForUser s d u)).1.length ≤ 5 := by rw [evalUser_eq]; exact user_len s d u
theorem user_shortS {s : StoreD} {d : List DirD} {u : Int} {k : Nat} {x : ResultD} (h : ((specEvaluateForUser s d u)).1[k]? = some x) : x.2.length ≤ 12 := by rw [evalUser_eq] at h; exact user_short h
theorem ints_size (l : List Int) : GoD.size l = l.length := size_plain (fun _ => rfl)
end Go.Proofs.YtnhmnfmhnepjmaaGreat
