/- The plain law of SucceededActions. No program in sight. -/
namespace Go.Proofs.Ytdhagfpgijcfbaa
/-- the elements that stand beside a 'true' -/
def succ {α : Type} : List α → List Bool → List α
  | a :: l, b :: m => if b then a :: succ l m else succ l m
  | _, _ => []
section
variable {α : Type}
theorem succ_nil (m : List Bool) : succ ([] : List α) m = [] := by cases m <;> rfl
theorem succ_none (l : List α) : succ l [] = [] := by cases l <;> rfl
theorem succ_yes : ∀ {l : List α} {m : List Bool} {k : Nat} {a : α} {b : Bool}, l[k]? = some a → m[k]? = some b → b = true → succ (l.take (k + 1)) m = succ (l.take k) m ++ [a]
  | [], _, _, _, _, h, _, _ => by simp at h
  | _ :: _, [], _, _, _, _, h, _ => by simp at h
  | x :: l, y :: m, 0, a, b, h, h', hb => by
    simp at h h'
    subst h h' hb
    simp [succ, succ_nil]
  | x :: l, y :: m, k + 1, a, b, h, h', hb => by
    have ih := succ_yes (l := l) (m := m) (k := k) (by simpa using h) (by simpa using h') hb
    cases y <;> simp [succ, ih]
theorem succ_no : ∀ {l : List α} {m : List Bool} {k : Nat} {a : α} {b : Bool}, l[k]? = some a → m[k]? = some b → b = false → succ (l.take (k + 1)) m = succ (l.take k) m
  | [], _, _, _, _, h, _, _ => by simp at h
  | _ :: _, [], _, _, _, _, h, _ => by simp at h
  | x :: l, y :: m, 0, a, b, h, h', hb => by
    simp at h h'
    subst h h' hb
    simp [succ, succ_nil]
  | x :: l, y :: m, k + 1, a, b, h, h', hb => by
    have ih := succ_no (l := l) (m := m) (k := k) (by simpa using h) (by simpa using h') hb
    cases y <;> simp [succ, ih]
theorem succ_no' {l : List α} {m : List Bool} {k : Nat} {b : Bool} (h' : m[k]? = some b) (hb : b = false) : succ (l.take (k + 1)) m = succ (l.take k) m := by
  cases h : l[k]? with
  | some a => exact succ_no h h' hb
  | none =>
    have := List.getElem?_eq_none_iff.1 h
    rw [List.take_of_length_le (by omega), List.take_of_length_le (by omega)]
theorem succ_past : ∀ {l : List α} {m : List Bool} {k : Nat}, m.length ≤ k → succ (l.take (k + 1)) m = succ (l.take k) m
  | [], _, _, _ => by simp
  | x :: l, [], k, _ => by rw [succ_none, succ_none]
  | x :: l, y :: m, 0, h => by simp at h
  | x :: l, y :: m, k + 1, h => by
    have ih := succ_past (l := l) (m := m) (k := k) (by simpa using h)
    cases y <;> simp [succ, ih]
theorem succ_min (l : List α) (m : List Bool) : succ (l.take (min l.length m.length)) m = succ l m := by
  induction l generalizing m with
  | nil => simp
  | cons x l ih =>
    cases m with
    | nil => rw [succ_none, succ_none]
    | cons y m =>
      have := ih m
      simp only [List.length_cons, Nat.succ_min_succ, List.take_succ_cons, succ, this]
theorem succ_len (l : List α) (m : List Bool) : (succ l m).length ≤ l.length := by
  induction l generalizing m with
  | nil => simp [succ_nil]
  | cons x l ih =>
    cases m with
    | nil => simp [succ_none]
    | cons y m => have := ih m; cases y <;> simp [succ] <;> omega
end
end Go.Proofs.Ytdhagfpgijcfbaa
