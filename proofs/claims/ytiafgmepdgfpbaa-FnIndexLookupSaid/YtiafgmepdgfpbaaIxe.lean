/- What an index holds: the IDs of the files that have the attribute. -/
import Derived.Test.YtiafgmepdgfpbaaIxc
set_option linter.unusedVariables false
set_option linter.unusedSimpArgs false
namespace Go.Proofs.Ytiafgmepdgfpbaa
open Go.RowKit
def lk (ix : List PostingD) (n : ByteArray) (v : ValueD) : List Int := match ix.find? (fun p => implpostingAt_1 p n v) with
  | some p => p.2.2
  | none => []
theorem postP (p : PostingD) (n : ByteArray) (v : ValueD) : implpostingAt_1 p n v = true ↔ p.1 = n ∧ p.2.1 = v := by
  unfold implpostingAt_1
  rw [Bool.and_eq_true, bytesE, valE]
theorem ixF_find {α : Type} [Inhabited α] (p : α → Bool) : ∀ l : List α, (ixF p l < 0 → l.find? p = none) ∧ (0 ≤ ixF p l → l.find? p = some (nth l (Int.toNat (ixF p l))))
  | [] => ⟨fun _ => rfl, fun h => by simp [ixF] at h⟩
  | a :: l => by
    obtain ⟨h1, h2⟩ := ixF_find p l
    have hb := ixF_bd p l
    cases hp : p a with
    | true => simp [ixF, hp, nth]
    | false =>
      simp only [ixF, hp, cond_false, List.find?_cons_of_neg (a := a) (l := l) (p := p) (by simp [hp])]
      by_cases h : ixF p l = -1
      · rw [h]
        exact ⟨fun _ => h1 (by omega), fun h' => by simp at h'⟩
      · rw [beq_eq_false_iff_ne.2 h, cond_false]
        refine ⟨fun h' => by omega, fun _ => ?_⟩
        rw [h2 (by omega), show (ixF p l + 1).toNat = (ixF p l).toNat + 1 by omega]
        rfl
theorem lookI (ix : List PostingD) (n : ByteArray) (v : ValueD) : implLookupIndex ix n v = lk ix n v := by
  unfold implLookupIndex lk
  have e : implpostingAt ix n v = ixF (fun p : PostingD => implpostingAt_1 p n v) ix := slicesIndexFunc_Posting_implpostingAt_1_ix ix n v
  rw [e]
  obtain ⟨h1, h2⟩ := ixF_find (fun p : PostingD => implpostingAt_1 p n v) ix
  by_cases h : ixF (fun p : PostingD => implpostingAt_1 p n v) ix < 0
  · rw [decide_eq_false (by omega), cond_false, h1 h]
  · rw [decide_eq_true (by omega), cond_true, h2 (by omega)]
theorem lookS (ix : List PostingD) (n : ByteArray) (v : ValueD) : specLookupIndex ix n v = lk ix n v := by
  unfold specLookupIndex lk
  have key : ∀ (l : List PostingD) (k : Nat), Out.on (forL (specLookupIndex_f0 n v) specLookupIndex_e0 l k ()) (fun _ => []) = match l.find? (fun p => implpostingAt_1 p n v) with
    | some p => p.2.2
    | none => [] := by
    intro l
    induction l with
    | nil => intro k; rfl
    | cons a l ih =>
      intro k
      simp only [forL, specLookupIndex_f0]
      have e : ((a.1.toList == n.toList) && ((a.2.1.1 == v.1) && ((a.2.1.2.1 == v.2.1) && ((a.2.1.2.2.toList == v.2.2.toList) && true)))) = implpostingAt_1 a n v := rfl
      rw [e]
      cases hp : implpostingAt_1 a n v with
      | true => rw [List.find?_cons_of_pos (by simpa using hp)]; rfl
      | false => rw [List.find?_cons_of_neg (by simp [hp])]; exact ih (k + 1)
  exact key ix 0
theorem find_put {α : Type} {p : α → Bool} {y : α} : ∀ (j : Nat) (l : List α), (p y = false → (List.take j l ++ [y] ++ List.drop j l).find? p = l.find? p) ∧ (p y = true → l.find? p = none → (List.take j l ++ [y] ++ List.drop j l).find? p = some y)
  | 0, l => by
    refine ⟨fun h => ?_, fun h _ => ?_⟩
    · simp [List.find?_cons_of_neg (a := y) (l := l) (p := p) (by simp [h])]
    · simp [List.find?_cons_of_pos (a := y) (l := l) (p := p) h]
  | _ + 1, [] => by
    refine ⟨fun h => ?_, fun h _ => ?_⟩
    · simp [h]
    · simp [h]
  | j + 1, a :: l => by
    obtain ⟨h1, h2⟩ := find_put (p := p) (y := y) j l
    simp only [List.take_succ_cons, List.drop_succ_cons, List.cons_append]
    cases hp : p a with
    | true => exact ⟨fun _ => by rw [List.find?_cons_of_pos hp, List.find?_cons_of_pos hp], fun _ h => by rw [List.find?_cons_of_pos hp] at h; cases h⟩
    | false =>
      rw [List.find?_cons_of_neg (by simp [hp]), List.find?_cons_of_neg (by simp [hp])]
      exact ⟨h1, h2⟩
theorem find_set {α : Type} {p q : α → Bool} {x y : α} : ∀ (l : List α) (j : Nat), l[j]? = some x → l.find? q = some x → (∀ i a, i < j → l[i]? = some a → q a = false) → p y = p x → (p x = true → p = q) →
    (p x = false → (List.set l j y).find? p = l.find? p) ∧ (p x = true → (List.set l j y).find? p = some y)
  | [], j, h, _, _, _, _ => by simp at h
  | a :: l, 0, h, _, _, hy, _ => by
    obtain rfl : a = x := by simpa using h
    refine ⟨fun h1 => ?_, fun h1 => ?_⟩
    · rw [List.set_cons_zero, List.find?_cons_of_neg (by simp [hy, h1]), List.find?_cons_of_neg (by simp [h1])]
    · rw [List.set_cons_zero, List.find?_cons_of_pos (by rw [hy]; exact h1)]
  | a :: l, j + 1, h, hq, hbefore, hy, hpq => by
    have ha : q a = false := hbefore 0 a (Nat.zero_lt_succ j) rfl
    rw [List.find?_cons_of_neg (by simp [ha])] at hq
    obtain ⟨h1, h2⟩ := find_set (p := p) l j (by simpa using h) hq (fun i b hi hb => hbefore (i + 1) b (by omega) (by simpa using hb)) hy hpq
    rw [List.set_cons_succ]
    refine ⟨fun hx => ?_, fun hx => ?_⟩
    · cases hp : p a with
      | true => rw [List.find?_cons_of_pos hp, List.find?_cons_of_pos hp]
      | false => rw [List.find?_cons_of_neg (by simp [hp]), List.find?_cons_of_neg (by simp [hp])]; exact h1 hx
    · have : p a = false := by rw [hpq hx]; exact ha
      rw [List.find?_cons_of_neg (by simp [this])]
      exact h2 hx
theorem ixF_before {α : Type} (p : α → Bool) : ∀ (l : List α) (i : Nat) (a : α), (i : Int) < ixF p l → l[i]? = some a → p a = false
  | [], i, a, _, h => by simp at h
  | b :: l, i, a, hi, h => by
    cases hp : p b with
    | true => simp [ixF, hp] at hi; omega
    | false =>
      cases i with
      | zero => obtain rfl : b = a := by simpa using h
                exact hp
      | succ i =>
        refine ixF_before p l i a ?_ (by simpa using h)
        simp only [ixF, hp, cond_false] at hi
        by_cases h1 : ixF p l = -1
        · rw [h1] at hi; simp at hi; omega
        · rw [beq_eq_false_iff_ne.2 h1, cond_false] at hi; omega
def ixStep (f : FileD) (a : AttrD) (s : List PostingD) : List PostingD := bif decide ((implpostingAt s a.1 a.2) < (0 : Int)) then List.take (Int.toNat (bif decide (ixF (fun p : PostingD => implAddToIndex_1 p a) s < 0) then (s.length : Int) else ixF (fun p : PostingD => implAddToIndex_1 p a) s)) s ++ [(a.1, a.2, [f.1])] ++ List.drop (Int.toNat (bif decide (ixF (fun p : PostingD => implAddToIndex_1 p a) s < 0) then (s.length : Int) else ixF (fun p : PostingD => implAddToIndex_1 p a) s)) s
  else List.set s (Int.toNat (implpostingAt s a.1 a.2)) ((nth s (Int.toNat (implpostingAt s a.1 a.2))).1, (nth s (Int.toNat (implpostingAt s a.1 a.2))).2.1, specl07PutId ((nth s (Int.toNat (implpostingAt s a.1 a.2))).2.2) f.1)
theorem step_next (f : FileD) (k : Nat) (a : AttrD) (s : List PostingD) : implAddToIndex_f0 f k a s = .next (ixStep f a s) := by
  rw [← addIx_step]
  unfold specAddToIndex_f0 ixStep
  rw [brk_ix (p := fun p : PostingD => implpostingAt_1 p a.1 a.2) (f := specAddToIndex_f1 a) (e := specAddToIndex_e1) (fun k p s => by unfold specAddToIndex_f1; rw [same_post]; cases implpostingAt_1 p a.1 a.2 <;> rfl) (fun _ _ => rfl)]
  rw [brk_ix (p := fun p : PostingD => implAddToIndex_1 p a) (f := specAddToIndex_f2 a) (e := specAddToIndex_e2) (fun k p s => by unfold specAddToIndex_f2; rw [behind_eq]; cases implAddToIndex_1 p a <;> rfl) (fun _ _ => rfl)]
  have e1 : implpostingAt s a.1 a.2 = ixF (fun p : PostingD => implpostingAt_1 p a.1 a.2) s := slicesIndexFunc_Posting_implpostingAt_1_ix s a.1 a.2
  rw [e1]
  have hb := ixF_bd (fun p : PostingD => implpostingAt_1 p a.1 a.2) s
  generalize ixF (fun p : PostingD => implpostingAt_1 p a.1 a.2) s = z at hb
  have e0 : ∀ x : Int, ((0 : Nat) : Int) + x = x := fun x => by simp
  simp only [Out.on, e0]
  by_cases hz : z < 0
  · simp only [decide_eq_true hz, cond_true, decide_eq_false (by simp : ¬ (s.length : Int) < (s.length : Int)), cond_false]
  · simp only [decide_eq_false hz, cond_false, decide_eq_true hb.2, cond_true]
theorem mem_put (l : List Int) (n x : Int) : x ∈ specl07PutId l n ↔ x = n ∨ x ∈ l := by
  unfold specl07PutId
  rw [brk_ix (p := fun a : Int => !(decide (a < n))) (f := specl07PutId_f0 n) (e := specl07PutId_e0) (fun k a s => by unfold specl07PutId_f0; cases decide (a < n) <;> rfl) (fun _ _ => rfl)]
  have key : ∀ y0 : Int, 0 ≤ y0 → (x ∈ (bif (decide (y0 < (l.length : Int)) && ((nth l (Int.toNat y0)) == n)) then l else List.take (Int.toNat y0) l ++ [n] ++ (List.drop (Int.toNat y0) l)) ↔ x = n ∨ x ∈ l) := by
    intro y0 hy0
    cases hc : (decide (y0 < (l.length : Int)) && ((nth l (Int.toNat y0)) == n)) with
    | true =>
      simp only [Bool.and_eq_true, decide_eq_true_eq, beq_iff_eq] at hc
      refine ⟨.inr, fun h => h.elim (fun e => ?_) id⟩
      by_cases h0 : Int.toNat y0 < l.length
      · rw [e, ← hc.2]; exact List.mem_of_getElem? (nth_get h0)
      · omega
    | false =>
      rw [cond_false]
      conv => rhs; rw [← List.take_append_drop (Int.toNat y0) l]
      simp only [List.mem_append, List.mem_singleton]
      constructor
      · rintro ((h | h) | h)
        · exact .inr (.inl h)
        · exact .inl h
        · exact .inr (.inr h)
      · rintro (h | h | h)
        · exact .inl (.inr h)
        · exact .inl (.inl h)
        · exact .inr h
  have hb := ixF_bd (fun a : Int => !(decide (a < n))) l
  refine key _ ?_
  by_cases h : ixF (fun a : Int => !(decide (a < n))) l < 0
  · rw [decide_eq_true h, cond_true]; omega
  · rw [decide_eq_false h, cond_false]; omega
theorem lk_step (f : FileD) (a : AttrD) (s : List PostingD) (n : ByteArray) (v : ValueD) (x : Int) : x ∈ lk (ixStep f a s) n v ↔ (x = f.1 ∧ a.1 = n ∧ a.2 = v) ∨ x ∈ lk s n v := by
  have e1 : implpostingAt s a.1 a.2 = ixF (fun p : PostingD => implpostingAt_1 p a.1 a.2) s := slicesIndexFunc_Posting_implpostingAt_1_ix s a.1 a.2
  obtain ⟨f1, f2⟩ := ixF_find (fun p : PostingD => implpostingAt_1 p a.1 a.2) s
  have hbef := ixF_before (fun p : PostingD => implpostingAt_1 p a.1 a.2) s
  have hb := ixF_bd (fun p : PostingD => implpostingAt_1 p a.1 a.2) s
  unfold ixStep
  rw [e1]
  generalize (bif decide (ixF (fun p : PostingD => implAddToIndex_1 p a) s < 0) then (s.length : Int) else ixF (fun p : PostingD => implAddToIndex_1 p a) s) = t
  generalize ixF (fun p : PostingD => implpostingAt_1 p a.1 a.2) s = z at f1 f2 hbef hb
  by_cases hz : z < 0
  · rw [decide_eq_true hz, cond_true]
    obtain ⟨g1, g2⟩ := find_put (p := fun p : PostingD => implpostingAt_1 p n v) (y := ((a.1, a.2, [f.1]) : PostingD)) (Int.toNat t) s
    unfold lk
    by_cases hm : a.1 = n ∧ a.2 = v
    · obtain ⟨rfl, rfl⟩ := hm
      rw [g2 ((postP _ _ _).2 ⟨rfl, rfl⟩) (f1 hz), f1 hz]
      simp
    · have : implpostingAt_1 ((a.1, a.2, [f.1]) : PostingD) n v = false := by
        cases h : implpostingAt_1 ((a.1, a.2, [f.1]) : PostingD) n v with
        | false => rfl
        | true => exact absurd ((postP _ _ _).1 h) hm
      rw [g1 this]
      exact ⟨.inr, fun h => h.elim (fun h => absurd h.2 hm) id⟩
  · rw [decide_eq_false hz, cond_false]
    have hf := f2 (by omega)
    have hg := nth_get (l := s) (i := Int.toNat z) (by omega)
    have hx := List.find?_some hf
    obtain ⟨k1, k2⟩ := (postP _ _ _).1 hx
    obtain ⟨g1, g2⟩ := find_set (p := fun p : PostingD => implpostingAt_1 p n v) (q := fun p : PostingD => implpostingAt_1 p a.1 a.2) (x := nth s (Int.toNat z)) (y := ((nth s (Int.toNat z)).1, (nth s (Int.toNat z)).2.1, specl07PutId ((nth s (Int.toNat z)).2.2) f.1)) s (Int.toNat z) hg hf (fun i b hi hb' => hbef i b (by omega) hb') rfl (fun h => by
      obtain ⟨q1, q2⟩ := (postP _ _ _).1 h
      rw [← k1, ← k2, q1, q2])
    unfold lk
    by_cases hm : a.1 = n ∧ a.2 = v
    · obtain ⟨rfl, rfl⟩ := hm
      rw [g2 hx, hf]
      show x ∈ specl07PutId _ _ ↔ _
      rw [mem_put]
      simp
    · have hn : implpostingAt_1 (nth s (Int.toNat z)) n v = false := by
        cases h : implpostingAt_1 (nth s (Int.toNat z)) n v with
        | false => rfl
        | true =>
          obtain ⟨q1, q2⟩ := (postP _ _ _).1 h
          exact absurd ⟨k1.symm.trans q1, k2.symm.trans q2⟩ hm
      rw [g1 hn]
      exact ⟨.inr, fun h => h.elim (fun h => absurd h.2 hm) id⟩
theorem lk_add (f : FileD) (n : ByteArray) (v : ValueD) (x : Int) (ix : List PostingD) : x ∈ lk (implAddToIndex ix f) n v ↔ (x = f.1 ∧ (n, v) ∈ f.2.2.2.2) ∨ x ∈ lk ix n v := by
  have go : ∀ (l : List AttrD) (k : Nat) (s : List PostingD), ∃ s', forL (implAddToIndex_f0 f) implAddToIndex_e0 l k s = .brk s' ∧ (x ∈ lk s' n v ↔ (x = f.1 ∧ (n, v) ∈ l) ∨ x ∈ lk s n v) := by
    intro l
    induction l with
    | nil => exact fun k s => ⟨s, rfl, by simp⟩
    | cons a l ih =>
      intro k s
      obtain ⟨s', h1, h2⟩ := ih (k + 1) (ixStep f a s)
      refine ⟨s', ?_, ?_⟩
      · simp only [forL, step_next]; exact h1
      · rw [h2, lk_step]
        obtain ⟨a1, a2⟩ := a
        simp only [List.mem_cons, Prod.mk.injEq]
        constructor
        · rintro (⟨h, h'⟩ | ⟨h, rfl, rfl⟩ | h)
          · exact .inl ⟨h, .inr h'⟩
          · exact .inl ⟨h, .inl ⟨rfl, rfl⟩⟩
          · exact .inr h
        · rintro (⟨h, ⟨rfl, rfl⟩ | h'⟩ | h)
          · exact .inr (.inl ⟨h, rfl, rfl⟩)
          · exact .inl ⟨h, h'⟩
          · exact .inr (.inr h)
  obtain ⟨s', h1, h2⟩ := go f.2.2.2.2 0 ix
  unfold implAddToIndex
  rw [copyIx_id, h1]
  exact h2
theorem lk_build (s : StoreD) (n : ByteArray) (v : ValueD) (x : Int) : x ∈ lk (implBuildIndex s) n v ↔ ∃ f, f ∈ s.2.1 ∧ x = f.1 ∧ (n, v) ∈ f.2.2.2.2 := by
  have go : ∀ (l : List FileD) (k : Nat) (ix : List PostingD), ∃ ix', forL implBuildIndex_f0 implBuildIndex_e0 l k ix = .brk ix' ∧ (x ∈ lk ix' n v ↔ (∃ f, f ∈ l ∧ x = f.1 ∧ (n, v) ∈ f.2.2.2.2) ∨ x ∈ lk ix n v) := by
    intro l
    induction l with
    | nil => exact fun k s => ⟨s, rfl, by simp⟩
    | cons a l ih =>
      intro k s
      obtain ⟨s', h1, h2⟩ := ih (k + 1) (implAddToIndex s a)
      refine ⟨s', ?_, ?_⟩
      · simp only [forL, implBuildIndex_f0]; exact h1
      · rw [h2, lk_add]
        simp only [List.mem_cons, exists_eq_or_imp]
        constructor
        · rintro (h | h | h)
          · exact .inl (.inr h)
          · exact .inl (.inl h)
          · exact .inr h
        · rintro ((h | h) | h)
          · exact .inr (.inl h)
          · exact .inl h
          · exact .inr (.inr h)
  obtain ⟨s', h1, h2⟩ := go s.2.1 0 []
  unfold implBuildIndex
  rw [h1]
  refine h2.trans ⟨fun h => h.elim id (fun h => by cases h), .inl⟩
end Go.Proofs.Ytiafgmepdgfpbaa
