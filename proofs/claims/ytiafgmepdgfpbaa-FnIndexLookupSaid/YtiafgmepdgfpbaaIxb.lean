/- Indexes alike on both sides, and their bounds. -/
import Derived.Test.YtiafgmepdgfpbaaAia
set_option linter.unusedVariables false
set_option linter.unusedSimpArgs false
namespace Go.Proofs.Ytiafgmepdgfpbaa
open Go.RowKit
theorem addIx_b {K : Nat} {ix : List PostingD} {f : FileD} (h : IxB K ix) : IxB (K + f.2.2.2.2.length) (implAddToIndex ix f) := by
  have step : ∀ {K : Nat} {s0 : List PostingD} {a0 : AttrD} {k : Nat}, IxB K s0 → ∃ s', implAddToIndex_f0 f k a0 s0 = .next s' ∧ IxB (K + 1) s' := by
    intro K s0 a0 k hI
    obtain ⟨hj1, hj2, hj3, hj4⟩ := join_ix (a0 := a0) hI
    unfold implAddToIndex_f0
    generalize (bif decide ((implpostingAt s0 a0.1 a0.2) < (0 : Int)) then (bif decide ((slicesIndexFunc_Posting_implAddToIndex_1 s0 a0) < (0 : Int)) then (insAt s0 (Int.toNat (s0.length : Int)) ((a0.1, a0.2, []) : PostingD), (s0.length : Int)) else (insAt s0 (Int.toNat (slicesIndexFunc_Posting_implAddToIndex_1 s0 a0)) ((a0.1, a0.2, []) : PostingD), (slicesIndexFunc_Posting_implAddToIndex_1 s0 a0))) else (s0, (implpostingAt s0 a0.1 a0.2))) = x3 at *
    unfold lt
    dsimp only
    have hm := hj4 _ (List.mem_of_getElem? (nth_get (l := x3.1) (i := Int.toNat x3.2) (by omega)))
    generalize decide ((slicesIndexFunc_int_implAddToIndex_2 ((nth x3.1 (Int.toNat x3.2)).2.2) f) < (0 : Int)) = c1
    generalize (nth ((nth x3.1 (Int.toNat x3.2)).2.2) (Int.toNat (slicesIndexFunc_int_implAddToIndex_2 ((nth x3.1 (Int.toNat x3.2)).2.2) f)) != f.1) = c2
    cases c1 with
    | true => exact ⟨_, rfl, ixb_set hj3 hj4 (by simp; omega)⟩
    | false => cases c2 with
      | true => exact ⟨_, rfl, ixb_set hj3 hj4 (by rw [insAt_lenU]; omega)⟩
      | false => exact ⟨_, rfl, ixb_keep hj3 hj4⟩
  have go : ∀ (l : List AttrD) (k K : Nat) (s : List PostingD), IxB K s → ∃ s', forL (implAddToIndex_f0 f) implAddToIndex_e0 l k s = .brk s' ∧ IxB (K + l.length) s' := by
    intro l
    induction l with
    | nil => exact fun k K s hs => ⟨s, rfl, hs⟩
    | cons a l ih =>
      intro k K s hs
      obtain ⟨s1, e1, h1⟩ := step (a0 := a) (k := k) hs
      obtain ⟨s2, e2, h2⟩ := ih (k + 1) (K + 1) s1 h1
      refine ⟨s2, ?_, ?_⟩
      · simp only [forL, e1]; exact e2
      · rw [List.length_cons, Nat.add_comm l.length 1, ← Nat.add_assoc]; exact h2
  obtain ⟨s', e, hs⟩ := go f.2.2.2.2 0 K ix h
  unfold implAddToIndex
  rw [copyIx_id, e]
  exact hs
/-! ### one attribute -/
theorem cmp_pos (x y : Int) : cmpCompare_int x y = bif decide (x < y) then -1 else bif decide (x > y) then 1 else 0 := by
  unfold cmpCompare_int cmpisNaN_int
  simp
theorem cmp_posS (x y : ByteArray) : cmpCompare_string x y = bif (Op.bytesLess x.toList y.toList) then -1 else bif (!(Op.bytesLess x.toList y.toList || x.toList == y.toList)) then 1 else 0 := by
  unfold cmpCompare_string cmpisNaN_string
  simp
theorem ne0 {a : Int} (h : (a != 0) = false) : a = 0 := by simpa using h
theorem or_two (a b : Int) : cmpOr_int [a, b] = bif a != 0 then a else b := by
  unfold cmpOr_int
  cases h : (a != 0) with
  | true => simp only [forL, cmpOr_int_f0, h, cond_true, Out.on]
  | false =>
    cases h2 : (b != 0) with
    | true => simp only [forL, cmpOr_int_f0, h, h2, cond_true, cond_false, Out.on]
    | false => simp only [forL, cmpOr_int_f0, h, h2, cond_false, Out.on]; exact (ne0 h2).symm
theorem or_three (a b c : Int) : cmpOr_int [a, b, c] = bif a != 0 then a else bif b != 0 then b else c := by
  unfold cmpOr_int
  cases h : (a != 0) with
  | true => simp only [forL, cmpOr_int_f0, h, cond_true, Out.on]
  | false =>
    cases h2 : (b != 0) with
    | true => simp only [forL, cmpOr_int_f0, h, h2, cond_true, cond_false, Out.on]
    | false =>
      cases h3 : (c != 0) with
      | true => simp only [forL, cmpOr_int_f0, h, h2, h3, cond_true, cond_false, Out.on]
      | false => simp only [forL, cmpOr_int_f0, h, h2, h3, cond_false, Out.on]; exact (ne0 h3).symm
theorem cmpV_eq (a b : ValueD) : specCompareValues a b = implCompareValues a b := by
  unfold specCompareValues implCompareValues
  rw [or_three, cmp_pos, cmp_pos, cmp_posS]
  rcases Int.lt_trichotomy a.1 b.1 with h | h | h
  · simp [h]
  · rw [h]
    rcases Int.lt_trichotomy a.2.1 b.2.1 with h2 | h2 | h2
    · simp [h2]
    · rw [h2]; simp
    · have : ¬ a.2.1 < b.2.1 := by omega
      simp [h2, this]
  · have : ¬ a.1 < b.1 := by omega
    simp [h, this]
theorem less_irr (l : List UInt8) : Op.bytesLess l l = false := by
  induction l with
  | nil => rfl
  | cons a l ih => simp [Op.bytesLess, ih]
theorem behind_eq (p : PostingD) (a : AttrD) : specl07Behind p a.1 a.2 = implAddToIndex_1 p a := by
  unfold specl07Behind implAddToIndex_1
  rw [or_two, cmp_posS, cmpV_eq]
  cases hl : Op.bytesLess p.1.toList a.1.toList with
  | true =>
    have hne : (p.1.toList == a.1.toList) = false := by
      refine beq_eq_false_iff_ne.2 fun e => ?_
      rw [e, less_irr] at hl
      cases hl
    rw [hne]
    simp
  | false =>
    cases he : (p.1.toList == a.1.toList) with
    | true => simp
    | false => simp
theorem ids_put (l : List Int) (f : FileD) : (bif decide ((slicesIndexFunc_int_implAddToIndex_2 l f) < (0 : Int)) then l ++ [f.1] else bif ((nth l (Int.toNat (slicesIndexFunc_int_implAddToIndex_2 l f))) != f.1) then insAt l (Int.toNat (slicesIndexFunc_int_implAddToIndex_2 l f)) f.1 else l) = specl07PutId l f.1 := by
  unfold specl07PutId
  rw [brk_ix (p := fun a : Int => implAddToIndex_2 a f) (f := specl07PutId_f0 f.1) (e := specl07PutId_e0) (fun k a s => by
    unfold specl07PutId_f0 implAddToIndex_2
    by_cases h : a < f.1
    · rw [decide_eq_true h, decide_eq_false (by omega : ¬ a ≥ f.1)]; rfl
    · rw [decide_eq_false h, decide_eq_true (by omega : a ≥ f.1)]; rfl) (fun _ _ => rfl), slicesIndexFunc_int_implAddToIndex_2_ix]
  have hb := ixF_bd (fun a : Int => implAddToIndex_2 a f) l
  generalize ixF (fun a : Int => implAddToIndex_2 a f) l = z at hb
  simp only [Out.on]
  by_cases h : z < 0
  · simp only [decide_eq_true h, cond_true]
    simp
  · have ez : ((0 : Nat) : Int) + z = z := by simp
    simp only [decide_eq_false h, cond_false, ez, decide_eq_true (by omega : z < (l.length : Int)), Bool.true_and]
    cases he : (nth l (Int.toNat z) == f.1) with
    | true => simp [bne, he]
    | false => simp [bne, he, insAt]
theorem set_insAt {α : Type} [Inhabited α] (l : List α) (j : Nat) (x y : α) (h : j ≤ l.length) : List.set (insAt l j x) j y = insAt l j y ∧ nth (insAt l j x) j = x := by
  unfold insAt
  have hl : (List.take j l).length = j := by simp; omega
  refine ⟨?_, ?_⟩
  · rw [List.append_assoc, List.append_assoc, List.set_append_right _ _ (by omega), hl, Nat.sub_self]; rfl
  · refine nth_of ?_
    rw [List.append_assoc, List.getElem?_append_right (by omega), hl, Nat.sub_self]; rfl
theorem same_post (p : PostingD) (a : AttrD) : ((!(p.1.toList == a.1.toList)) || (!((p.2.1.1 == a.2.1) && ((p.2.1.2.1 == a.2.2.1) && ((p.2.1.2.2.toList == a.2.2.2.toList) && true))))) = !(implpostingAt_1 p a.1 a.2) := by
  unfold implpostingAt_1
  generalize (p.1.toList == a.1.toList) = c
  generalize ((p.2.1.1 == a.2.1) && ((p.2.1.2.1 == a.2.2.1) && ((p.2.1.2.2.toList == a.2.2.2.toList) && true))) = d
  cases c <;> cases d <;> rfl
theorem addIx_step (f : FileD) (k : Nat) (a : AttrD) (s : List PostingD) : specAddToIndex_f0 f k a s = implAddToIndex_f0 f k a s := by
  unfold specAddToIndex_f0 implAddToIndex_f0 lt
  rw [brk_ix (p := fun p : PostingD => implpostingAt_1 p a.1 a.2) (f := specAddToIndex_f1 a) (e := specAddToIndex_e1) (fun k p s => by unfold specAddToIndex_f1; rw [same_post]; cases implpostingAt_1 p a.1 a.2 <;> rfl) (fun _ _ => rfl)]
  rw [brk_ix (p := fun p : PostingD => implAddToIndex_1 p a) (f := specAddToIndex_f2 a) (e := specAddToIndex_e2) (fun k p s => by unfold specAddToIndex_f2; rw [behind_eq]; cases implAddToIndex_1 p a <;> rfl) (fun _ _ => rfl)]
  have e1 : implpostingAt s a.1 a.2 = ixF (fun p : PostingD => implpostingAt_1 p a.1 a.2) s := slicesIndexFunc_Posting_implpostingAt_1_ix s a.1 a.2
  rw [e1, slicesIndexFunc_Posting_implAddToIndex_1_ix]
  have hb := ixF_bd (fun p : PostingD => implpostingAt_1 p a.1 a.2) s
  have hc := ixF_bd (fun p : PostingD => implAddToIndex_1 p a) s
  generalize ixF (fun p : PostingD => implpostingAt_1 p a.1 a.2) s = z at hb
  generalize ixF (fun p : PostingD => implAddToIndex_1 p a) s = y at hc
  simp only [Out.on]
  have e0 : ∀ x : Int, ((0 : Nat) : Int) + x = x := fun x => by simp
  by_cases hz : z < 0
  · simp only [decide_eq_true hz, cond_true, e0, decide_eq_false (by simp : ¬ (s.length : Int) < (s.length : Int)), cond_false]
    have key : ∀ t : Int, 0 ≤ t → t ≤ (s.length : Int) → (Rd.next (List.take (Int.toNat t) s ++ [(a.1, a.2, [f.1])] ++ List.drop (Int.toNat t) s) : Rd (List PostingD) (List PostingD) (List PostingD)) =
        (fun x3 : List PostingD × Int => (bif decide ((slicesIndexFunc_int_implAddToIndex_2 ((nth x3.1 (Int.toNat x3.2)).2.2) f) < (0 : Int)) then (.next (List.set x3.1 (Int.toNat x3.2) ((nth x3.1 (Int.toNat x3.2)).1, ((nth x3.1 (Int.toNat x3.2)).2.1.1, (nth x3.1 (Int.toNat x3.2)).2.1.2.1, (nth x3.1 (Int.toNat x3.2)).2.1.2.2), (nth x3.1 (Int.toNat x3.2)).2.2 ++ [f.1]))) else (bif ((nth ((nth x3.1 (Int.toNat x3.2)).2.2) (Int.toNat (slicesIndexFunc_int_implAddToIndex_2 ((nth x3.1 (Int.toNat x3.2)).2.2) f))) != f.1) then (.next (List.set x3.1 (Int.toNat x3.2) ((nth x3.1 (Int.toNat x3.2)).1, ((nth x3.1 (Int.toNat x3.2)).2.1.1, (nth x3.1 (Int.toNat x3.2)).2.1.2.1, (nth x3.1 (Int.toNat x3.2)).2.1.2.2), insAt ((nth x3.1 (Int.toNat x3.2)).2.2) (Int.toNat (slicesIndexFunc_int_implAddToIndex_2 ((nth x3.1 (Int.toNat x3.2)).2.2) f)) f.1))) else (.next x3.1))) : List PostingD × Int → Rd (List PostingD) (List PostingD) (List PostingD)) (insAt s (Int.toNat t) ((a.1, a.2, []) : PostingD), t) := fun t h0 h1 => by
      obtain ⟨g1, g2⟩ := set_insAt s (Int.toNat t) ((a.1, a.2, []) : PostingD) ((a.1, (a.2.1, a.2.2.1, a.2.2.2), [f.1]) : PostingD) (by omega)
      simp only [g2]
      have : decide ((slicesIndexFunc_int_implAddToIndex_2 [] f) < (0 : Int)) = true := rfl
      rw [this, cond_true, List.nil_append, g1]
      rfl
    by_cases hy : y < 0
    · simp only [decide_eq_true hy, cond_true]
      exact key _ (by omega) (by omega)
    · simp only [decide_eq_false hy, cond_false]
      exact key _ (by omega) (by omega)
  · simp only [decide_eq_false hz, cond_false, e0, decide_eq_true hb.2, cond_true]
    rw [← ids_put]
    have hg := nth_get (l := s) (i := Int.toNat z) (by omega)
    have hset : List.set s (Int.toNat z) ((nth s (Int.toNat z)).1, ((nth s (Int.toNat z)).2.1.1, (nth s (Int.toNat z)).2.1.2.1, (nth s (Int.toNat z)).2.1.2.2), (nth s (Int.toNat z)).2.2) = s := by
      refine List.ext_getElem? fun i => ?_
      by_cases hi : Int.toNat z = i
      · subst hi
        rw [List.getElem?_set_self (by omega), hg]
      · rw [List.getElem?_set_ne hi]
    generalize decide ((slicesIndexFunc_int_implAddToIndex_2 ((nth s (Int.toNat z)).2.2) f) < (0 : Int)) = c1
    generalize (nth ((nth s (Int.toNat z)).2.2) (Int.toNat (slicesIndexFunc_int_implAddToIndex_2 ((nth s (Int.toNat z)).2.2) f)) != f.1) = c2
    cases c1 with
    | true => rfl
    | false => cases c2 with
      | true => rfl
      | false => exact congrArg Rd.next hset
theorem addIx_eq (ix : List PostingD) (f : FileD) : specAddToIndex ix f = implAddToIndex ix f := by
  unfold specAddToIndex implAddToIndex
  rw [copyIx_id, copyIxS_id, forL_ext (f := specAddToIndex_f0 f) (g := implAddToIndex_f0 f) (e := specAddToIndex_e0) (e' := implAddToIndex_e0) (addIx_step f) (fun _ _ => rfl)]
theorem addIxS_b {K : Nat} {ix : List PostingD} {f : FileD} (h : IxB K ix) : IxB (K + f.2.2.2.2.length) (specAddToIndex ix f) := by
  rw [addIx_eq]; exact addIx_b h
end Go.Proofs.Ytiafgmepdgfpbaa
