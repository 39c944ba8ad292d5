/- Valid stores, the reference's side: what is known of them, what CreateFile and DeleteFile make of them. -/
import Derived.Test.YtiafgmepdgfpbaaVsa
import Derived.Test.YtiafgmepdgfpbaaZc
set_option linter.unusedVariables false
set_option linter.unusedSimpArgs false
namespace Go.Proofs.Ytiafgmepdgfpbaa
open Go.RowKit
structure VS (s : StoreD) : Prop where
  sch : specIsValidSchema s.1 = true
  len : s.2.1.length ≤ 12
  nx1 : 1 ≤ s.2.2
  nx2 : s.2.2 ≤ 61
  file : ∀ (i : Nat) (a : FileD), s.2.1[i]? = some a → specIsValidFile s.1 a = true ∧ a.1 < s.2.2
  asc : ∀ (i : Nat) (a b : FileD), s.2.1[i]? = some a → s.2.1[i+1]? = some b → a.1 < b.1
theorem vs_valid {s : StoreD} (h : VS s) : specIsValidStore s = true := by
  unfold specIsValidStore
  rw [forL_of_all (l := s.2.1) (k := 0) (fun i a hi => ?_)]
  · have h1 := h.len
    have h2 := h.nx1
    have h3 := h.nx2
    simp only [Out.on, specl01In, h.sch, Bool.true_and]
    rw [decide_eq_true (show (s.2.1.length : Int) ≤ 12 by omega), decide_eq_true (show s.2.2 ≥ 1 from h2), decide_eq_true (show s.2.2 ≤ 61 from h3)]
    rfl
  · obtain ⟨h1, h2⟩ := h.file i a hi
    unfold specIsValidStore_f0
    rw [h1, decide_eq_false (show ¬ a.1 ≥ s.2.2 by omega)]
    have e2 : (decide (((0 + i : Nat) : Int) > 0) && decide ((nth s.2.1 (Int.toNat (((0 + i : Nat) : Int) - 1))).1 ≥ a.1)) = false := by
      by_cases hp : 0 < i
      · have hlt : i - 1 < s.2.1.length := by have := (List.getElem?_eq_some_iff.1 hi).1; omega
        have h3 := h.asc (i - 1) _ a (nth_get hlt) (by rw [show i - 1 + 1 = i by omega]; exact hi)
        rw [show Int.toNat (((0 + i : Nat) : Int) - 1) = i - 1 by omega, decide_eq_false (show ¬ (nth s.2.1 (i - 1)).1 ≥ a.1 by omega), Bool.and_false]
      · obtain rfl : i = 0 := by omega
        rfl
    rw [e2]
    rfl
theorem vs_of {s : StoreD} (h : specIsValidStore s = true) : VS s := by
  unfold specIsValidStore at h
  cases hl : forL (specIsValidStore_f0 s) specIsValidStore_e0 s.2.1 0 () with
  | brk t =>
    rw [hl] at h
    simp only [Out.on, Bool.and_eq_true, specl01In, decide_eq_true_eq] at h
    obtain ⟨h1, h2, h3, h4⟩ := h
    have key : ∀ (i : Nat) (a : FileD), s.2.1[i]? = some a → specIsValidFile s.1 a = true ∧ a.1 < s.2.2 ∧ (decide (((i : Nat) : Int) > 0) && decide ((nth s.2.1 (Int.toNat (((i : Nat) : Int) - 1))).1 ≥ a.1)) = false := fun i a hi => by
      have h5 := forL_all (fun k a t => by unfold specIsValidStore_f0; generalize (_ || _ : Bool) = c; cases c <;> simp) hl i a hi
      unfold specIsValidStore_f0 at h5
      rw [Nat.zero_add] at h5
      cases hv : specIsValidFile s.1 a with
      | false => rw [hv] at h5; simp at h5
      | true =>
        rw [hv] at h5
        cases hd : decide (a.1 ≥ s.2.2) with
        | true => rw [hd] at h5; simp at h5
        | false =>
          rw [hd] at h5
          refine ⟨rfl, by have := of_decide_eq_false hd; omega, ?_⟩
          generalize (decide (((i : Nat) : Int) > 0) && decide ((nth s.2.1 (Int.toNat (((i : Nat) : Int) - 1))).1 ≥ a.1)) = c at h5
          cases c with
          | true => simp at h5
          | false => rfl
    refine ⟨h1, by omega, h3, h4, fun i a hi => ⟨(key i a hi).1, (key i a hi).2.1⟩, fun i a b ha hb => ?_⟩
    have h5 := (key (i + 1) b hb).2.2
    rw [decide_eq_true (show ((i + 1 : Nat) : Int) > 0 by omega), Bool.true_and, show Int.toNat (((i + 1 : Nat) : Int) - 1) = i by omega, nth_of ha] at h5
    have := of_decide_eq_false h5
    omega
  | ret r =>
    rw [hl] at h
    obtain rfl : r = true := h
    exfalso
    have key : ∀ (l : List FileD) k, forL (specIsValidStore_f0 s) specIsValidStore_e0 l k () ≠ .ret true := by
      intro l
      induction l with
      | nil => intro k h; simp [forL] at h
      | cons a l ih =>
        intro k h
        simp only [forL] at h
        unfold specIsValidStore_f0 at h
        split at h
        · exact ih _ h
        · cases h
        · rename_i r hf; cases h; revert hf; generalize (_ || _ : Bool) = c; cases c <;> simp
    exact key _ _ hl
theorem vs_iff (s : StoreD) : specIsValidStore s = true ↔ VS s := ⟨vs_of, vs_valid⟩
theorem copyFilesS (l : List FileD) : ∀ (k : Nat) (s : List FileD), forL specl05Copy_f0 specl05Copy_e0 l k s = .brk (s ++ l) := fun k s => by
  rw [forL_map (f := specl05Copy_f0) (e := specl05Copy_e0) (g := id) (fun _ _ _ => rfl), List.map_id]
  rfl
theorem copyS (s : StoreD) : specl05Copy s = s := by
  unfold specl05Copy
  rw [copyFilesS]
  rfl
theorem vs_push {s : StoreD} {f : FileD} (h : VS s) (hl : s.2.1.length < 12) (hn : s.2.2 ≤ 60) (hf : specIsValidFile s.1 (s.2.2, f.2) = true) : VS (s.1, s.2.1 ++ [(s.2.2, f.2)], s.2.2 + 1) := by
  have hcase : ∀ (i : Nat) (a : FileD), (s.2.1 ++ [((s.2.2, f.2) : FileD)])[i]? = some a → s.2.1[i]? = some a ∨ (i = s.2.1.length ∧ a = (s.2.2, f.2)) := fun i a hi => by
    rw [List.getElem?_append] at hi
    split at hi
    · exact .inl hi
    · right
      rename_i hge
      have : i - s.2.1.length = 0 := by
        have := (List.getElem?_eq_some_iff.1 hi).1
        simp at this; omega
      rw [this] at hi
      exact ⟨by omega, (Option.some.inj hi).symm⟩
  refine ⟨h.sch, by simp; omega, by have := h.nx1; show 1 ≤ s.2.2 + 1; omega, by show s.2.2 + 1 ≤ 61; omega, fun i a hi => ?_, fun i a b ha hb => ?_⟩
  · show specIsValidFile s.1 a = true ∧ a.1 < s.2.2 + 1
    rcases hcase i a hi with hi | ⟨_, rfl⟩
    · obtain ⟨h1, h2⟩ := h.file i a hi
      exact ⟨h1, by omega⟩
    · exact ⟨hf, by show s.2.2 < s.2.2 + 1; omega⟩
  · rcases hcase i a ha with ha | ⟨h1, rfl⟩
    · rcases hcase (i + 1) b hb with hb | ⟨_, rfl⟩
      · exact h.asc i a b ha hb
      · exact (h.file i a ha).2
    · rcases hcase (i + 1) b hb with hb | ⟨h2, _⟩
      · have := (List.getElem?_eq_some_iff.1 hb).1; omega
      · omega
theorem createS {s : StoreD} {f : FileD} (h : VS s) (hl : s.2.1.length < 12) (hn : s.2.2 ≤ 60) (hf : specIsValidFile s.1 (s.2.2, f.2) = true) : specCreateFile s f = ((s.1, s.2.1 ++ [(s.2.2, f.2)], s.2.2 + 1), s.2.2, true) := by
  unfold specCreateFile
  rw [copyS, vs_valid h, decide_eq_false (show ¬ (s.2.1.length : Int) ≥ 12 by omega)]
  have hf' : specIsValidFile s.1 (s.2.2, (specl04Copy f).2.1, (specl04Copy f).2.2.1, (specl04Copy f).2.2.2.1, (specl04Copy f).2.2.2.2) = true := hf
  have h1 := h.nx1
  rw [hf', IntWalk.i64_in _ (show _ ∧ _ by omega)]
  rfl
theorem vf_id {s : List FieldD} {f : FileD} (h : specIsValidFile s f = true) : 1 ≤ f.1 ∧ f.1 ≤ 60 := by
  unfold specIsValidFile at h
  cases hl : forL (specIsValidFile_f0 s f) specIsValidFile_e0 f.2.2.2.2 0 () with
  | brk t =>
    rw [hl] at h
    simp only [Out.on, Bool.and_eq_true, specl01In, decide_eq_true_eq] at h
    exact h.2.1
  | ret r =>
    rw [hl] at h
    obtain rfl : r = true := h
    exfalso
    have key : ∀ (l : List AttrD) k, forL (specIsValidFile_f0 s f) specIsValidFile_e0 l k () ≠ .ret true := by
      intro l
      induction l with
      | nil => intro k h; simp [forL] at h
      | cons a l ih =>
        intro k h
        simp only [forL] at h
        unfold specIsValidFile_f0 at h
        split at h
        · exact ih _ h
        · cases h
        · rename_i r hf; cases h; revert hf; generalize (_ || _ : Bool) = c; cases c <;> simp
    exact key _ _ hl
theorem create_vs {s : StoreD} (f : FileD) (h : VS s) : VS (specCreateFile s f).1 ∧ (specCreateFile s f).1.1 = s.1 ∧ (specCreateFile s f).1.2.1.length ≤ s.2.1.length + 1 ∧ s.2.1.length ≤ (specCreateFile s f).1.2.1.length ∧ (specCreateFile s f).1.2.2 ≤ s.2.2 + 1 := by
  by_cases hc : s.2.1.length < 12 ∧ specIsValidFile s.1 (s.2.2, f.2) = true
  · have hn : s.2.2 ≤ 60 := (vf_id hc.2).2
    rw [createS h hc.1 hn hc.2]
    exact ⟨vs_push h hc.1 hn hc.2, rfl, by simp, by simp, Int.le_refl _⟩
  · have e : (specCreateFile s f).1 = s := by
      unfold specCreateFile
      rw [copyS, vs_valid h]
      by_cases h1 : s.2.1.length < 12
      · have h2 : specIsValidFile s.1 (s.2.2, f.2) ≠ true := fun h2 => hc ⟨h1, h2⟩
        have h3 : specIsValidFile s.1 (s.2.2, (specl04Copy f).2.1, (specl04Copy f).2.2.1, (specl04Copy f).2.2.2.1, (specl04Copy f).2.2.2.2) = false := Bool.eq_false_iff.2 h2
        rw [h3]
        simp
      · rw [decide_eq_true (show (s.2.1.length : Int) ≥ 12 by omega)]
        simp
    rw [e]
    exact ⟨h, rfl, by omega, by omega, by omega⟩
theorem delete_vs {s : StoreD} (id : Int) (h : VS s) : VS (specDeleteFile s id).1 ∧ (specDeleteFile s id).1.1 = s.1 ∧ (specDeleteFile s id).1.2.1.length ≤ s.2.1.length ∧ (specDeleteFile s id).1.2.2 = s.2.2 := by
  unfold specDeleteFile
  rw [copyS, vs_valid h]
  by_cases hc : specl05Place s id < 0
  · rw [decide_eq_true hc]
    exact ⟨h, rfl, Nat.le_refl _, rfl⟩
  · rw [decide_eq_false hc]
    simp only [Bool.not_true, Bool.or_false, cond_false]
    have hb := fat_ltS s id
    generalize specl05Place s id = p at hc hb
    obtain ⟨k, rfl⟩ : ∃ k : Nat, p = (k : Int) := ⟨p.toNat, by omega⟩
    have e2 : Int.toNat ((k : Int) + 1) = k + 1 := by omega
    rw [e2, Int.toNat_natCast]
    have hk : k < s.2.1.length := by omega
    have hget : ∀ (i : Nat) (a : FileD), (List.take k s.2.1 ++ List.drop (k + 1) s.2.1)[i]? = some a → s.2.1[if i < k then i else i + 1]? = some a := fun i a hi => by
      rw [List.getElem?_append, List.length_take, Nat.min_eq_left (by omega)] at hi
      split at hi
      · rename_i hlt
        rw [if_pos hlt]
        rwa [List.getElem?_take_of_lt hlt] at hi
      · rename_i hge
        rw [if_neg hge]
        rw [List.getElem?_drop] at hi
        rwa [show k + 1 + (i - k) = i + 1 by omega] at hi
    refine ⟨⟨h.sch, ?_, h.nx1, h.nx2, fun i a hi => h.file _ a (hget i a hi), fun i a b ha hb => ?_⟩, trivial, ?_, trivial⟩
    · have := h.len
      show (List.take k s.2.1 ++ List.drop (k + 1) s.2.1).length ≤ 12
      simp; omega
    · have ha := hget i a ha
      have hb := hget (i + 1) b hb
      by_cases h1 : i + 1 < k
      · rw [if_pos (by omega)] at ha
        rw [if_pos h1] at hb
        exact h.asc i a b ha hb
      · rw [if_neg h1] at hb
        by_cases h2 : i < k
        · rw [if_pos h2] at ha
          have hm : k < s.2.1.length := hk
          have h3 := h.asc i a _ ha (by rw [show i + 1 = k by omega]; exact nth_get hm)
          have h4 := h.asc k _ b (nth_get hm) (by rw [show k + 1 = i + 1 + 1 by omega]; exact hb)
          omega
        · rw [if_neg h2] at ha
          exact h.asc (i + 1) a b ha hb
    · show (List.take k s.2.1 ++ List.drop (k + 1) s.2.1).length ≤ s.2.1.length
      simp; omega
end Go.Proofs.Ytiafgmepdgfpbaa
