/- What valid files hold (the reference's side), and how many attributes drawn stores have. -/
import Derived.Test.YtiafgmepdgfpbaaDrs
import Derived.Test.YtiafgmepdgfpbaaIxa
import Derived.Test.YtiafgmepdgfpbaaEli
import Derived.Test.YtiafgmepdgfpbaaZd
import Derived.Test.YtiafgmepdgfpbaaWk
set_option linter.unusedVariables false
set_option linter.unusedSimpArgs false
namespace Go.Proofs.Ytiafgmepdgfpbaa
open Go.RowKit
theorem files_one : ∀ {l : List FileD}, (∀ (i : Nat) (a b : FileD), l[i]? = some a → l[i + 1]? = some b → a.1 < b.1) → l.Pairwise fun a b => a.1 < b.1
  | [], _ => .nil
  | [_], _ => List.pairwise_singleton _ _
  | a :: b :: l, h => by
    have ih := files_one (l := b :: l) fun i x y hx hy => h (i + 1) x y (by simpa using hx) (by simpa using hy)
    have hab := h 0 a b rfl rfl
    refine List.pairwise_cons.2 ⟨fun x hx => ?_, ih⟩
    rcases List.mem_cons.1 hx with rfl | hx
    · exact hab
    · exact Int.lt_trans hab ((List.pairwise_cons.1 ih).1 x hx)
theorem vf_run {s : List FieldD} {f : FileD} (h : specIsValidFile s f = true) : ∃ t, forL (specIsValidFile_f0 s f) specIsValidFile_e0 f.2.2.2.2 0 () = .brk t := by
  unfold specIsValidFile at h
  cases hl : forL (specIsValidFile_f0 s f) specIsValidFile_e0 f.2.2.2.2 0 () with
  | brk t => exact ⟨t, rfl⟩
  | ret r =>
    rw [hl] at h
    obtain rfl : r = true := h
    exfalso
    have key : ∀ (l : List AttrD) k, forL (specIsValidFile_f0 s f) specIsValidFile_e0 l k () ≠ .ret true := by
      intro l
      induction l with
      | nil => intro k h; simp [forL] at h
      | cons a l ih =>
        intro k h
        simp only [forL] at h
        unfold specIsValidFile_f0 at h
        split at h
        · exact ih _ h
        · cases h
        · rename_i r hf; cases h; revert hf; generalize (_ || _ : Bool) = c; cases c <;> simp
    exact key _ _ hl
theorem vf_at {s : List FieldD} {f : FileD} (h : specIsValidFile s f = true) {i : Nat} {a : AttrD} (hi : f.2.2.2.2[i]? = some a) : specMatchesSchema s a.1 a.2 = true ∧ ∀ b, 0 < i → f.2.2.2.2[i - 1]? = some b → bl b.1 a.1 = true := by
  obtain ⟨t, ht⟩ := vf_run h
  have := forL_all (fun k a t => by unfold specIsValidFile_f0; generalize (_ || _ : Bool) = c; cases c <;> simp) ht i a hi
  rw [Nat.zero_add] at this
  unfold specIsValidFile_f0 at this
  cases h1 : specMatchesSchema s a.1 a.2 with
  | false => rw [h1] at this; simp at this
  | true =>
    refine ⟨rfl, fun b hpos hb => ?_⟩
    rw [h1] at this
    have hk : decide (((i : Nat) : Int) > (0 : Int)) = true := decide_eq_true (by omega)
    rw [hk, show (((i : Nat) : Int) - 1).toNat = i - 1 by omega, nth_of hb] at this
    show Op.bytesLess b.1.toList a.1.toList = true
    cases hl : Op.bytesLess b.1.toList a.1.toList with
    | true => rfl
    | false => rw [hl] at this; simp at this
theorem vf_asc {s : List FieldD} {f : FileD} (h : specIsValidFile s f = true) : f.2.2.2.2.Pairwise fun a b => bl a.1 b.1 = true := by
  have key : ∀ j i, i < j → j < f.2.2.2.2.length → bl (nth f.2.2.2.2 i).1 (nth f.2.2.2.2 j).1 = true := by
    intro j
    induction j with
    | zero => intro i hi; omega
    | succ j ih =>
      intro i hi hj
      have hs := (vf_at h (nth_get hj)).2 _ (Nat.zero_lt_succ j) (nth_get (i := j) (by omega))
      by_cases e : i = j
      · subst e; exact hs
      · exact bl_trans (ih i (by omega) (by omega)) hs
  rw [List.pairwise_iff_getElem]
  intro i j hi hj hij
  have := key j i hij hj
  simpa [nth, List.getD, hi, hj] using this
theorem fkS_mem (n : ByteArray) : ∀ (l : List FieldD) (k : Nat), Out.on (forL (specFieldKind_f0 n) specFieldKind_e0 l k ()) (fun _ => 0) ≠ 0 → n ∈ l.map (·.1)
  | [], _, h => by simp [forL, Out.on] at h
  | a :: l, k, h => by
    simp only [forL, specFieldKind_f0] at h
    cases hc : (a.1.toList == n.toList) with
    | true => rw [← (bytesE _ _).1 hc]; simp
    | false =>
      rw [hc] at h
      simp only [cond_false] at h
      exact List.mem_cons_of_mem _ (fkS_mem n l (k + 1) h)
theorem vf_kind {s : List FieldD} {f : FileD} (h : specIsValidFile s f = true) {a : AttrD} (ha : a ∈ f.2.2.2.2) : a.2.1 ≠ 0 ∧ a.1 ∈ s.map (·.1) := by
  obtain ⟨i, hi, rfl⟩ := List.getElem_of_mem ha
  have := (vf_at h (List.getElem?_eq_getElem hi)).1
  unfold specMatchesSchema at this
  simp only [Bool.and_eq_true, bne_iff_ne, beq_iff_eq] at this
  obtain ⟨_, h1, h2⟩ := this
  exact ⟨h1, fkS_mem _ s 0 (by rw [h2] at h1; exact h1)⟩
theorem vf_few {s : List FieldD} {f : FileD} (h : specIsValidFile s f = true) : f.2.2.2.2.length ≤ s.length := by
  have hn : (f.2.2.2.2.map (·.1)).Nodup := by
    rw [List.Nodup, List.pairwise_map]
    exact (vf_asc h).imp fun {a b} hab e => by rw [e, bl_irr] at hab; cases hab
  have := nodup_le (N := s.map (·.1)) hn fun x hx => by
    obtain ⟨a, ha, rfl⟩ := List.mem_map.1 hx
    exact (vf_kind h ha).2
  simpa using this
theorem sum_le {α : Type} (g : α → Nat) (K : Nat) : ∀ l : List α, (∀ a, a ∈ l → g a ≤ K) → (l.map g).sum ≤ l.length * K
  | [], _ => by simp
  | a :: l, h => by
    have h1 := h a (by simp)
    have h2 := sum_le g K l fun b hb => h b (List.mem_cons_of_mem _ hb)
    rw [List.map_cons, List.sum_cons, List.length_cons, Nat.add_mul]
    omega
theorem s5_attrs {s : StoreD} (h : S5 s) : attrsN s.2.1 ≤ 100 := by
  have hl := h.vs.len
  have h4 : s.1.length = 4 := by rw [h.sch]; rfl
  have := sum_le (fun f : FileD => f.2.2.2.2.length) 4 s.2.1 fun f hf => by
    obtain ⟨i, hi, rfl⟩ := List.getElem_of_mem hf
    have := vf_few (h.vs.file i _ (List.getElem?_eq_getElem hi)).1
    omega
  unfold attrsN
  omega
theorem l05_attrs (code : List UInt8) (ci : Nat) (ch : Int) : attrsN (specl05Store code ci ch).1.2.1 ≤ 100 := s5_attrs (l05_ok code ci ch).1
end Go.Proofs.Ytiafgmepdgfpbaa
