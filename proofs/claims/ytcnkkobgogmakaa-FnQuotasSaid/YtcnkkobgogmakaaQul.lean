/- Quotas: what is used is the cost of all files of the user; what is left is what remains: the law on Quotas is true. -/
import Derived.Test.YtcnkkobgogmakaaLQu
set_option linter.unusedVariables false
set_option linter.unusedSimpArgs false
namespace Go.Proofs.Ytcnkkobgogmakaa
open Go.RowKit
theorem used_eq (s : StoreD) (u : Int) : specQuotaUsed s u = implQuotaUsed s u := rfl
theorem at_eq (q : List Int) (u : Int) : specl24At q u = implquotaOf q u := rfl
theorem withinQ_eq (s : StoreD) (q : List Int) : specIsWithinQuota s q = implIsWithinQuota s q := rfl
theorem left_eq (s : StoreD) (q : List Int) (u : Int) : specQuotaLeft s q u = implQuotaLeft s q u := rfl
theorem ixF_any {α : Type} (p : α → Bool) : ∀ l : List α, decide (ixF p l ≥ 0) = l.any p
  | [] => rfl
  | a :: l => by
    have ih := ixF_any p l
    have hb := ixF_bd p l
    rw [List.any_cons, ← ih, ixF]
    cases p a with
    | true => rfl
    | false =>
      simp only [cond_false, Bool.false_or]
      by_cases h : ixF p l = -1
      · rw [h]; rfl
      · rw [beq_eq_false_iff_ne.2 h]
        simp only [cond_false]
        rw [Bool.eq_iff_iff, decide_eq_true_iff, decide_eq_true_iff]
        omega
theorem all_go (c : Bool) : ∀ (l : List Int) (k : Nat), Out.on (forL specIsValidQuota_f0 specIsValidQuota_e0 l k ()) (fun _ => c) = (l.all (fun n => implwithin n 0 999) && c)
  | [], k => rfl
  | a :: l, k => by
    simp only [forL, specIsValidQuota_f0, List.all_cons]
    rw [← within_in]
    cases implwithin a 0 999 with
    | true => exact all_go c l (k + 1)
    | false => rfl
theorem validQ_eq (q : List Int) : specIsValidQuota q = implIsValidQuota q := by
  unfold specIsValidQuota implIsValidQuota slicesContainsFunc_int_implIsValidQuota_1
  rw [all_go, slicesIndexFunc_int_implIsValidQuota_1_ix, ixF_any, Bool.and_comm]
  congr 1
  induction q with
  | nil => rfl
  | cons a l ih =>
    rw [List.all_cons, List.any_cons, ih]
    show (implwithin a 0 999 && _) = !((!(implwithin a 0 999)) || _)
    cases implwithin a 0 999 <;> simp
/-! ### the sum over the files that a user owns -/
theorem ids_lt {s : StoreD} (h : VS s) : ∀ (d i : Nat) (a b : FileD), s.2.1[i]? = some a → s.2.1[i + d + 1]? = some b → a.1 < b.1
  | 0, i, a, b, ha, hb => h.asc i a b ha hb
  | d + 1, i, a, b, ha, hb => by
    have hlt : i + d + 1 < s.2.1.length := by have := (List.getElem?_eq_some_iff.1 hb).1; omega
    have h1 := ids_lt h d i a _ ha (nth_get hlt)
    have h2 := h.asc (i + d + 1) _ b (nth_get hlt) hb
    omega
theorem ixF_at {α : Type} (p : α → Bool) : ∀ (l : List α) (i : Nat) (a : α), l[i]? = some a → p a = true → (∀ j b, j < i → l[j]? = some b → p b = false) → ixF p l = i
  | [], i, a, h, _, _ => by simp at h
  | x :: l, 0, a, h, hp, _ => by
    obtain rfl : x = a := by simpa using h
    rw [ixF, hp]; rfl
  | x :: l, i + 1, a, h, hp, hn => by
    have h0 := hn 0 x (by omega) rfl
    have ih := ixF_at p l i a (by simpa using h) hp fun j b hj hb => hn (j + 1) b (by omega) (by simpa using hb)
    rw [ixF, h0, ih]
    simp only [cond_false]
    rw [beq_eq_false_iff_ne.2 (by omega)]
    rfl
theorem file_of {s : StoreD} (h : VS s) {i : Nat} {a : FileD} (ha : s.2.1[i]? = some a) : lawsfileOf s a.1 = a := by
  have hp : specl05Place s a.1 = i := by
    unfold specl05Place
    rw [idx_eq (p := fun b : FileD => b.1 == a.1) (f := specl05Place_f0 a.1) (e := specl05Place_e0) (fun _ _ _ => rfl)]
    refine ixF_at _ _ i a ha (by simp) fun j b hj hb => ?_
    have := ids_lt h (i - j - 1) j b a hb (by rw [show j + (i - j - 1) + 1 = i by omega]; exact ha)
    simp
    omega
  unfold lawsfileOf specFindFile
  rw [hp, decide_eq_false (show ¬ (i : Int) < 0 by omega), Int.toNat_natCast, nth_of ha]
  rfl
theorem sum_go (code : List UInt8) {s : StoreD} {u : Int} (hs : s = (specDrawQuotaUsed code).1) (h : VS s) : ∀ (l : List FileD) (k k' : Nat) (n : Int), (∀ a, a ∈ l → a ∈ s.2.1) → ∃ r, forL (implQuotaUsed_f0 u) implQuotaUsed_e0 l k n = .brk r ∧ forL (lawsFnQuotas_f0 code) lawsFnQuotas_e0 ((l.filter fun a => a.2.1 == u).map fun a => a.1) k' n = .brk r
  | [], k, k', n, _ => ⟨n, rfl, rfl⟩
  | a :: l, k, k', n, hm => by
    have hr := fun b hb => hm b (List.mem_cons_of_mem _ hb)
    obtain ⟨i, hi⟩ := List.getElem?_of_mem (hm a List.mem_cons_self)
    cases hu : (a.2.1 == u) with
    | true =>
      obtain ⟨r, h1, h2⟩ := sum_go code hs h l (k + 1) (k' + 1) (IntKind.i64.wrap (n + implFileCost a)) hr
      refine ⟨r, ?_, ?_⟩
      · simp only [forL, implQuotaUsed_f0, hu, cond_true]; exact h1
      · rw [List.filter_cons_of_pos (p := fun a : FileD => a.2.1 == u) hu, List.map_cons]
        simp only [forL, lawsFnQuotas_f0]
        rw [← hs, file_of h hi]
        exact h2
    | false =>
      obtain ⟨r, h1, h2⟩ := sum_go code hs h l (k + 1) k' n hr
      refine ⟨r, ?_, ?_⟩
      · simp only [forL, implQuotaUsed_f0, hu, cond_false]; exact h1
      · rw [List.filter_cons_of_neg (p := fun a : FileD => a.2.1 == u) (by simp [hu])]; exact h2
theorem owned_eq (s : StoreD) (u : Int) : specFilesOwnedBy s u = (s.2.1.filter fun a => a.2.1 == u).map fun a => a.1 := by
  unfold specFilesOwnedBy
  rw [forL_filter (f := specFilesOwnedBy_f0 u) (e := specFilesOwnedBy_e0) (p := fun a : FileD => a.2.1 == u) (g := fun a => a.1) (fun _ _ _ => rfl)]
  rfl
theorem one_left : implQuotaLeft (lawssampleStore 1) [5] 0 = 3 := by kernel_rfl
theorem forL_next_brk {code : List UInt8} : ∀ (l : List Int) (k : Nat) (n : Int), ∃ r, forL (lawsFnQuotas_f0 code) lawsFnQuotas_e0 l k n = .brk r
  | [], k, n => ⟨n, rfl⟩
  | a :: l, k, n => by
    simp only [forL, lawsFnQuotas_f0]
    exact forL_next_brk l (k + 1) _
theorem lawsFnQuotas_true (code : List UInt8) : lawsFnQuotas code = true := by
  unfold lawsFnQuotas
  cases lawsbig code with
  | true => rfl
  | false =>
    simp only [cond_false]
    have hf : specFileCost (specDrawFileCost code) = implFileCost (specDrawFileCost code) := rfl
    simp only [used_eq, withinQ_eq, left_eq, validQ_eq, hf, beq_self_eq_true, Bool.true_and, one_left]
    cases hv : specIsValidStore (specDrawQuotaUsed code).1 with
    | false =>
      obtain ⟨r, hr⟩ := forL_next_brk (code := code) (specFilesOwnedBy (specDrawQuotaUsed code).1 (specDrawQuotaUsed code).2) 0 0
      rw [hr]
      rfl
    | true =>
      obtain ⟨r, h1, h2⟩ := sum_go code rfl (u := (specDrawQuotaUsed code).2) (vs_of hv) (specDrawQuotaUsed code).1.2.1 0 0 0 fun _ h => h
      rw [owned_eq, h2]
      have e : implQuotaUsed (specDrawQuotaUsed code).1 (specDrawQuotaUsed code).2 = r := by
        unfold implQuotaUsed
        rw [h1]
        rfl
      simp only [Out.on, Bool.not_true, cond_false, e, beq_self_eq_true]
      rfl
end Go.Proofs.Ytcnkkobgogmakaa
