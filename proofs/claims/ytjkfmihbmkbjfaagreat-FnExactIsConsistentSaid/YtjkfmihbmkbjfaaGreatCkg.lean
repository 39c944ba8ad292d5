/- The checker: both sides alike; sizes of what is handed back. -/
import Derived.Test.YtjkfmihbmkbjfaaGreatCke
set_option linter.unusedVariables false
set_option linter.unusedSimpArgs false
namespace Go.Proofs.YtjkfmihbmkbjfaaGreat
open Go.RowKit
theorem checkAll_eq (c : CatalogD) : specCheckAll c = implCheckAll c := by
  unfold specCheckAll implCheckAll
  rw [show specCheckAll_f0 c = implCheckAll_f0 c from by funext s; unfold specCheckAll_f0 implCheckAll_f0; rw [checkStep_eq]]
  rfl
theorem size_app {α : Type} [GoD α] (l m : List α) : GoD.size (l ++ m) = GoD.size l + GoD.size m := by
  simp only [size_list, List.length_append, List.map_append, List.sum_append]
  omega
theorem size_one {α : Type} [GoD α] (a : α) : GoD.size [a] = 1 + GoD.size a := by simp [size_list]
theorem checkStep_size (c : CatalogD) (k : CheckD) : GoD.size (implCheckStep c k).1 ≤ GoD.size k + GoD.size c + 1 := by
  unfold implCheckStep
  cases hc : implwithin k.1 0 ((c.2.1.length : Int) - 1) with
  | false => exact Nat.le_trans (Nat.le_add_right _ _) (Nat.le_add_right _ _)
  | true =>
    have := within_iff.1 hc
    have h1 := sz_fst (sz_get (nth_get (l := c.2.1) (i := Int.toNat k.1) (by omega)) (Nat.le_refl _))
    have h2 : GoD.size c.2.1 ≤ GoD.size c := sz_fst (sz_snd (Nat.le_refl _))
    generalize (slicesEqual_int _ _ : Bool) = b
    cases b with
    | false =>
      show 0 + GoD.size (k.2 ++ [_]) ≤ 0 + GoD.size k.2 + GoD.size c + 1
      rw [size_app, size_one]
      omega
    | true =>
      show 0 + GoD.size k.2 ≤ 0 + GoD.size k.2 + GoD.size c + 1
      omega
theorem checkStep_take {c : CatalogD} {k : CheckD} (hl : c.2.1.length ≤ 1073741824) (h : 0 ≤ k.1) (hs : GoD.size k.2 ≤ GoD.size (c.2.1.take (Int.toNat k.1))) : GoD.size (implCheckStep c k).1.2 ≤ GoD.size (c.2.1.take (Int.toNat (implCheckStep c k).1.1)) := by
  unfold implCheckStep
  cases hc : implwithin k.1 0 ((c.2.1.length : Int) - 1) with
  | false => exact hs
  | true =>
    have := within_iff.1 hc
    have hw : IntKind.i64.wrap (k.1 + 1) = k.1 + 1 := IntWalk.i64_in _ (by omega)
    have hn : (k.1 + 1).toNat = Int.toNat k.1 + 1 := by omega
    have hg := nth_get (l := c.2.1) (i := Int.toNat k.1) (by omega)
    have ht : c.2.1.take (Int.toNat k.1 + 1) = c.2.1.take (Int.toNat k.1) ++ [nth c.2.1 (Int.toNat k.1)] := by rw [List.take_add_one, hg]; rfl
    have hd : GoD.size (nth c.2.1 (Int.toNat k.1)).1 ≤ GoD.size (nth c.2.1 (Int.toNat k.1)) := sz_fst (Nat.le_refl _)
    rw [hw]
    generalize (slicesEqual_int _ _ : Bool) = b
    cases b with
    | false =>
      show GoD.size (k.2 ++ [_]) ≤ GoD.size (c.2.1.take (k.1 + 1).toNat)
      rw [hn, ht, size_app, size_app, size_one, size_one]
      omega
    | true =>
      show GoD.size k.2 ≤ GoD.size (c.2.1.take (k.1 + 1).toNat)
      rw [hn, ht, size_app]
      omega
theorem checkAll_size (c : CatalogD) (hl : c.2.1.length ≤ 1073741824) : GoD.size (implCheckAll c) ≤ GoD.size c := by
  have hq : GoD.size c.2.1 ≤ GoD.size c := sz_fst (sz_snd (Nat.le_refl _))
  have key : ∀ (n : Nat) (b : Bool) (k : CheckD), (0 ≤ k.1 ∧ k.1 ≤ (c.2.1.length : Int) ∧ (k.2.length : Int) ≤ k.1) → GoD.size k.2 ≤ GoD.size (c.2.1.take (Int.toNat k.1)) → ∀ o, whl (implCheckAll_f0 c) n (b, k) = some o → GoD.size (o.on fun y => y.2) ≤ GoD.size c.2.1 := by
    intro n
    induction n with
    | zero => intro b k _ _ o h; cases h
    | succ n ih =>
      intro b k hk hs o h
      cases b with
      | false =>
        simp only [whl, implCheckAll_f0, cond_false] at h
        obtain rfl := Option.some.inj h
        refine Nat.le_trans hs ?_
        conv => rhs; rw [← List.take_append_drop (Int.toNat k.1) c.2.1, size_app]
        exact Nat.le_add_right _ _
      | true =>
        simp only [whl, implCheckAll_f0, cond_true] at h
        exact ih _ _ (implCheckStep_inv hl hk).1 (checkStep_take hl hk.1 hs) o h
  refine Nat.le_trans ?_ hq
  exact key _ _ _ (by simp [implNewCheck]) (by simp [implNewCheck, size_list]) _ (whl_some (implCheckAll_w c hl))
end Go.Proofs.YtjkfmihbmkbjfaaGreat
