/- IndexFunc and DeleteFunc, from their loops: plain. No program in sight. -/
import Derived.Test.YtiafgmepdgfpbaaIns
import Derived.Test.YtiafgmepdgfpbaaZc
set_option linter.unusedVariables false
set_option linter.unusedSimpArgs false
namespace Go.Proofs.Ytiafgmepdgfpbaa
open Go.RowKit
theorem atake_flat {P : Program} {f n : Nat} {l l' : List (List PV)} {args : List AV} (h : ATake P f n l args true false l') (hf : RowsLike l') : ATake P f n l args false false l' := by
  refine ⟨h.1, fun w F G L v vals hok hFG _ hGs hnd hLG hrow hargs => ?_⟩
  refine (h.2 w G G L v vals hok (fun _ h => h) (fun _ _ h => h) hGs hnd hLG (OwnTop.keep hrow (fun b hb => ⟨hFG b hb, rfl⟩) fun _ _ => rfl) hargs).mono ?_
  rintro e w' ⟨u, rfl, h1, h2, L', h3, h4, h5⟩
  refine ⟨u, rfl, h1, h2, L', h3, h4, ?_⟩
  rcases h5 with h5 | ⟨g, cap, cur, e, rfl, rfl, hg, hs, hr, h5, h6⟩
  · exact .inl h5
  · exact .inr ⟨g, cap, cur, e, rfl, rfl, hg, hs, OR.vr (VR.orr (w' := w') hr hf) fun b hb => (by simp at hb), h5, h6⟩
theorem rng_lc {n : Nat} {hi : Int} (h0 : 0 ≤ hi) (h1 : hi ≤ (n : Int)) : (0 : Int) ≤ 0 ∧ 0 ≤ hi ∧ hi ≤ (n : Int) := ⟨Int.le_refl _, h0, h1⟩
section
variable {α : Type} {p : α → Bool}
def ixF (p : α → Bool) : List α → Int
  | [] => -1
  | a :: l => bif p a then 0 else bif ixF p l == -1 then -1 else ixF p l + 1
theorem ixF_bd (p : α → Bool) : ∀ l : List α, -1 ≤ ixF p l ∧ ixF p l < l.length
  | [] => by simp [ixF]
  | a :: l => by
    have ih := ixF_bd p l
    simp only [ixF, List.length_cons]
    cases p a with
    | true => simp only [cond_true]; omega
    | false =>
      simp only [cond_false]
      cases h : (ixF p l == -1) with
      | true => simp only [cond_true]; omega
      | false => simp only [cond_false]; omega
theorem idx_go {f : Nat → α → Unit → Rd Int Unit Unit} {e : Nat → Unit → Unit} (hf : ∀ k a s, f k a s = bif p a then .ret ((k : Nat) : Int) else .next ()) : ∀ (l : List α) (k : Nat), forL f e l k () = bif ixF p l == -1 then .brk () else .ret ((k : Int) + ixF p l)
  | [], k => rfl
  | a :: l, k => by
    simp only [forL, hf, ixF]
    cases p a with
    | true => simp only [cond_true]; rw [show ((0 : Int) == -1) = false from rfl, cond_false, Int.add_zero]
    | false =>
      simp only [cond_false]
      rw [idx_go hf l (k + 1)]
      have hb := ixF_bd p l
      cases h : (ixF p l == -1) with
      | true => simp only [cond_true]; rfl
      | false =>
        have hne : ixF p l ≠ -1 := by simpa using h
        simp only [cond_false]
        rw [show (ixF p l + 1 == -1) = false by simp; omega, cond_false]
        congr 1; omega
theorem idx_eq {f : Nat → α → Unit → Rd Int Unit Unit} {e : Nat → Unit → Unit} (hf : ∀ k a s, f k a s = bif p a then .ret ((k : Nat) : Int) else .next ()) (l : List α) : Out.on (forL f e l 0 ()) (fun _ => -1) = ixF p l := by
  rw [idx_go hf]
  cases h : (ixF p l == -1) with
  | true => simp only [cond_true, Out.on]; exact (by simpa using h : ixF p l = -1).symm
  | false => simp only [cond_false, Out.on]; omega
theorem ixF_none {l : List α} (h : ixF p l = -1) : ∀ a, a ∈ l → p a = false := by
  induction l with
  | nil => intro a ha; simp at ha
  | cons b l ih =>
    intro a ha
    have hb := ixF_bd p l
    simp only [ixF] at h
    cases hp : p b with
    | true => rw [hp] at h; simp at h
    | false =>
      rw [hp] at h
      simp only [cond_false] at h
      cases h2 : (ixF p l == -1) with
      | true => rcases List.mem_cons.1 ha with rfl | ha
                · exact hp
                · exact ih (by simpa using h2) a ha
      | false => rw [h2] at h; simp only [cond_false] at h; omega
theorem ixF_some {l : List α} {i : Nat} (h : ixF p l = (i : Int)) : (l.take i).filter (fun a => !p a) = l.take i ∧ ∃ a, l[i]? = some a ∧ p a = true := by
  induction l generalizing i with
  | nil => simp [ixF] at h
  | cons b l ih =>
    have hb := ixF_bd p l
    simp only [ixF] at h
    cases hp : p b with
    | true =>
      rw [hp] at h
      simp only [cond_true] at h
      obtain rfl : i = 0 := by omega
      exact ⟨rfl, b, rfl, hp⟩
    | false =>
      rw [hp] at h
      simp only [cond_false] at h
      cases h2 : (ixF p l == -1) with
      | true => rw [h2] at h; simp only [cond_true] at h; omega
      | false =>
        rw [h2] at h
        simp only [cond_false] at h
        have : ixF p l ≠ -1 := by simpa using h2
        obtain ⟨j, rfl⟩ : ∃ j, i = j + 1 := ⟨i - 1, by omega⟩
        obtain ⟨h3, a, h4, h5⟩ := ih (i := j) (by omega)
        exact ⟨by simp [hp, h3], a, by simpa using h4, h5⟩
theorem whl_more {R S T : Type} {f : S → Rd R S T} : ∀ {n m : Nat} {s : S} {x : Out R T}, whl f n s = some x → n ≤ m → whl f m s = some x
  | 0, _, _, _, h, _ => by simp [whl] at h
  | n + 1, 0, _, _, _, hm => absurd hm (Nat.not_succ_le_zero n)
  | n + 1, m + 1, s, x, h, hm => by
    simp only [whl] at h ⊢
    cases hf : f s with
    | brk t => rw [hf] at h; exact h
    | ret r => rw [hf] at h; exact h
    | next s' => rw [hf] at h; exact whl_more h (by omega)
variable [Inhabited α]
def DelStep {R : Type} (f : List α × Int × Int → Rd R (List α × Int × Int) (List α × Int)) (p : α → Bool) : Prop :=
  ∀ (s : List α) (i j : Nat), i < j → j ≤ 1073741824 → f (s, (i : Int), (j : Int)) = bif decide ((j : Int) < (s.length : Int)) then (bif p (nth s j) then .next (s, (i : Int), ((j + 1 : Nat) : Int)) else .next (s.set i (nth s j), ((i + 1 : Nat) : Int), ((j + 1 : Nat) : Int))) else .brk (s, (i : Int))
theorem del_run {R : Type} {f : List α × Int × Int → Rd R (List α × Int × Int) (List α × Int)} (hf : DelStep f p) (o : List α) (ho : o.length ≤ 1073741824) : ∀ (n : Nat) (s : List α) (i j : Nat), j + n = o.length → i < j → s.length = o.length → s.take i = (o.take j).filter (fun a => !p a) → s.drop j = o.drop j →
    ∃ s' i', whl f (n + 1) (s, (i : Int), (j : Int)) = some (.brk (s', ((i' : Nat) : Int))) ∧ s'.take i' = o.filter (fun a => !p a) ∧ i' < o.length ∧ s'.length = o.length
  | 0, s, i, j, hn, hij, hl, ht, hd => by
    refine ⟨s, i, ?_, ?_, by omega, hl⟩
    · simp only [whl, hf s i j hij (by omega)]
      rw [decide_eq_false (by omega)]
      rfl
    · rw [ht, List.take_of_length_le (by omega)]
  | n + 1, s, i, j, hn, hij, hl, ht, hd => by
    have hj : j < s.length := by omega
    have hjo : j < o.length := by omega
    have hx : nth s j = o[j] := by
      have h1 : s[j]? = o[j]? := by
        have := congrArg (fun l => l[0]?) hd
        simpa [List.getElem?_drop] using this
      rw [List.getElem?_eq_getElem hjo] at h1
      simp [nth, List.getD, h1]
    have htj : o.take (j + 1) = o.take j ++ [o[j]] := by rw [List.take_add_one, List.getElem?_eq_getElem hjo]; rfl
    have hd1 : ∀ s2 : List α, s2.drop (j + 1) = s.drop (j + 1) → s2.drop (j + 1) = o.drop (j + 1) := fun s2 h2 => by
      have := congrArg (List.drop 1) hd
      rw [List.drop_drop, List.drop_drop] at this
      exact h2.trans this
    have hst : f (s, (i : Int), (j : Int)) = _ := hf s i j hij (by omega)
    rw [decide_eq_true (by omega), hx] at hst
    simp only [cond_true] at hst
    cases hp : p o[j] with
    | true =>
      rw [hp] at hst
      simp only [whl, hst, cond_true]
      exact del_run hf o ho n s i (j + 1) (by omega) (by omega) hl (by rw [ht, htj, List.filter_append]; simp [hp]) (hd1 s rfl)
    | false =>
      rw [hp] at hst
      simp only [whl, hst, cond_false]
      refine del_run hf o ho n (s.set i o[j]) (i + 1) (j + 1) (by omega) (by omega) (by simpa using hl) ?_ (hd1 _ (List.drop_set_of_lt (by omega)))
      rw [htj, List.filter_append, ← ht]
      rw [List.take_add_one, List.take_set_of_le (Nat.le_refl i), List.getElem?_set_self (by omega)]
      simp [hp]
theorem del_main {R : Type} {f : List α × Int × Int → Rd R (List α × Int × Int) (List α × Int)} (hf : DelStep f p) {o : List α} (ho : o.length ≤ 1073741824) {ix : Int} (hix : ix = ixF p o) (hne : ix ≠ -1) :
    ∃ s' i', whl f (o.length + 1) (o, ix, ix + 1) = some (.brk (s', ((i' : Nat) : Int))) ∧ s'.take i' = o.filter (fun a => !p a) ∧ i' < o.length ∧ s'.length = o.length := by
  have hb := ixF_bd p o
  obtain ⟨i, hi⟩ : ∃ i : Nat, ix = (i : Int) := ⟨ix.toNat, by omega⟩
  obtain ⟨h1, a, h2, h3⟩ := ixF_some (p := p) (l := o) (i := i) (by omega)
  have hio : i < o.length := by omega
  obtain ⟨s', i', h4, h5⟩ := del_run hf o ho (o.length - (i + 1)) o i (i + 1) (by omega) (by omega) rfl (by
    rw [List.take_add_one, h2, List.filter_append, h1]; simp [h3]) rfl
  refine ⟨s', i', ?_, h5⟩
  subst hi
  exact whl_more h4 (by omega)
theorem del_some {R : Type} {f : List α × Int × Int → Rd R (List α × Int × Int) (List α × Int)} (hf : DelStep f p) {o : List α} (ho : o.length ≤ 1073741824) {ix : Int} (hix : ix = ixF p o) (hne : ix ≠ -1) : (whl f (o.length + 1) (o, ix, ix + 1)).isSome = true := by
  obtain ⟨s', i', h, _⟩ := del_main hf ho hix hne
  rw [h]; rfl
theorem del_eq {f : List α × Int × Int → Rd (List α) (List α × Int × Int) (List α × Int)} (hf : DelStep f p) {o : List α} (ho : o.length ≤ 1073741824) {ix : Int} (hix : ix = ixF p o) :
    (bif (ix == (-1 : Int)) then o else Out.on (whlD f (o.length + 1) (o, ix, ix + 1)) (fun y => List.take (Int.toNat y.2) y.1)) = o.filter (fun a => !p a) := by
  cases h : (ix == (-1 : Int)) with
  | true =>
    have h : ix = -1 := by simpa using h
    simp only [cond_true]
    exact (List.filter_eq_self.2 fun a ha => by simp [ixF_none (hix ▸ h) a ha]).symm
  | false =>
    obtain ⟨s', i', h1, h2, _⟩ := del_main hf ho hix (by simpa using h)
    simp only [cond_false, whlD, h1]
    simpa [Out.on] using h2
end
end Go.Proofs.Ytiafgmepdgfpbaa
