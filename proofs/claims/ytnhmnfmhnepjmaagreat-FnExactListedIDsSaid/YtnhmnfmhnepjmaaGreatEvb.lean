/- Evaluation: both sides alike; what the contents are like. -/
import Derived.Test.YtnhmnfmhnepjmaaGreatEva
set_option linter.unusedVariables false
set_option linter.unusedSimpArgs false
namespace Go.Proofs.YtnhmnfmhnepjmaaGreat
open Go.RowKit
theorem contains_iff (v : ByteArray) (l : List ByteArray) : slicesContains_string l v = true ↔ v ∈ l := by
  unfold slicesContains_string slicesIndex_string
  have key : ∀ (l : List ByteArray) (k : Nat), (0 : Int) ≤ ((forL (slicesIndex_string_f0 v) slicesIndex_string_e0 l k ()).on fun _ => -1) ↔ v ∈ l := by
    intro l
    induction l with
    | nil => intro k; simp [forL, Out.on]
    | cons a l ih =>
      intro k
      simp only [forL, slicesIndex_string_f0]
      have hab : (v.toList == a.toList) = decide (v = a) := toList_inj
      cases hc : (v.toList == a.toList) with
      | true =>
        obtain rfl : v = a := by rw [hc] at hab; exact of_decide_eq_true hab.symm
        simp [Out.on]
      | false =>
        have h : v ≠ a := by rw [hc] at hab; exact of_decide_eq_false hab.symm
        simp only [cond_false]
        refine (ih (k + 1)).trans ?_
        simp [h]
  exact decide_eq_true_iff.trans (key l 0)
theorem dirNames_eq (d : List DirD) : implDirNames d = d.map (·.1) := by
  unfold implDirNames
  rw [forL_map (f := implDirNames_f0) (g := fun a : DirD => a.1) (fun _ _ _ => rfl)]
  simp [Out.on, implDirNames_e0]
theorem contains_dir {d : List DirD} {i : Nat} {a : DirD} (h : d[i]? = some a) : slicesContains_string (implDirNames d) a.1 = true := by
  rw [contains_iff, dirNames_eq]
  exact List.mem_map.2 ⟨a, List.mem_of_getElem? h, rfl⟩
/-! ### the greatest stratum -/
theorem max_fold (x : List Int) : ∀ (n k : Nat) (s : Int), k + 1 + n = x.length → forN (slicesMax_int_f0 x) slicesMax_int_e0 n k s = .brk ((x.drop (k + 1)).foldl max s)
  | 0, k, s, h => by rw [List.drop_eq_nil_of_le (by omega)]; rfl
  | n + 1, k, s, h => by
    have hg : x[k + 1]? = some (nth x (k + 1)) := nth_get (by omega)
    rw [drop_at hg]
    simp only [forN, slicesMax_int_f0, List.foldl_cons]
    exact max_fold x n (k + 1) _ (by omega)
theorem maxS_fold : ∀ (x : List Int) (k : Nat) (s : Int), forL specMaxStratum_f0 specMaxStratum_e0 x k s = .brk (x.foldl max s)
  | [], k, s => rfl
  | a :: x, k, s => by
    simp only [forL, specMaxStratum_f0, List.foldl_cons]
    by_cases h : a > s
    · rw [decide_eq_true h, cond_true, show max s a = a by omega]; exact maxS_fold x (k + 1) a
    · rw [decide_eq_false h, cond_false, show max s a = s by omega]; exact maxS_fold x (k + 1) s
theorem maxStratum_eq (d : List DirD) : specMaxStratum d = implMaxStratum d := by
  unfold specMaxStratum implMaxStratum
  rw [strata_alike, maxS_fold]
  simp only [Out.on]
  cases hs : (implStrata d).2 with
  | false =>
    have : (implStrata d).1 = [] := by
      unfold implStrata at hs ⊢
      cases hv : implIsValidDirs d with
      | false => rfl
      | true =>
        rw [hv] at hs
        simp only [Bool.not_true, cond_false] at hs ⊢
        have h5 := vdirs_len hv
        have hw := whl_climb (d := d) (f := implStrata_f1 d) (e := implStrata_e1) (F := implStrata_f0 d) (fun _ _ _ => rfl) (fun _ _ => rfl) (fun _ => rfl) (by omega) (d.length * d.length + 3) (List.replicate d.length 0) true (zeroL_ok _).1 (zeroL_ok _).2
        have hsome : (climb (edgesD d) d.length d.length (d.length * d.length + 3) (true, List.replicate d.length 0)).isSome = true := by
          have := implStrata_w d h5
          rw [Int.toNat_natCast, hw, Option.isSome_map] at this
          exact this
        obtain ⟨r, hr⟩ := Option.isSome_iff_exists.1 hsome
        unfold whlD at hs ⊢
        rw [Int.toNat_natCast, hw, hr] at hs ⊢
        cases r with
        | none => rfl
        | some M => simp [endD, Out.on] at hs
    rw [this]; rfl
  | true =>
    obtain ⟨h1, h2, h3⟩ := strata_small hs
    simp only [Bool.not_true, Bool.false_or]
    generalize (implStrata d).1 = x at h3
    cases x with
    | nil => rfl
    | cons a x =>
      have h0 := (h3 a (List.mem_cons_self ..)).1
      have e : ((((a :: x).length : Nat) : Int) == (0 : Int)) = false := by
        rw [beq_eq_false_iff_ne, List.length_cons]; omega
      rw [e, cond_false]
      unfold slicesMax_int
      rw [max_fold _ _ _ _ (by simp; omega)]
      simp only [Out.on, List.foldl_cons, Nat.zero_add, List.drop_succ_cons, List.drop_zero]
      have e2 : nth (a :: x) 0 = a := rfl
      rw [show max (-1) a = a by omega, e2]
/-! ### the evaluation -/
theorem l15_f3 (s : StoreD) (d : List DirD) (k1 k : Nat) (a : DirD) (t : List ResultD × Bool) (h : d[k]? = some a) : specl15Run_f3 s d k1 k a t = implevaluated_f3 s d (implDirNames d) k1 k a t := by
  unfold specl15Run_f3 implevaluated_f3
  rw [contains_dir h, strata_alike, ← select_eq, ints_dec, eqI_dec]
  simp
theorem l15_f2 (s : StoreD) (d : List DirD) (k1 : Nat) : specl15Run_f2 s d k1 = implevaluated_f2 s d (implDirNames d) k1 := by
  funext t
  unfold specl15Run_f2 implevaluated_f2
  rw [forL_congr (f := specl15Run_f3 s d k1) (g := implevaluated_f3 s d (implDirNames d) k1) (e := specl15Run_e3) (e' := implevaluated_e3) (fun _ _ => rfl) d 0 _ (fun i a t h => by rw [Nat.zero_add]; exact l15_f3 s d k1 i a t h)]
theorem l15_eq (s : StoreD) (d : List DirD) : specl15Run s d = implevaluated s d [] (implDirNames d) := by
  unfold specl15Run implevaluated
  rw [strata_alike, store_eq, maxStratum_eq]
  rw [forL_congr (f := specl15Run_f0) (g := implevaluated_f0 [] (implDirNames d)) (e := specl15Run_e0) (e' := implevaluated_e0) (fun _ _ => rfl) d 0 _ (fun i a t h => by unfold specl15Run_f0 implevaluated_f0; rw [contains_dir h]; rfl)]
  congr 1
  congr 1
  funext y
  rw [show specl15Run_f1 s d = implevaluated_f1 s d (implDirNames d) from by funext k t; unfold specl15Run_f1 implevaluated_f1; rw [l15_f2]]
  rfl
theorem evaluate_eq (s : StoreD) (d : List DirD) : specEvaluate s d = implEvaluate s d := by
  unfold specEvaluate implEvaluate
  rw [l15_eq]
theorem evaluated_ok {s : StoreD} {d : List DirD} {names : List ByteArray} {r : List ResultD} (h : (implevaluated s d r names).2.2 = true) : List.length d ≤ 5 ∧ implIsValidStore s = true ∧ (implevaluated s d r names).1.map (·.1) = d.map (·.1) ∧ ∀ j, j < d.length → onD d names j = true → (nth (implevaluated s d r names).1 j).2.length ≤ s.2.1.length := by
  unfold implevaluated at h ⊢
  cases hc : ((!(((implStrata d)).2)) || (!(implIsValidStore s))) with
  | true => rw [hc] at h; simp at h
  | false =>
    have hs : ((implStrata d)).2 = true := bnot_f (or_l hc)
    have hv : implIsValidStore s = true := bnot_f (or_r hc)
    simp only [cond_false]
    obtain ⟨h1, h2⟩ := ev_start (L := ((implStrata d)).1) (on := onD d names) (B := List.length s.2.1) (g := startG r names) (f := implevaluated_f0 r names) (e := implevaluated_e0) (d := d) (fun k a s => by
      unfold implevaluated_f0 startG
      cases slicesContains_string names a.1 <;> rfl) (fun j _ hj => by unfold onD at hj; unfold startG; rw [hj]; rfl)
    rw [h1]
    have key : ∀ (n k : Nat) (o : List ResultD) (p : Int), EvS d ((implStrata d)).1 (onD d names) (List.length s.2.1) (((k : Nat)) : Int) o → ∃ o' p', forN (implevaluated_f1 s d names) implevaluated_e1 n k (o, p) = .brk (o', p') ∧ EvS d ((implStrata d)).1 (onD d names) (List.length s.2.1) (((k + n : Nat)) : Int) o' := by
      intro n
      induction n with
      | zero => intro k o p ho; exact ⟨o, p, rfl, ho⟩
      | succ n ih =>
        intro k o p ho
        obtain ⟨o1, p1, g1, g2⟩ := evaluated_run (p := p) hs ho
        obtain ⟨o2, p2, g3, g4⟩ := ih (k + 1) o1 p1 (by rw [Int.natCast_add]; exact g2)
        refine ⟨o2, p2, ?_, by rw [show k + (n + 1) = k + 1 + n by omega]; exact g4⟩
        simp only [forN]
        unfold implevaluated_f1 whlD
        rw [g1]
        exact g3
    obtain ⟨o, p, g1, g2⟩ := key (Int.toNat (implMaxStratum d + 1)) 0 _ 0 h2
    simp only [Out.on, implevaluated_e0]
    rw [g1]
    exact ⟨(strata_small hs).2.1, hv, g2.names, fun j hj hon => g2.short j hj hon⟩
theorem evaluate_ok {s : StoreD} {d : List DirD} (h : (implEvaluate s d).2 = true) : List.length d ≤ 5 ∧ implIsValidStore s = true ∧ (implEvaluate s d).1.map (·.1) = d.map (·.1) ∧ ∀ x, x ∈ (implEvaluate s d).1 → x.2.length ≤ s.2.1.length := by
  unfold implEvaluate at h ⊢
  obtain ⟨h1, h2, h3, h4⟩ := evaluated_ok h
  refine ⟨h1, h2, h3, fun x hx => ?_⟩
  obtain ⟨i, hi⟩ := List.getElem?_of_mem hx
  have hlen : (implevaluated s d [] (implDirNames d)).1.length = d.length := by have := congrArg List.length h3; simpa using this
  have hi' : i < (implevaluated s d [] (implDirNames d)).1.length := (List.getElem?_eq_some_iff.1 hi).1
  have hil : i < d.length := by omega
  have := h4 i hil (by unfold onD; exact contains_dir (nth_get hil))
  rw [nth_of hi] at this
  exact this
theorem evaluate_no {s : StoreD} {d : List DirD} (h : (implEvaluate s d).2 = false) : (implEvaluate s d).1 = [] := by
  unfold implEvaluate at h ⊢
  unfold implevaluated at h ⊢
  cases hc : ((!(((implStrata d)).2)) || (!(implIsValidStore s))) with
  | true => rfl
  | false =>
    exfalso
    have hs : ((implStrata d)).2 = true := bnot_f (or_l hc)
    rw [hc] at h
    simp only [cond_false] at h
    obtain ⟨h1, h2⟩ := ev_start (L := ((implStrata d)).1) (on := onD d (implDirNames d)) (B := List.length s.2.1) (g := startG [] (implDirNames d)) (f := implevaluated_f0 [] (implDirNames d)) (e := implevaluated_e0) (d := d) (fun k a s => by
      unfold implevaluated_f0 startG
      cases slicesContains_string (implDirNames d) a.1 <;> rfl) (fun j _ hj => by unfold onD at hj; unfold startG; rw [hj]; rfl)
    rw [h1] at h
    have key : ∀ (n k : Nat) (o : List ResultD) (p : Int), EvS d ((implStrata d)).1 (onD d (implDirNames d)) (List.length s.2.1) (((k : Nat)) : Int) o → ∃ y, forN (implevaluated_f1 s d (implDirNames d)) implevaluated_e1 n k (o, p) = .brk y := by
      intro n
      induction n with
      | zero => intro k o p ho; exact ⟨_, rfl⟩
      | succ n ih =>
        intro k o p ho
        obtain ⟨o1, p1, g1, g2⟩ := evaluated_run (p := p) hs ho
        obtain ⟨y, g3⟩ := ih (k + 1) o1 p1 (by rw [Int.natCast_add]; exact g2)
        refine ⟨y, ?_⟩
        simp only [forN]
        unfold implevaluated_f1 whlD
        rw [g1]
        exact g3
    obtain ⟨y, g1⟩ := key (Int.toNat (implMaxStratum d + 1)) 0 _ 0 h2
    simp only [Out.on, implevaluated_e0] at h
    rw [g1] at h
    cases h
end Go.Proofs.YtnhmnfmhnepjmaaGreat
