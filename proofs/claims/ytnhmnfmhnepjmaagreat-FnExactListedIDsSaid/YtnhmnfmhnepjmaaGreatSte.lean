/- The reference's rounds, edge by edge. -/
import Derived.Test.YtnhmnfmhnepjmaaGreatStd
set_option linter.unusedVariables false
set_option linter.unusedSimpArgs false
namespace Go.Proofs.YtnhmnfmhnepjmaaGreat
open Go.RowKit
def Low (b : Int) (L : List Int) : Prop := ∀ j, 0 ≤ nth L j ∧ nth L j ≤ b
theorem bump_low {b w : Int} {i : Nat} {L : List Int} {p : Nat} (hi : i < L.length) (hw : 0 ≤ w ∧ w ≤ 1) (h : Low b L) : Low (b + w) (bump i L (p, w)) := fun j => by
  rw [bump_nth _ hi]
  have h1 := h j
  have h2 := h p
  have h3 := h i
  split
  · show 0 ≤ max (nth L i) (nth L p + w) ∧ max (nth L i) (nth L p + w) ≤ b + w; omega
  · omega
theorem f1_loop (d : List DirD) (k0 : Nat) : ∀ (l : List ByteArray) (k : Nat) (s : List Int) (b : Int), k0 < s.length → Low b s → forL (specl13Raise_f1 d k0) specl13Raise_e1 l k s = .brk (bumps k0 (edgesOfN d 0 l) s) ∧ Low b (bumps k0 (edgesOfN d 0 l) s)
  | [], k, s, b, _, h => ⟨rfl, h⟩
  | a :: l, k, s, b, hk, h => by
    have hf : specl13Raise_f1 d k0 k a s = (bif (decide (0 ≤ impldirAt d a) && decide (nth s k0 < nth s (Int.toNat (impldirAt d a)))) then .next (List.set s k0 (nth s (Int.toNat (impldirAt d a)))) else .next s) := rfl
    simp only [forL, hf, edgesOfN]
    by_cases h0 : 0 ≤ impldirAt d a
    · rw [if_pos h0, decide_eq_true h0, Bool.true_and]
      have hb : Low b (bump k0 s (Int.toNat (impldirAt d a), 0)) := by have := bump_low (w := 0) (p := Int.toNat (impldirAt d a)) hk (by omega) h; simpa using this
      have hbk : bumps k0 ((Int.toNat (impldirAt d a), 0) :: edgesOfN d 0 l) s = bumps k0 (edgesOfN d 0 l) (bump k0 s (Int.toNat (impldirAt d a), 0)) := rfl
      rw [hbk]
      have ih := f1_loop d k0 l (k + 1) (bump k0 s (Int.toNat (impldirAt d a), 0)) b (by rw [bump_len]; exact hk) hb
      by_cases h1 : nth s k0 < nth s (Int.toNat (impldirAt d a))
      · have e : bump k0 s (Int.toNat (impldirAt d a), 0) = List.set s k0 (nth s (Int.toNat (impldirAt d a))) := by unfold bump; simp [h1]
        rw [decide_eq_true h1, cond_true]
        rw [e] at ih ⊢; exact ih
      · have e : bump k0 s (Int.toNat (impldirAt d a), 0) = s := by unfold bump; simp [h1]
        rw [decide_eq_false h1, cond_false]
        rw [e] at ih ⊢; exact ih
    · rw [if_neg h0, decide_eq_false h0, Bool.false_and, cond_false]
      exact f1_loop d k0 l (k + 1) s b hk h
theorem f2_loop (d : List DirD) (k0 : Nat) : ∀ (l : List ByteArray) (k : Nat) (s : List Int) (b : Int), k0 < s.length → Low b s → b + l.length ≤ 1000000 → forL (specl13Raise_f2 d k0) specl13Raise_e2 l k s = .brk (bumps k0 (edgesOfN d 1 l) s) ∧ Low (b + l.length) (bumps k0 (edgesOfN d 1 l) s)
  | [], k, s, b, _, h, _ => ⟨rfl, by show Low (b + ((0 : Nat) : Int)) s; simpa using h⟩
  | a :: l, k, s, b, hk, h, hb => by
    rw [List.length_cons] at hb ⊢
    have hf : specl13Raise_f2 d k0 k a s = (bif (decide (0 ≤ impldirAt d a) && decide (nth s k0 < IntKind.i64.wrap (nth s (Int.toNat (impldirAt d a)) + 1))) then .next (List.set s k0 (IntKind.i64.wrap (nth s (Int.toNat (impldirAt d a)) + 1))) else .next s) := rfl
    simp only [forL, hf, edgesOfN]
    have hl : b + ((l.length + 1 : Nat) : Int) = b + 1 + (l.length : Int) := by omega
    have hw : IntKind.i64.wrap (nth s (Int.toNat (impldirAt d a)) + 1) = nth s (Int.toNat (impldirAt d a)) + 1 := IntWalk.i64_in _ (by have := h (Int.toNat (impldirAt d a)); omega)
    rw [hl] at hb ⊢
    by_cases h0 : 0 ≤ impldirAt d a
    · rw [if_pos h0, decide_eq_true h0, Bool.true_and, hw]
      have hlow := bump_low (w := 1) (p := Int.toNat (impldirAt d a)) hk (by omega) h
      have hbk : bumps k0 ((Int.toNat (impldirAt d a), 1) :: edgesOfN d 1 l) s = bumps k0 (edgesOfN d 1 l) (bump k0 s (Int.toNat (impldirAt d a), 1)) := rfl
      rw [hbk]
      have ih := f2_loop d k0 l (k + 1) (bump k0 s (Int.toNat (impldirAt d a), 1)) (b + 1) (by rw [bump_len]; exact hk) hlow hb
      by_cases h1 : nth s k0 < nth s (Int.toNat (impldirAt d a)) + 1
      · have e : bump k0 s (Int.toNat (impldirAt d a), 1) = List.set s k0 (nth s (Int.toNat (impldirAt d a)) + 1) := by unfold bump; rw [if_pos h1]
        rw [decide_eq_true h1, cond_true]
        rw [e] at ih ⊢; exact ih
      · have e : bump k0 s (Int.toNat (impldirAt d a), 1) = s := by unfold bump; rw [if_neg h1]
        rw [decide_eq_false h1, cond_false]
        rw [e] at ih ⊢; exact ih
    · rw [if_neg h0, decide_eq_false h0, Bool.false_and, cond_false]
      exact f2_loop d k0 l (k + 1) s (b + 1) hk (fun j => by have := h j; omega) hb
theorem deps_grow (q : List NodeD) (b : Bool) : ∀ (l : List Bool) (k : Nat) (s : List ByteArray), ∃ t, forL (impldepsBelow_f0 q b) impldepsBelow_e0 l k s = .brk t ∧ t.length ≤ s.length + l.length
  | [], k, s => ⟨s, rfl, by simp⟩
  | a :: l, k, s => by
    simp only [forL, impldepsBelow_f0]
    cases (implnamesDir (nth q k) && (a == b)) with
    | true =>
      obtain ⟨t, h1, h2⟩ := deps_grow q b l (k + 1) (s ++ [(nth q k).2.2.2.1])
      exact ⟨t, h1, by simp at h2 ⊢; omega⟩
    | false =>
      obtain ⟨t, h1, h2⟩ := deps_grow q b l (k + 1) s
      exact ⟨t, h1, by simp at h2 ⊢; omega⟩
theorem negated9 (q : List NodeD) : List.length (implNegatedNodes q) ≤ 9 := by
  cases hv : implIsValidQuery q with
  | true => have := negated_len q; have := (vq_len hv).2; omega
  | false => unfold implNegatedNodes; rw [hv]; simp
theorem deps9 (q : List NodeD) (b : Bool) : List.length (impldepsBelow q b) ≤ 9 := by
  unfold impldepsBelow
  obtain ⟨t, h1, h2⟩ := deps_grow q b (implNegatedNodes q) 0 []
  rw [h1]
  have h3 := negated9 q
  have h4 := compS_len (sortS t)
  rw [sortS_len] at h4
  show (compS (sortS t)).length ≤ 9
  simp at h2
  omega
theorem bumps_app (i : Nat) (E1 E2 : Edges) (L : List Int) : bumps i (E1 ++ E2) L = bumps i E2 (bumps i E1 L) := List.foldl_append
theorem f0_step {d : List DirD} {k : Nat} {a : DirD} {s : List Int} {b : Int} (hk : d[k]? = some a) (hs : s.length = d.length) (h : Low b s) (hb : b + 9 ≤ 1000000) : specl13Raise_f0 d k a s = .next (bumps k (edgesD d k) s) ∧ Low (b + 9) (bumps k (edgesD d k) s) := by
  have hkl : k < d.length := (List.getElem?_eq_some_iff.1 hk).1
  have ha : nth d k = a := nth_of hk
  obtain ⟨h1, h2⟩ := f1_loop d k (implPositiveDeps a.2) 0 s b (by omega) h
  have h9 : (implNegativeDeps a.2).length ≤ 9 := deps9 a.2 true
  obtain ⟨h3, h4⟩ := f2_loop d k (implNegativeDeps a.2) 0 (bumps k (edgesOfN d 0 (implPositiveDeps a.2)) s) b (by rw [bumps_len]; omega) h2 (by omega)
  have he : edgesD d k = edgesOfN d 0 (implPositiveDeps a.2) ++ edgesOfN d 1 (implNegativeDeps a.2) := by unfold edgesD; rw [if_pos hkl, ha]
  rw [he, bumps_app]
  refine ⟨?_, fun j => by have := h4 j; omega⟩
  unfold specl13Raise_f0
  rw [posdeps_eq, negdeps_eq, h1]
  simp only [Out.on]
  rw [h3]
theorem raise_loop {d : List DirD} : ∀ (l : List DirD) (k : Nat) (s : List Int) (b : Int), d.drop k = l → s.length = d.length → Low b s → b + 9 * l.length ≤ 1000000 → forL (specl13Raise_f0 d) specl13Raise_e0 l k s = .brk (brounds (edgesD d) (List.range' k l.length) s) ∧ Low (b + 9 * l.length) (brounds (edgesD d) (List.range' k l.length) s)
  | [], k, s, b, _, _, h, _ => ⟨rfl, by show Low (b + 9 * ((0 : Nat) : Int)) s; simpa using h⟩
  | a :: l, k, s, b, hl, hs, h, hb => by
    have hk : d[k]? = some a := by
      have := congrArg (·[0]?) hl
      simpa using this
    have hrest : d.drop (k + 1) = l := by rw [← List.drop_drop, hl]; rfl
    rw [List.length_cons] at hb ⊢
    obtain ⟨h1, h2⟩ := f0_step hk hs h (by omega)
    have e : b + 9 * ((l.length + 1 : Nat) : Int) = b + 9 + 9 * (l.length : Int) := by omega
    rw [e] at hb ⊢
    obtain ⟨h3, h4⟩ := raise_loop l (k + 1) (bumps k (edgesD d k) s) (b + 9) hrest (by rw [bumps_len]; exact hs) h2 hb
    simp only [forL, h1, List.range'_succ]
    exact ⟨h3, h4⟩
theorem raise_bump {d : List DirD} {s : List Int} {b : Int} (hs : s.length = d.length) (h : Low b s) (hb : b + 9 * d.length ≤ 1000000) : specl13Raise d s = brounds (edgesD d) (List.range d.length) s ∧ Low (b + 9 * d.length) (brounds (edgesD d) (List.range d.length) s) := by
  obtain ⟨h1, h2⟩ := raise_loop d 0 s b rfl hs h hb
  have e1 : List.range' 0 d.length = List.range d.length := (List.range_eq_range' ..).symm
  rw [e1] at h1 h2
  refine ⟨?_, h2⟩
  unfold specl13Raise
  rw [h1]
  rfl
theorem rounds_loop {d : List DirD} (hd : d.length ≤ 5) : ∀ (n k m : Nat), m + n ≤ 1000 → Low (45 * m) (bafter (edgesD d) d.length m) → forN (specStrata_f0 d) specStrata_e0 n k (bafter (edgesD d) d.length m) = .brk (bafter (edgesD d) d.length (m + n)) ∧ Low (45 * (m + n)) (bafter (edgesD d) d.length (m + n))
  | 0, k, m, _, h => ⟨rfl, by simpa using h⟩
  | n + 1, k, m, hm, h => by
    obtain ⟨h1, h2⟩ := raise_bump (bafter_len (edgesD d) d.length m) h (by omega)
    have e : bafter (edgesD d) d.length (m + 1) = brounds (edgesD d) (List.range d.length) (bafter (edgesD d) d.length m) := rfl
    simp only [forN, specStrata_f0, h1]
    rw [← e] at h2 ⊢
    have := rounds_loop hd n (k + 1) (m + 1) (by omega) (fun j => by have := h2 j; omega)
    rw [show m + (n + 1) = m + 1 + n by omega]
    refine ⟨this.1, fun j => by have := this.2 j; omega⟩
theorem ints_go (b : List Int) : ∀ (l : List Int) (k : Nat), l.length = (b.drop k).length → Out.on (forL (specl07Ints_f0 b) specl07Ints_e0 l k ()) (fun _ => true) = decide (l = b.drop k)
  | [], k, h => by
    have : b.drop k = [] := List.eq_nil_of_length_eq_zero (by rw [← h]; rfl)
    rw [this]; rfl
  | a :: l, k, h => by
    have hk : k < b.length := by simp only [List.length_cons, List.length_drop] at h; omega
    have hd : b.drop k = nth b k :: b.drop (k + 1) := by
      rw [List.drop_eq_getElem_cons hk, show nth b k = b[k] by simp [nth, List.getD, hk]]
    rw [hd] at h ⊢
    simp only [forL, specl07Ints_f0]
    by_cases e : a = nth b k
    · rw [show (a != nth b k) = false by simp [e], cond_false, ints_go b l (k + 1) (by simpa using h)]
      simp [e]
    · rw [show (a != nth b k) = true by simp [e], cond_true]
      simp [e, Out.on]
theorem ints_eq (a b : List Int) (h : a.length = b.length) : specl07Ints a b = decide (a = b) := by
  unfold specl07Ints
  rw [show ((a.length : Int) != (b.length : Int)) = false by simp [h], cond_false, ints_go b a 0 (by simpa using h), List.drop_zero]
theorem strata_alike (d : List DirD) : specStrata d = implStrata d := by
  unfold specStrata implStrata
  rw [← vdirs_eq]
  cases hv : implIsValidDirs d with
  | false => rfl
  | true =>
    have h5 := vdirs_len hv
    obtain ⟨hn, _⟩ := dirs5 ((vdirs_eq d).symm.trans hv)
    simp only [Bool.not_true, cond_false]
    have hz : bafter (edgesD d) d.length 0 = List.replicate (Int.toNat (d.length : Int)) (0 : Int) := by rw [Int.toNat_natCast]; rfl
    have hnn : d.length * d.length ≤ 25 := Nat.le_trans (Nat.mul_le_mul h5 h5) (by decide)
    obtain ⟨h1, h2⟩ := rounds_loop (d := d) h5 (d.length * d.length + 2) 0 0 (by omega) (fun j => by rw [hz, Int.toNat_natCast, nth_zero]; omega)
    rw [hz, Nat.zero_add] at h1
    rw [Nat.zero_add] at h2
    rw [hn, show Int.toNat (((d.length * d.length + 1 : Nat) : Int) + 1) = d.length * d.length + 2 by omega, h1]
    simp only [Out.on]
    have hlen := bafter_len (edgesD d) d.length (d.length * d.length + 2)
    obtain ⟨h3, _⟩ := raise_bump (d := d) hlen h2 (by omega)
    rw [h3, ints_eq _ _ (by rw [brounds_len])]
    have hw := whl_climb (d := d) (f := implStrata_f1 d) (e := implStrata_e1) (F := implStrata_f0 d) (fun _ _ _ => rfl) (fun _ _ => rfl) (fun _ => rfl) (by omega) (d.length * d.length + 3) (List.replicate d.length 0) true (zeroL_ok _).1 (zeroL_ok _).2
    have hsome : (climb (edgesD d) d.length d.length (d.length * d.length + 3) (true, List.replicate d.length 0)).isSome = true := by
      have := implStrata_w d h5
      rw [Int.toNat_natCast, hw, Option.isSome_map] at this
      exact this
    obtain ⟨r, hr⟩ := Option.isSome_iff_exists.1 hsome
    unfold whlD
    rw [Int.toNat_natCast, hw, hr]
    obtain ⟨h6, h7⟩ := strata_eq (E := edgesD d) (n := d.length) (fun i e he => edgesD_ok d i e he) hr
    by_cases hfix : brounds (edgesD d) (List.range d.length) (bafter (edgesD d) d.length (d.length * d.length + 2)) = bafter (edgesD d) d.length (d.length * d.length + 2)
    · rw [h6 hfix, decide_eq_true hfix]
      rfl
    · rw [h7 hfix, decide_eq_false hfix]
      rfl
end Go.Proofs.YtnhmnfmhnepjmaaGreat
