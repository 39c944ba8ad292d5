/- What a query selects grows with the contents of the directories that it names, where those below a negation stay as they are. -/
import Derived.Test.YtnhmnfmhnepjmaaGreatSlb
import Derived.Test.YtnhmnfmhnepjmaaGreatSte
import Derived.Test.YtnhmnfmhnepjmaaGreatEv
set_option linter.unusedVariables false
set_option linter.unusedSimpArgs false
namespace Go.Proofs.YtnhmnfmhnepjmaaGreat
open Go.RowKit
/-! ### each node but the last is named once -/
def isRef (n : NodeD) (c : Int) : Bool := ((n.2.1 == c) && (n.1 == 6 || n.1 == 7 || n.1 == 5)) || ((n.2.2.1 == c) && (n.1 == 6 || n.1 == 7))
theorem refs_step (c : Int) (k : Nat) (a : NodeD) (s : Int) (h0 : 0 ≤ s) (h1 : s ≤ 1000) : ∃ s', implCountReferences_f0 c k a s = .next s' ∧ s + (bif isRef a c then 1 else 0) ≤ s' ∧ s' ≤ s + 2 := by
  have w1 : IntKind.i64.wrap (s + 1) = s + 1 := IntWalk.i64_in _ (by omega)
  have w2 : IntKind.i64.wrap (s + 1 + 1) = s + 1 + 1 := IntWalk.i64_in _ (by omega)
  unfold implCountReferences_f0 isRef
  rw [w1, w2]
  cases (a.2.1 == c) <;> cases (a.2.2.1 == c) <;> cases (a.1 == 6) <;> cases (a.1 == 7) <;> cases (a.1 == 5) <;> exact ⟨_, rfl, by first | (simp; done) | (simp; omega) | omega, by omega⟩
theorem refs_loop (c : Int) : ∀ (l : List NodeD) (k : Nat) (s : Int), 0 ≤ s → s + 2 * l.length ≤ 1000 → ∃ s', forL (implCountReferences_f0 c) implCountReferences_e0 l k s = .brk s' ∧ s + (l.filter fun n => isRef n c).length ≤ s'
  | [], k, s, _, _ => ⟨s, rfl, by simp⟩
  | a :: l, k, s, h0, h1 => by
    rw [List.length_cons] at h1
    obtain ⟨s1, e1, g1, g2⟩ := refs_step c k a s h0 (by omega)
    have hp : 0 ≤ s1 := by cases hb : isRef a c <;> (rw [hb] at g1; simp at g1; omega)
    obtain ⟨s2, e2, g3⟩ := refs_loop c l (k + 1) s1 hp (by omega)
    refine ⟨s2, by simp only [forL, e1]; exact e2, ?_⟩
    rw [List.filter_cons]
    cases hb : isRef a c with
    | true => rw [hb] at g1; simp only [cond_true] at g1; simp only [if_true, List.length_cons]; omega
    | false => rw [hb] at g1; simp only [cond_false] at g1; simp only [Bool.false_eq_true, if_false]; omega
theorem two_of {α : Type} {p : α → Bool} {l : List α} {i j : Nat} {a b : α} (hij : i < j) (hi : l[i]? = some a) (hj : l[j]? = some b) (ha : p a = true) (hb : p b = true) : 2 ≤ (l.filter p).length := by
  have e : l = l.take j ++ l.drop j := (List.take_append_drop j l).symm
  rw [e, List.filter_append, List.length_append]
  have h1 : 1 ≤ ((l.take j).filter p).length := List.length_pos_of_mem (a := a) (List.mem_filter.2 ⟨List.mem_of_getElem? (i := i) (by rw [List.getElem?_take, if_pos hij]; exact hi), ha⟩)
  have h2 : 1 ≤ ((l.drop j).filter p).length := List.length_pos_of_mem (a := b) (List.mem_filter.2 ⟨List.mem_of_getElem? (i := 0) (by rw [List.getElem?_drop]; exact hj), hb⟩)
  omega
theorem vq_refs {q : List NodeD} (h : implIsValidQuery q = true) {i : Nat} (hi : i + 1 < q.length) : implCountReferences q (i : Int) = 1 := by
  obtain ⟨⟨t, ht⟩, _⟩ := vq_run h
  have := forL_all (fun k a t => by unfold implIsValidQuery_f0; generalize (_ || _ : Bool) = c; cases c <;> simp) ht i (nth q i) (nth_get (by omega))
  unfold implIsValidQuery_f0 at this
  rw [Nat.zero_add] at this
  have hd : decide (((i : Nat) : Int) < ((q.length : Int) - 1)) = true := decide_eq_true (by omega)
  rw [hd, Bool.true_and] at this
  cases hn : (implCountReferences q ((i : Nat) : Int) != (1 : Int)) with
  | false => exact eq_of_bne hn
  | true => rw [hn, Bool.or_true] at this; simp at this
theorem ref_once {q : List NodeD} (h : implIsValidQuery q = true) {c i j : Nat} (hc : c + 1 < q.length) (hij : i < j) (hj : j < q.length) (h1 : isRef (nth q i) (c : Int) = true) (h2 : isRef (nth q j) (c : Int) = true) : False := by
  have hr := vq_refs h hc
  have hl := (vq_len h).2
  obtain ⟨s, e, g⟩ := refs_loop (c : Int) q 0 0 (by omega) (by omega)
  unfold implCountReferences at hr
  rw [e] at hr
  have := two_of (p := fun n => isRef n (c : Int)) hij (nth_get (by omega)) (nth_get hj) h1 h2
  simp only [Out.on] at hr
  omega
theorem ref_lt {q : List NodeD} (h : implIsValidQuery q = true) {c i : Nat} (hi : i < q.length) (hr : isRef (nth q i) (c : Int) = true) : c < i := by
  obtain ⟨h1, h2⟩ := vq_kids h (k := (i : Int)) (by omega) (by omega)
  rw [Int.toNat_natCast] at h1 h2
  unfold isRef at hr
  simp only [Bool.or_eq_true, Bool.and_eq_true, beq_iff_eq] at hr
  rcases hr with ⟨e, hop⟩ | ⟨e, hop⟩
  · have := h1 (by omega); omega
  · have := h2 (by omega); omega
/-! ### below a negation -/
theorem nth_setB {L : List Bool} {i : Nat} (x : Bool) (hi : i < L.length) (j : Nat) : nth (L.set i x) j = if j = i then x else nth L j := by
  unfold nth
  simp only [List.getD_eq_getElem?_getD, List.getElem?_set]
  by_cases h : i = j
  · subst h; simp [hi]
  · simp [h, Ne.symm h]
theorem neg_step {q : List NodeD} (h : implIsValidQuery q = true) {k : Nat} (hk : k < q.length) (s : List Bool) (hs : s.length = q.length) : ∃ s', implNegatedNodes_f0 q k s = .next s' ∧ s'.length = q.length ∧
    (∀ j : Nat, isRef (nth q (q.length - 1 - k)) (j : Int) = false → nth s' j = nth s j) ∧
    (∀ j : Nat, isRef (nth q (q.length - 1 - k)) (j : Int) = true → nth s' j = (nth s (q.length - 1 - k) || ((nth q (q.length - 1 - k)).1 == 5))) := by
  have hdn : Int.toNat (dn ((q.length : Int) - 1) k) = q.length - 1 - k := by rw [dn_eq]; omega
  obtain ⟨hl, hr⟩ := vq_kids h (k := ((q.length - 1 - k : Nat) : Int)) (by omega) (by omega)
  rw [Int.toNat_natCast] at hl hr
  have hlt : q.length - 1 - k < s.length := by omega
  unfold implNegatedNodes_f0
  rw [hdn]
  generalize q.length - 1 - k = i at hl hr hlt ⊢
  generalize nth q i = n at hl hr ⊢
  generalize (nth s i || (n.1 == 5)) = b
  have both : ∀ (e5 : (n.1 == (5 : Int)) = false), (n.1 = 6 ∨ n.1 = 7) → (List.set (List.set s (Int.toNat n.2.1) b) (Int.toNat n.2.2.1) b).length = q.length ∧ (∀ j : Nat, isRef n (j : Int) = false → nth (List.set (List.set s (Int.toNat n.2.1) b) (Int.toNat n.2.2.1) b) j = nth s j) ∧ (∀ j : Nat, isRef n (j : Int) = true → nth (List.set (List.set s (Int.toNat n.2.1) b) (Int.toNat n.2.2.1) b) j = b) := fun e5 h67 => by
    obtain ⟨g1, g2⟩ := hl (.inr h67)
    obtain ⟨g3, g4⟩ := hr h67
    have hop : (n.1 == 6 || n.1 == 7) = true := by rcases h67 with e | e <;> simp [e]
    have hlen : (List.set s (Int.toNat n.2.1) b).length = s.length := List.length_set ..
    refine ⟨by rw [List.length_set, hlen, hs], fun j hj => ?_, fun j hj => ?_⟩
    · simp only [isRef, hop, Bool.true_or, Bool.and_true, Bool.or_eq_false_iff, beq_eq_false_iff_ne, ne_eq] at hj
      rw [nth_set_ne _ (by omega), nth_set_ne _ (by omega)]
    · simp only [isRef, hop, Bool.true_or, Bool.and_true, Bool.or_eq_true, beq_iff_eq] at hj
      rw [nth_setB _ (by omega), nth_setB _ (by omega)]
      split
      · rfl
      · rw [if_pos (by omega)]
  by_cases h5 : n.1 = 5
  · obtain ⟨g1, g2⟩ := hl (.inl h5)
    simp only [h5, beq_self_eq_true, cond_true]
    refine ⟨_, rfl, by rw [List.length_set, hs], fun j hj => ?_, fun j hj => ?_⟩
    · have : n.2.1 ≠ (j : Int) := by simpa [isRef, h5] using hj
      exact nth_set_ne _ (by omega)
    · have : n.2.1 = (j : Int) := by simpa [isRef, h5] using hj
      rw [nth_setB _ (by omega), if_pos (by omega)]
  · have e5 : (n.1 == (5 : Int)) = false := beq_eq_false_iff_ne.2 h5
    rw [e5, cond_false]
    by_cases h6 : n.1 = 6
    · simp only [h6, beq_self_eq_true, cond_true]
      exact ⟨_, rfl, both e5 (.inl h6)⟩
    · by_cases h7 : n.1 = 7
      · simp only [h7, beq_self_eq_true, cond_true]
        exact ⟨_, rfl, both e5 (.inr h7)⟩
      · have e6 : (n.1 == (6 : Int)) = false := beq_eq_false_iff_ne.2 h6
        have e7 : (n.1 == (7 : Int)) = false := beq_eq_false_iff_ne.2 h7
        rw [e6, e7, cond_false, cond_false]
        refine ⟨_, rfl, hs, fun _ _ => rfl, fun j hj => ?_⟩
        simp [isRef, e5, e6, e7] at hj
def NegOk (q : List NodeD) (k : Nat) (s : List Bool) : Prop := s.length = q.length ∧ ∀ i, q.length ≤ i + k → i < q.length → ∀ c : Nat, isRef (nth q i) (c : Int) = true → nth s c = (nth s i || ((nth q i).1 == 5))
theorem neg_next {q : List NodeD} (h : implIsValidQuery q = true) {k : Nat} (hk : k < q.length) {s : List Bool} (hs : NegOk q k s) : ∃ s', implNegatedNodes_f0 q k s = .next s' ∧ NegOk q (k + 1) s' := by
  obtain ⟨s', h1, h2, h3, h4⟩ := neg_step h hk s hs.1
  have hself : nth s' (q.length - 1 - k) = nth s (q.length - 1 - k) := h3 _ (by
    cases hr : isRef (nth q (q.length - 1 - k)) ((q.length - 1 - k : Nat) : Int) with
    | false => rfl
    | true => have := ref_lt h (by omega) hr; omega)
  refine ⟨s', h1, h2, fun i hi1 hi2 c hc => ?_⟩
  by_cases e : i = q.length - 1 - k
  · subst e
    rw [h4 c hc, hself]
  · have hci := ref_lt h hi2 hc
    have n1 : isRef (nth q (q.length - 1 - k)) (c : Int) = false := by
      cases hr : isRef (nth q (q.length - 1 - k)) (c : Int) with
      | false => rfl
      | true => exact (ref_once h (c := c) (i := q.length - 1 - k) (j := i) (by omega) (by omega) hi2 hr hc).elim
    have n2 : isRef (nth q (q.length - 1 - k)) (i : Int) = false := by
      cases hr : isRef (nth q (q.length - 1 - k)) (i : Int) with
      | false => rfl
      | true => have := ref_lt h (by omega) hr; omega
    rw [h3 c n1, h3 i n2]
    exact hs.2 i (by omega) hi2 c hc
theorem neg_loop {q : List NodeD} (h : implIsValidQuery q = true) : ∀ (n k : Nat) (s : List Bool), k + n = q.length → NegOk q k s → ∃ s', forN (implNegatedNodes_f0 q) implNegatedNodes_e0 n k s = .brk s' ∧ NegOk q q.length s'
  | 0, k, s, hk, hs => ⟨s, rfl, by rw [show k = q.length by omega] at hs; exact hs⟩
  | n + 1, k, s, hk, hs => by
    obtain ⟨s1, h1, h2⟩ := neg_next h (by omega) hs
    obtain ⟨s2, h3, h4⟩ := neg_loop h n (k + 1) s1 (by omega) h2
    exact ⟨s2, by simp only [forN, h1]; exact h3, h4⟩
theorem neg_kids {q : List NodeD} (h : implIsValidQuery q = true) : NegOk q q.length (implNegatedNodes q) := by
  unfold implNegatedNodes
  obtain ⟨s, h1, h2⟩ := neg_loop h (List.length q) 0 (List.replicate (Int.toNat (q.length : Int)) false) (by omega) ⟨by simp, fun i h1 h2 => by omega⟩
  rw [h]
  simp only [Bool.not_true, cond_false, h1, Out.on]
  exact h2
theorem neg_name {q : List NodeD} {i : Nat} (hi : i < (implNegatedNodes q).length) (hn : nth (implNegatedNodes q) i = true) (hd : implnamesDir (nth q i) = true) : (nth q i).2.2.2.1 ∈ implNegativeDeps q := by
  have key : ∀ (l : List Bool) (k : Nat) (s : List ByteArray), ∃ t, forL (impldepsBelow_f0 q true) impldepsBelow_e0 l k s = .brk t ∧ (∀ x, x ∈ s → x ∈ t) ∧ ∀ j, l[j]? = some true → implnamesDir (nth q (k + j)) = true → (nth q (k + j)).2.2.2.1 ∈ t := by
    intro l
    induction l with
    | nil => intro k s; exact ⟨s, rfl, fun _ h => h, fun j h => by simp at h⟩
    | cons a l ih =>
      intro k s
      simp only [forL, impldepsBelow_f0]
      cases hc : (implnamesDir (nth q k) && (a == true)) with
      | true =>
        obtain ⟨t, h1, h2, h3⟩ := ih (k + 1) (s ++ [(nth q k).2.2.2.1])
        refine ⟨t, h1, fun x hx => h2 x (List.mem_append_left _ hx), fun j hj hnm => ?_⟩
        cases j with
        | zero => exact h2 _ (List.mem_append_right _ (by simp))
        | succ j =>
          have := h3 j (by simpa using hj) (by rwa [show k + 1 + j = k + (j + 1) by omega])
          rwa [show k + 1 + j = k + (j + 1) by omega] at this
      | false =>
        obtain ⟨t, h1, h2, h3⟩ := ih (k + 1) s
        refine ⟨t, h1, h2, fun j hj hnm => ?_⟩
        cases j with
        | zero =>
          obtain rfl : a = true := by simpa using hj
          rw [Nat.add_zero] at hnm
          rw [hnm] at hc; cases hc
        | succ j =>
          have := h3 j (by simpa using hj) (by rwa [show k + 1 + j = k + (j + 1) by omega])
          rwa [show k + 1 + j = k + (j + 1) by omega] at this
  unfold implNegativeDeps impldepsBelow
  obtain ⟨t, h1, _, h3⟩ := key (implNegatedNodes q) 0 []
  rw [h1]
  simp only [Out.on]
  have := h3 i (by rw [nth_get hi, hn]) (by rwa [Nat.zero_add])
  rw [Nat.zero_add] at this
  exact ((once_spec t).2 _).2 this
/-! ### what a node says -/
theorem cid_iff (l : List Int) (x : Int) : implContainsID l x = true ↔ x ∈ l := by
  rw [cid_eq]
  unfold specContainsID
  have key : ∀ (l : List Int) (k : Nat), ((forL (specContainsID_f0 x) specContainsID_e0 l k ()).on fun _ => false) = true ↔ x ∈ l := by
    intro l
    induction l with
    | nil => intro k; simp [forL, Out.on]
    | cons a l ih =>
      intro k
      simp only [forL, specContainsID_f0]
      by_cases h : a = x
      · subst h; simp [Out.on]
      · rw [beq_eq_false_iff_ne.2 h, cond_false, ih (k + 1)]
        simp [Ne.symm h]
  exact key l 0
structure Seen (q : List NodeD) (a b : List ResultD) : Prop where
  grow : ∀ nm x, x ∈ implResultIDs a nm → x ∈ implResultIDs b nm
  same : ∀ nm, nm ∈ implNegativeDeps q → implResultIDs a nm = implResultIDs b nm
theorem match_grow {q : List NodeD} (hv : implIsValidQuery q = true) {a b : List ResultD} (hs : Seen q a b) (f : FileD) : ∀ (n : Nat) (k : Nat), k < n → k < q.length →
    (nth (implNegatedNodes q) k = true → implmatchesAt n q (k : Int) f a = implmatchesAt n q (k : Int) f b) ∧ (implmatchesAt n q (k : Int) f a = true → implmatchesAt n q (k : Int) f b = true)
  | 0, _, h, _ => absurd h (by omega)
  | n + 1, k, hkn, hk => by
    obtain ⟨hl, hr⟩ := vq_kids hv (k := (k : Int)) (by omega) (by omega)
    rw [Int.toNat_natCast] at hl hr
    obtain ⟨hlen, hneg⟩ := neg_kids hv
    have hneg := hneg k (by omega) hk
    have hop := vn_op (vq_node hv (nth_get hk))
    have hnm := neg_name (q := q) (i := k) (by omega)
    have ih := match_grow hv hs f n
    unfold implmatchesAt
    rw [Int.toNat_natCast]
    generalize nth q k = m at hl hr hneg hop hnm ⊢
    have kid : ∀ c : Int, 0 ≤ c → c < (k : Int) → isRef m c = true → ((nth (implNegatedNodes q) k || (m.1 == 5)) = true → implmatchesAt n q c f a = implmatchesAt n q c f b) ∧ (implmatchesAt n q c f a = true → implmatchesAt n q c f b = true) := fun c h0 h1 hrf => by
      obtain ⟨j, rfl⟩ : ∃ j : Nat, c = (j : Int) := ⟨Int.toNat c, by omega⟩
      obtain ⟨g1, g2⟩ := ih j (by omega) (by omega)
      exact ⟨fun hn => g1 ((hneg j hrf).trans hn), g2⟩
    rcases hop with h | h | h | h | h | h | h | h | h
    · simp [h]
    · simp [h]
    · simp [h]
    · simp [h]
    · obtain ⟨k1, k2⟩ := hl (.inl h)
      obtain ⟨g1, _⟩ := kid m.2.1 k1 k2 (by simp [isRef, h])
      have := g1 (by simp [h])
      simp [h, this]
    · obtain ⟨k1, k2⟩ := hl (.inr (.inl h))
      obtain ⟨k3, k4⟩ := hr (.inl h)
      obtain ⟨g1, g2⟩ := kid m.2.1 k1 k2 (by simp [isRef, h])
      obtain ⟨g3, g4⟩ := kid m.2.2.1 k3 k4 (by simp [isRef, h])
      refine ⟨fun hn => ?_, fun hm => ?_⟩
      · simp [h, g1 (by simp [hn]), g3 (by simp [hn])]
      · simp [h] at hm ⊢
        exact ⟨g2 hm.1, g4 hm.2⟩
    · obtain ⟨k1, k2⟩ := hl (.inr (.inr h))
      obtain ⟨k3, k4⟩ := hr (.inr h)
      obtain ⟨g1, g2⟩ := kid m.2.1 k1 k2 (by simp [isRef, h])
      obtain ⟨g3, g4⟩ := kid m.2.2.1 k3 k4 (by simp [isRef, h])
      refine ⟨fun hn => ?_, fun hm => ?_⟩
      · simp [h, g1 (by simp [hn]), g3 (by simp [hn])]
      · simp [h] at hm ⊢
        exact hm.imp g2 g4
    · refine ⟨fun hn => ?_, fun hm => ?_⟩
      · simp [h, hs.same _ (hnm hn (by simp [implnamesDir, h]))]
      · simp [h] at hm ⊢
        exact (cid_iff _ _).2 (hs.grow _ _ ((cid_iff _ _).1 hm))
    · refine ⟨fun hn => ?_, fun hm => ?_⟩
      · simp [h, hs.same _ (hnm hn (by simp [implnamesDir, h]))]
      · simp [h] at hm ⊢
        exact ⟨hm.1, (cid_iff _ _).2 (hs.grow _ _ ((cid_iff _ _).1 hm.2))⟩
theorem matches_grow {q : List NodeD} {a b : List ResultD} (hs : Seen q a b) (f : FileD) (h : implMatches q f a = true) : implMatches q f b = true := by
  unfold implMatches at h ⊢
  cases hv : implIsValidQuery q with
  | false => rw [hv] at h; cases h
  | true =>
    rw [hv, Bool.true_and] at h
    rw [Bool.true_and]
    have hl := vq_len hv
    have e : ((q.length : Int) - 1) = ((q.length - 1 : Nat) : Int) := by omega
    rw [e] at h ⊢
    exact (match_grow hv hs f q.length (q.length - 1) (by omega) (by omega)).2 h
theorem select_sel (s : StoreD) (q : List NodeD) (r : List ResultD) : implSelectFiles s q r = sel s.2.1 (fun f => f.1) fun f => implMatches q f r := by
  unfold implSelectFiles
  rw [forL_filter (f := implSelectFiles_f0 q r) (p := fun f => implMatches q f r) (g := fun f => f.1) (fun _ _ _ => rfl)]
  rfl
/-! ### strata that hold -/
theorem strata_ok {d : List DirD} {L : List Int} (h : implStrata d = (L, true)) : implIsValidDirs d = true ∧ L.length = d.length ∧ Sat (edgesD d) d.length L ∧ ∀ j, 0 ≤ nth L j := by
  unfold implStrata at h
  cases hv : implIsValidDirs d with
  | false => rw [hv] at h; simp at h
  | true =>
    rw [hv] at h
    simp only [Bool.not_true, cond_false] at h
    have h5 := vdirs_len hv
    have hw := whl_climb (d := d) (f := implStrata_f1 d) (e := implStrata_e1) (F := implStrata_f0 d) (fun _ _ _ => rfl) (fun _ _ => rfl) (fun _ => rfl) (by omega) (d.length * d.length + 3) (List.replicate d.length 0) true (zeroL_ok _).1 (zeroL_ok _).2
    have hsome : (climb (edgesD d) d.length d.length (d.length * d.length + 3) (true, List.replicate d.length 0)).isSome = true := by
      have := implStrata_w d h5
      rw [Int.toNat_natCast, hw, Option.isSome_map] at this
      exact this
    obtain ⟨r, hr⟩ := Option.isSome_iff_exists.1 hsome
    unfold whlD at h
    rw [Int.toNat_natCast, hw, hr] at h
    have hw' : ∀ i e, e ∈ edgesD d i → e.2 ≤ 1 ∧ e.1 < d.length := fun i e he => ⟨(edgesD_ok d i e he).1, (edgesD_ok d i e he).2.1⟩
    obtain ⟨h1, _⟩ := climb_eq hw' _ 0 true r (fun e => by cases e) hr
    cases r with
    | none => simp [endD, Out.on] at h
    | some M =>
      have e : M = L := by simpa [endD, Out.on] using h
      subst e
      obtain ⟨hrest, hM⟩ := h1 M rfl
      rw [hM]
      exact ⟨rfl, after_len _ _ _, rest_sat (after_len _ _ _) hrest, fun j => after_nonneg _ _ j _⟩
theorem strata_le {d : List DirD} {L : List Int} (h : implStrata d = (L, true)) : ∀ j, nth L j ≤ (d.length : Int) := by
  obtain ⟨hv, hlen, _, _⟩ := strata_ok h
  have h5 := vdirs_len hv
  unfold implStrata at h
  rw [hv] at h
  simp only [Bool.not_true, cond_false] at h
  have hw := whl_climb (d := d) (f := implStrata_f1 d) (e := implStrata_e1) (F := implStrata_f0 d) (fun _ _ _ => rfl) (fun _ _ => rfl) (fun _ => rfl) (by omega) (d.length * d.length + 3) (List.replicate d.length 0) true (zeroL_ok _).1 (zeroL_ok _).2
  have hsome : (climb (edgesD d) d.length d.length (d.length * d.length + 3) (true, List.replicate d.length 0)).isSome = true := by
    have := implStrata_w d h5
    rw [Int.toNat_natCast, hw, Option.isSome_map] at this
    exact this
  obtain ⟨r, hr⟩ := Option.isSome_iff_exists.1 hsome
  unfold whlD at h
  rw [Int.toNat_natCast, hw, hr] at h
  have hw' : ∀ i e, e ∈ edgesD d i → e.2 ≤ 1 ∧ e.1 < d.length := fun i e he => ⟨(edgesD_ok d i e he).1, (edgesD_ok d i e he).2.1⟩
  obtain ⟨h1, _⟩ := climb_eq hw' _ 0 true r (fun e => by cases e) hr
  cases r with
  | none => simp [endD, Out.on] at h
  | some M =>
    have e : M = L := by simpa [endD, Out.on] using h
    subst e
    obtain ⟨hrest, hM⟩ := h1 M rfl
    intro j
    by_cases hj : j < d.length
    · rw [hM]; exact Int.le_of_lt (rest_lt hw' hrest j hj)
    · have : nth M j = 0 := nth_out (by omega)
      omega
theorem edgesOfN_mem {d : List DirD} {w : Int} {nm : ByteArray} : ∀ {l : List ByteArray}, nm ∈ l → 0 ≤ impldirAt d nm → (Int.toNat (impldirAt d nm), w) ∈ edgesOfN d w l
  | x :: l, h, h0 => by
    simp only [edgesOfN]
    rcases List.mem_cons.1 h with rfl | h
    · rw [if_pos h0]; exact List.mem_cons_self ..
    · split
      · exact List.mem_cons_of_mem _ (edgesOfN_mem h h0)
      · exact edgesOfN_mem h h0
theorem strata_neg {d : List DirD} {L : List Int} (h : implStrata d = (L, true)) {i : Nat} (hi : i < d.length) {nm : ByteArray} (hn : nm ∈ implNegativeDeps (nth d i).2) (h0 : 0 ≤ impldirAt d nm) : nth L (Int.toNat (impldirAt d nm)) < nth L i := by
  obtain ⟨_, _, hs, _⟩ := strata_ok h
  have hm : (Int.toNat (impldirAt d nm), (1 : Int)) ∈ edgesD d i := by
    unfold edgesD
    rw [if_pos hi]
    exact List.mem_append_right _ (edgesOfN_mem hn h0)
  have := (need_le.1 (hs i hi)).2 _ hm
  simp only at this
  omega
end Go.Proofs.YtnhmnfmhnepjmaaGreat
