/- Texts of this proof, put together by a program: Ste, Isa, Isb, Ckc, Slb, Ev, Ex, Ey, Eva, Evb, Eua, Eub, Enp, Wk, Vf, Tw, Clr. -/
import Derived.Test.YtcnkkobgogmakaaGreatP4
import Derived.KernelRfl
set_option linter.unusedVariables false
set_option linter.unusedSimpArgs false
namespace Go.Proofs.YtcnkkobgogmakaaGreat
open Go.RowKit
def Low (b : Int) (L : List Int) : Prop := ∀ j, 0 ≤ nth L j ∧ nth L j ≤ b
theorem bump_low {b w : Int} {i : Nat} {L : List Int} {p : Nat} (hi : i < L.length) (hw : 0 ≤ w ∧ w ≤ 1) (h : Low b L) : Low (b + w) (bump i L (p, w)) := fun j => by
  rw [bump_nth _ hi]
  have h1 := h j
  have h2 := h p
  have h3 := h i
  split
  · show 0 ≤ max (nth L i) (nth L p + w) ∧ max (nth L i) (nth L p + w) ≤ b + w; omega
  · omega
theorem f1_loop (d : List X1) (k0 : Nat) : ∀ (l : List ByteArray) (k : Nat) (s : List Int) (b : Int), k0 < s.length → Low b s → Xg (specl13Raise_f1 d k0) specl13Raise_e1 l k s = .brk (bumps k0 (edgesOfN d 0 l) s) ∧ Low b (bumps k0 (edgesOfN d 0 l) s)
  | [], k, s, b, _, h => ⟨rfl, h⟩
  | a :: l, k, s, b, hk, h => by
    have hf : specl13Raise_f1 d k0 k a s = (bif (decide (0 ≤ Xj d a) && decide (nth s k0 < nth s (Int.toNat (Xj d a)))) then .next (List.set s k0 (nth s (Int.toNat (Xj d a)))) else .next s) := rfl
    simp only [Xg, hf, edgesOfN]
    by_cases h0 : 0 ≤ Xj d a
    · rw [if_pos h0, decide_eq_true h0, Bool.true_and]
      have hb : Low b (bump k0 s (Int.toNat (Xj d a), 0)) := by have := bump_low (w := 0) (p := Int.toNat (Xj d a)) hk (by omega) h; simpa using this
      have hbk : bumps k0 ((Int.toNat (Xj d a), 0) :: edgesOfN d 0 l) s = bumps k0 (edgesOfN d 0 l) (bump k0 s (Int.toNat (Xj d a), 0)) := rfl
      rw [hbk]
      have ih := f1_loop d k0 l (k + 1) (bump k0 s (Int.toNat (Xj d a), 0)) b (by rw [bump_len]; exact hk) hb
      by_cases h1 : nth s k0 < nth s (Int.toNat (Xj d a))
      · have e : bump k0 s (Int.toNat (Xj d a), 0) = List.set s k0 (nth s (Int.toNat (Xj d a))) := by unfold bump; simp [h1]
        rw [decide_eq_true h1, cond_true]
        rw [e] at ih ⊢; exact ih
      · have e : bump k0 s (Int.toNat (Xj d a), 0) = s := by unfold bump; simp [h1]
        rw [decide_eq_false h1, cond_false]
        rw [e] at ih ⊢; exact ih
    · rw [if_neg h0, decide_eq_false h0, Bool.false_and, cond_false]
      exact f1_loop d k0 l (k + 1) s b hk h
theorem f2_loop (d : List X1) (k0 : Nat) : ∀ (l : List ByteArray) (k : Nat) (s : List Int) (b : Int), k0 < s.length → Low b s → b + l.length ≤ 1000000 → Xg (specl13Raise_f2 d k0) specl13Raise_e2 l k s = .brk (bumps k0 (edgesOfN d 1 l) s) ∧ Low (b + l.length) (bumps k0 (edgesOfN d 1 l) s)
  | [], k, s, b, _, h, _ => ⟨rfl, by show Low (b + ((0 : Nat) : Int)) s; simpa using h⟩
  | a :: l, k, s, b, hk, h, hb => by
    rw [List.length_cons] at hb ⊢
    have hf : specl13Raise_f2 d k0 k a s = (bif (decide (0 ≤ Xj d a) && decide (nth s k0 < IntKind.i64.wrap (nth s (Int.toNat (Xj d a)) + 1))) then .next (List.set s k0 (IntKind.i64.wrap (nth s (Int.toNat (Xj d a)) + 1))) else .next s) := rfl
    simp only [Xg, hf, edgesOfN]
    have hl : b + ((l.length + 1 : Nat) : Int) = b + 1 + (l.length : Int) := by omega
    have hw : IntKind.i64.wrap (nth s (Int.toNat (Xj d a)) + 1) = nth s (Int.toNat (Xj d a)) + 1 := IntWalk.i64_in _ (by have := h (Int.toNat (Xj d a)); omega)
    rw [hl] at hb ⊢
    by_cases h0 : 0 ≤ Xj d a
    · rw [if_pos h0, decide_eq_true h0, Bool.true_and, hw]
      have hlow := bump_low (w := 1) (p := Int.toNat (Xj d a)) hk (by omega) h
      have hbk : bumps k0 ((Int.toNat (Xj d a), 1) :: edgesOfN d 1 l) s = bumps k0 (edgesOfN d 1 l) (bump k0 s (Int.toNat (Xj d a), 1)) := rfl
      rw [hbk]
      have ih := f2_loop d k0 l (k + 1) (bump k0 s (Int.toNat (Xj d a), 1)) (b + 1) (by rw [bump_len]; exact hk) hlow hb
      by_cases h1 : nth s k0 < nth s (Int.toNat (Xj d a)) + 1
      · have e : bump k0 s (Int.toNat (Xj d a), 1) = List.set s k0 (nth s (Int.toNat (Xj d a)) + 1) := by unfold bump; rw [if_pos h1]
        rw [decide_eq_true h1, cond_true]
        rw [e] at ih ⊢; exact ih
      · have e : bump k0 s (Int.toNat (Xj d a), 1) = s := by unfold bump; rw [if_neg h1]
        rw [decide_eq_false h1, cond_false]
        rw [e] at ih ⊢; exact ih
    · rw [if_neg h0, decide_eq_false h0, Bool.false_and, cond_false]
      exact f2_loop d k0 l (k + 1) s (b + 1) hk (fun j => by have := h j; omega) hb
theorem deps_grow (q : List Xa) (b : Bool) : ∀ (l : List Bool) (k : Nat) (s : List ByteArray), ∃ t, Xg (impldepsBelow_f0 q b) impldepsBelow_e0 l k s = .brk t ∧ t.length ≤ s.length + l.length
  | [], k, s => ⟨s, rfl, by simp⟩
  | a :: l, k, s => by
    simp only [Xg, impldepsBelow_f0]
    cases (implnamesDir (nth q k) && (a == b)) with
    | true =>
      obtain ⟨t, h1, h2⟩ := deps_grow q b l (k + 1) (s ++ [(nth q k).2.2.2.1])
      exact ⟨t, h1, by simp at h2 ⊢; omega⟩
    | false =>
      obtain ⟨t, h1, h2⟩ := deps_grow q b l (k + 1) s
      exact ⟨t, h1, by simp at h2 ⊢; omega⟩
theorem negated9 (q : List Xa) : List.length (Xh q) ≤ 9 := by
  cases hv : Qx q with
  | true => have := negated_len q; have := (vq_len hv).2; omega
  | false => unfold Xh; rw [hv]; simp
theorem deps9 (q : List Xa) (b : Bool) : List.length (impldepsBelow q b) ≤ 9 := by
  unfold impldepsBelow
  obtain ⟨t, h1, h2⟩ := deps_grow q b (Xh q) 0 []
  rw [h1]
  have h3 := negated9 q
  have h4 := compS_len (sortS t)
  rw [sortS_len] at h4
  show (compS (sortS t)).length ≤ 9
  simp at h2
  omega
theorem bumps_app (i : Nat) (E1 E2 : Edges) (L : List Int) : bumps i (E1 ++ E2) L = bumps i E2 (bumps i E1 L) := List.foldl_append
theorem f0_step {d : List X1} {k : Nat} {a : X1} {s : List Int} {b : Int} (hk : d[k]? = some a) (hs : s.length = d.length) (h : Low b s) (hb : b + 9 ≤ 1000000) : specl13Raise_f0 d k a s = .next (bumps k (edgesD d k) s) ∧ Low (b + 9) (bumps k (edgesD d k) s) := by
  have hkl : k < d.length := (List.getElem?_eq_some_iff.1 hk).1
  have ha : nth d k = a := nth_of hk
  obtain ⟨h1, h2⟩ := f1_loop d k (Yb a.2) 0 s b (by omega) h
  have h9 : (Xz a.2).length ≤ 9 := deps9 a.2 true
  obtain ⟨h3, h4⟩ := f2_loop d k (Xz a.2) 0 (bumps k (edgesOfN d 0 (Yb a.2)) s) b (by rw [bumps_len]; omega) h2 (by omega)
  have he : edgesD d k = edgesOfN d 0 (Yb a.2) ++ edgesOfN d 1 (Xz a.2) := by unfold edgesD; rw [if_pos hkl, ha]
  rw [he, bumps_app]
  refine ⟨?_, fun j => by have := h4 j; omega⟩
  unfold specl13Raise_f0
  rw [posdeps_eq, negdeps_eq, h1]
  simp only [Out.on]
  rw [h3]
theorem raise_loop {d : List X1} : ∀ (l : List X1) (k : Nat) (s : List Int) (b : Int), d.drop k = l → s.length = d.length → Low b s → b + 9 * l.length ≤ 1000000 → Xg (specl13Raise_f0 d) specl13Raise_e0 l k s = .brk (brounds (edgesD d) (List.range' k l.length) s) ∧ Low (b + 9 * l.length) (brounds (edgesD d) (List.range' k l.length) s)
  | [], k, s, b, _, _, h, _ => ⟨rfl, by show Low (b + 9 * ((0 : Nat) : Int)) s; simpa using h⟩
  | a :: l, k, s, b, hl, hs, h, hb => by
    have hk : d[k]? = some a := by
      have := congrArg (·[0]?) hl
      simpa using this
    have hrest : d.drop (k + 1) = l := by rw [← List.drop_drop, hl]; rfl
    rw [List.length_cons] at hb ⊢
    obtain ⟨h1, h2⟩ := f0_step hk hs h (by omega)
    have e : b + 9 * ((l.length + 1 : Nat) : Int) = b + 9 + 9 * (l.length : Int) := by omega
    rw [e] at hb ⊢
    obtain ⟨h3, h4⟩ := raise_loop l (k + 1) (bumps k (edgesD d k) s) (b + 9) hrest (by rw [bumps_len]; exact hs) h2 hb
    simp only [Xg, h1, List.range'_succ]
    exact ⟨h3, h4⟩
theorem raise_bump {d : List X1} {s : List Int} {b : Int} (hs : s.length = d.length) (h : Low b s) (hb : b + 9 * d.length ≤ 1000000) : specl13Raise d s = brounds (edgesD d) (List.range d.length) s ∧ Low (b + 9 * d.length) (brounds (edgesD d) (List.range d.length) s) := by
  obtain ⟨h1, h2⟩ := raise_loop d 0 s b rfl hs h hb
  have e1 : List.range' 0 d.length = List.range d.length := (List.range_eq_range' ..).symm
  rw [e1] at h1 h2
  refine ⟨?_, h2⟩
  unfold specl13Raise
  rw [h1]
  rfl
theorem rounds_loop {d : List X1} (hd : d.length ≤ 5) : ∀ (n k m : Nat), m + n ≤ 1000 → Low (45 * m) (bafter (edgesD d) d.length m) → forN (specStrata_f0 d) specStrata_e0 n k (bafter (edgesD d) d.length m) = .brk (bafter (edgesD d) d.length (m + n)) ∧ Low (45 * (m + n)) (bafter (edgesD d) d.length (m + n))
  | 0, k, m, _, h => ⟨rfl, by simpa using h⟩
  | n + 1, k, m, hm, h => by
    obtain ⟨h1, h2⟩ := raise_bump (bafter_len (edgesD d) d.length m) h (by omega)
    have e : bafter (edgesD d) d.length (m + 1) = brounds (edgesD d) (List.range d.length) (bafter (edgesD d) d.length m) := rfl
    simp only [forN, specStrata_f0, h1]
    rw [← e] at h2 ⊢
    have := rounds_loop hd n (k + 1) (m + 1) (by omega) (fun j => by have := h2 j; omega)
    rw [show m + (n + 1) = m + 1 + n by omega]
    refine ⟨this.1, fun j => by have := this.2 j; omega⟩
theorem ints_go (b : List Int) : ∀ (l : List Int) (k : Nat), l.length = (b.drop k).length → Out.on (Xg (specl07Ints_f0 b) specl07Ints_e0 l k ()) (fun _ => true) = decide (l = b.drop k)
  | [], k, h => by
    have : b.drop k = [] := List.eq_nil_of_length_eq_zero (by rw [← h]; rfl)
    rw [this]; rfl
  | a :: l, k, h => by
    have hk : k < b.length := by simp only [List.length_cons, List.length_drop] at h; omega
    have hd : b.drop k = nth b k :: b.drop (k + 1) := by
      rw [List.drop_eq_getElem_cons hk, show nth b k = b[k] by simp [nth, List.getD, hk]]
    rw [hd] at h ⊢
    simp only [Xg, specl07Ints_f0]
    by_cases e : a = nth b k
    · rw [show (a != nth b k) = false by simp [e], cond_false, ints_go b l (k + 1) (by simpa using h)]
      simp [e]
    · rw [show (a != nth b k) = true by simp [e], cond_true]
      simp [e, Out.on]
theorem ints_eq (a b : List Int) (h : a.length = b.length) : specl07Ints a b = decide (a = b) := by
  unfold specl07Ints
  rw [show ((a.length : Int) != (b.length : Int)) = false by simp [h], cond_false, ints_go b a 0 (by simpa using h), List.drop_zero]
theorem strata_alike (d : List X1) : X0 d = Q5 d := by
  unfold X0 Q5
  rw [← vdirs_eq]
  cases hv : implIsValidDirs d with
  | false => rfl
  | true =>
    have h5 := vdirs_len hv
    obtain ⟨hn, _⟩ := dirs5 ((vdirs_eq d).symm.trans hv)
    simp only [Bool.not_true, cond_false]
    have hz : bafter (edgesD d) d.length 0 = List.replicate (Int.toNat (d.length : Int)) (0 : Int) := by rw [Int.toNat_natCast]; rfl
    have hnn : d.length * d.length ≤ 25 := Nat.le_trans (Nat.mul_le_mul h5 h5) (by decide)
    obtain ⟨h1, h2⟩ := rounds_loop (d := d) h5 (d.length * d.length + 2) 0 0 (by omega) (fun j => by rw [hz, Int.toNat_natCast, nth_zero]; omega)
    rw [hz, Nat.zero_add] at h1
    rw [Nat.zero_add] at h2
    rw [hn, show Int.toNat (((d.length * d.length + 1 : Nat) : Int) + 1) = d.length * d.length + 2 by omega, h1]
    simp only [Out.on]
    have hlen := bafter_len (edgesD d) d.length (d.length * d.length + 2)
    obtain ⟨h3, _⟩ := raise_bump (d := d) hlen h2 (by omega)
    rw [h3, ints_eq _ _ (by rw [brounds_len])]
    have hw := whl_climb (d := d) (f := implStrata_f1 d) (e := implStrata_e1) (F := implStrata_f0 d) (fun _ _ _ => rfl) (fun _ _ => rfl) (fun _ => rfl) (by omega) (d.length * d.length + 3) (List.replicate d.length 0) true (zeroL_ok _).1 (zeroL_ok _).2
    have hsome : (climb (edgesD d) d.length d.length (d.length * d.length + 3) (true, List.replicate d.length 0)).isSome = true := by
      have := implStrata_w d h5
      rw [Int.toNat_natCast, hw, Option.isSome_map] at this
      exact this
    obtain ⟨r, hr⟩ := Option.isSome_iff_exists.1 hsome
    unfold whlD
    rw [Int.toNat_natCast, hw, hr]
    obtain ⟨h6, h7⟩ := strata_eq (E := edgesD d) (n := d.length) (fun i e he => edgesD_ok d i e he) hr
    by_cases hfix : brounds (edgesD d) (List.range d.length) (bafter (edgesD d) d.length (d.length * d.length + 2)) = bafter (edgesD d) d.length (d.length * d.length + 2)
    · rw [h6 hfix, decide_eq_true hfix]
      rfl
    · rw [h7 hfix, decide_eq_false hfix]
      rfl
open GoE (enc wide)
def implFieldKind_f0 (name : ByteArray) (_ : Nat) (a0 : FieldD) (_ : Unit) : Rd (Int) (Unit) (Unit) := (bif (a0.1.toList == name.toList) then (.ret a0.2) else (.next ()))
def implFieldKind_e0 (_ : Nat) (_ : Unit) : Unit := ()
def implFieldKind (s_ : (List FieldD)) (name : ByteArray) : Int := (Out.on (Xg (implFieldKind_f0 name) implFieldKind_e0 s_ 0 ()) (fun _ => 0))
theorem implFieldKind_a (s_ : (List FieldD)) (name : ByteArray) : ACalls Tryz.prog 268 [.h s_, .s name] (.i (implFieldKind s_ name)) := by
 refine en Qc Tryz.func268 fun w0 F0 hG => ?_
 refine sn Qc [0, 1, 4] [] (p0) ?_
 refine Qg ?_
 refine tn Qc [1, 4, 7, 8, 9] [] (pl 1 s_ p0) ?_
 refine mz [(4, .i 0), (7, .h s_), (8, .i (s_.length : Int)), (9, .i 0)] [0] [] [] ?_
 refine wT 7 0 .sh s_ (fun hw1 hl2 => ?_)
 refine blk (fun (k0 : Nat) (s0 : Unit) => [(9, .i ((k0 : Nat) : Int))]) [9] (fun k0 s0 => []) [] (fun (y0 : Unit) => []) [1, 7, 8, 9] (fun y0 => []) [] (fun (k0 : Nat) (s0 : Unit) => (Xg (implFieldKind_f0 name) implFieldKind_e0 s_ 0 ()) = Xg (implFieldKind_f0 name) implFieldKind_e0 (List.drop k0 s_) k0 s0) (fun (y0 : Unit) => (Xg (implFieldKind_f0 name) implFieldKind_e0 s_ 0 ()) = .brk y0) s_.length () (Qf (by kernel_rfl)) rfl (fun k0 s0 hk0 hI0 => ?_) (fun k0 s0 hk0 hI0 => ?_) (fun y0 hD0 => ?_)
 ·
  obtain ⟨a0, hx0⟩ := Xq (l := s_) (i := k0) hk0
  refine sn Qc [1, 4, 7, 8, 9, 10] [] (pe 0 (Q0 (decide_eq_true (p := ((k0 : Nat) : Int) < (s_.length : Int)) (by omega))) p0) ?_
  refine Qg ?_
  refine ckT ?_
  refine Qo ?_
  refine Qg ?_
  refine Q6 ?_
  refine tn Qc [1, 4, 6, 7, 8, 9] [6] (pn 0 hx0 p0) ?_
  refine tu Qc [(6, .p 6 0), (16, .b (a0.1.toList == name.toList))] [] [(6, [.s a0.1, .i a0.2])] [] (p0) ?_
  refine ck (a0.1.toList == name.toList) (fun h3 => ?_) (fun h3 => ?_)
  ·
   refine sn Qc [1, 4, 7, 8, 9] [] (p0) ?_
   refine Qp ?_
   have hr4 : (Xg (implFieldKind_f0 name) implFieldKind_e0 s_ 0 ()) = .ret a0.2 := Zw hx0 (Xm h3 (rfl)) hI0
   exact Ye [] (congrArg (fun z => (.i z : AV)) (show implFieldKind s_ name = _ from on_r hr4).symm)
  ·
   refine Qo ?_
   refine rn Qc [1, 4, 7, 8, 9] [] (pe 0 (av_i (Qy k0 (by omega))) p0) ?_
   exact Exists.intro _ (And.intro (Qf (by kernel_rfl)) (Q4 hx0 (Qz h3 (rfl)) hI0))
 ·
  refine sn Qc [1, 4, 7, 8, 9, 10] [] (pe 0 (Q0 (decide_eq_false (p := ((k0 : Nat) : Int) < (s_.length : Int)) (by omega))) p0) ?_
  refine Qg ?_
  refine ckF ?_
  refine Xc ?_
  exact Exists.intro _ (And.intro (Qf (by kernel_rfl)) (Xr hk0 (rfl) hI0))
 ·
  refine sn Qc [4] [] (p0) ?_
  refine Qp ?_
  exact Ye [] (congrArg (fun z => (.i z : AV)) (show implFieldKind s_ name = _ from on_b hD0 (rfl)).symm)
def implMatchesSchema (s_ : (List FieldD)) (name : ByteArray) (v : ValueD) : Bool := ((Z6 v) && ((v.1 != (0 : Int)) && (v.1 == (implFieldKind s_ name))))
theorem implMatchesSchema_a (s_ : (List FieldD)) (name : ByteArray) (v : ValueD) : ACalls Tryz.prog 239 [.h s_, .s name, .a [.i v.1, .i v.2.1, .s v.2.2]] (.b (implMatchesSchema s_ name v)) := by
 refine en Qc Tryz.func239 fun w0 F0 hG => ?_
 refine sn Qc [0, 1, 5, 6] [5] (p0) ?_
 refine Qg ?_
 refine mz [(5, .p 5 0), (6, .b false)] [2] [(5, [.i v.1, .i v.2.1, .s v.2.2])] [] ?_
 refine jn [(6, .b ((Z6 v) && ((v.1 != (0 : Int)) && (v.1 == (implFieldKind s_ name)))))] [0, 1, 5, 6] [] [5] (Z6 v) (fun h1 => ?_) (fun h1 => ?_) ?_
 ·
  refine Xw (v.1 != (0 : Int)) (fun h2 => ?_) (fun h2 => ?_)
  ·
   refine rN Qc Z4 [6] [] (pc 1 (cb h1 (implIsValidValue_a v)) (pt 5 h2 (pc 12 (implFieldKind_a s_ name) p0))) ?_
   exact ⟨rfl, Qf (by rw [h1, h2]; first | done | kernel_rfl)⟩
  ·
   refine rN Qc Z4 [6] [] (pc 1 (cb h1 (implIsValidValue_a v)) (pf 5 h2 p0)) ?_
   exact ⟨rfl, Qf (by rw [h1, h2]; first | done | kernel_rfl)⟩
 ·
  refine rN Qc Z4 [6] [] (pc 1 (cb h1 (implIsValidValue_a v)) p0) ?_
  exact ⟨rfl, Qf (by rw [h1]; first | done | kernel_rfl)⟩
 refine Qp ?_
 exact Ye [] (congrArg (fun z => (.b z : AV)) (show implMatchesSchema s_ name v = ((Z6 v) && ((v.1 != (0 : Int)) && (v.1 == (implFieldKind s_ name)))) from rfl).symm)
def implisUser (n : Int) : Bool := (Zl n 0 2)
theorem implisUser_a (n : Int) : ACalls Tryz.prog 68 [.i n] (.b (implisUser n)) := by
 refine en Qc Tryz.func68 fun w0 F0 hG => ?_
 refine sn Qc [0, 2] [] (p0) ?_
 refine tn Qc [2] [] (pc 1 (implwithin_a n 0 2) p0) ?_
 refine Qp ?_
 exact Ye [] (congrArg (fun z => (.b z : AV)) (show implisUser n = (Zl n 0 2) from rfl).symm)
def implIsValidSchema_f0 (s_ : (List FieldD)) (k0 : Nat) (a0 : FieldD) (_ : Unit) : Rd (Bool) (Unit) (Unit) := (bif ((!(Yr a0.1)) || (bif (a0.2 != (1 : Int)) then ((a0.2 != (2 : Int)) || (decide (((k0 : Nat) : Int) > (0 : Int)) && (!(Op.bytesLess ((nth s_ (Int.toNat (((k0 : Nat) : Int) - 1))).1).toList a0.1.toList)))) else (decide (((k0 : Nat) : Int) > (0 : Int)) && (!(Op.bytesLess ((nth s_ (Int.toNat (((k0 : Nat) : Int) - 1))).1).toList a0.1.toList))))) then (.ret false) else (.next ()))
def implIsValidSchema_e0 (_ : Nat) (_ : Unit) : Unit := ()
def implIsValidSchema (s_ : (List FieldD)) : Bool := (Out.on (Xg (implIsValidSchema_f0 s_) implIsValidSchema_e0 s_ 0 ()) (fun _ => decide ((s_.length : Int) ≤ (5 : Int))))
theorem implIsValidSchema_a (s_ : (List FieldD)) : ACalls Tryz.prog 191 [.h s_] (.b (implIsValidSchema s_)) := by
 refine en Qc Tryz.func191 fun w0 F0 hG => ?_
 refine sn Qc [0, 2] [] (p0) ?_
 refine Qg ?_
 refine tn Qc [0, 2, 5, 6, 7] [] (pl 1 s_ p0) ?_
 refine mz [(2, .b false), (5, .h s_), (6, .i (s_.length : Int)), (7, .i 0)] [] [] [] ?_
 refine wT 0 0 .sh s_ (fun hw1 hl2 => ?_)
 refine blk (fun (k0 : Nat) (s0 : Unit) => [(7, .i ((k0 : Nat) : Int))]) [7] (fun k0 s0 => []) [] (fun (y0 : Unit) => []) [5, 6, 7] (fun y0 => []) [] (fun (k0 : Nat) (s0 : Unit) => (Xg (implIsValidSchema_f0 s_) implIsValidSchema_e0 s_ 0 ()) = Xg (implIsValidSchema_f0 s_) implIsValidSchema_e0 (List.drop k0 s_) k0 s0) (fun (y0 : Unit) => (Xg (implIsValidSchema_f0 s_) implIsValidSchema_e0 s_ 0 ()) = .brk y0) s_.length () (Qf (by kernel_rfl)) rfl (fun k0 s0 hk0 hI0 => ?_) (fun k0 s0 hk0 hI0 => ?_) (fun y0 hD0 => ?_)
 ·
  obtain ⟨a0, hx0⟩ := Xq (l := s_) (i := k0) hk0
  refine sn Qc [0, 2, 5, 6, 7, 8] [] (pe 0 (Q0 (decide_eq_true (p := ((k0 : Nat) : Int) < (s_.length : Int)) (by omega))) p0) ?_
  refine Qg ?_
  refine ckT ?_
  refine Qo ?_
  refine Qg ?_
  refine Q6 ?_
  refine tn Qc [0, 2, 3, 4, 5, 6, 7] [4] (pn 1 hx0 p0) ?_
  refine Qg ?_
  refine mz [(3, .i ((k0 : Nat) : Int)), (4, .p 4 0)] [] [(4, [.s a0.1, .i a0.2])] [] ?_
  refine jn [(40, .b ((!(Yr a0.1)) || (bif (a0.2 != (1 : Int)) then ((a0.2 != (2 : Int)) || (decide (((k0 : Nat) : Int) > (0 : Int)) && (!(Op.bytesLess ((nth s_ (Int.toNat (((k0 : Nat) : Int) - 1))).1).toList a0.1.toList)))) else (decide (((k0 : Nat) : Int) > (0 : Int)) && (!(Op.bytesLess ((nth s_ (Int.toNat (((k0 : Nat) : Int) - 1))).1).toList a0.1.toList))))))] [3, 4] [] [4] (!(Yr a0.1)) (fun h3 => ?_) (fun h3 => ?_) ?_
  ·
   have h3n : (Yr a0.1) = false := bnot_t h3
   refine rN Qc Z4 [0, 2, 5, 6, 7, 40] [] (pc 2 (cb h3n (Y4 a0.1)) (pe 3 (show .b (!false) = .b true from rfl) p0)) ?_
   exact ⟨rfl, Qf (by rw [h3]; first | done | kernel_rfl)⟩
  ·
   have h3n : (Yr a0.1) = true := Jd h3
   refine Xw (a0.2 != (1 : Int)) (fun h4 => ?_) (fun h4 => ?_)
   ·
    have h4d := ne_of_bne h4
    refine Xw (a0.2 != (2 : Int)) (fun h5 => ?_) (fun h5 => ?_)
    ·
     refine rN Qc Z4 [0, 2, 5, 6, 7, 40] [] (pc 2 (cb h3n (Y4 a0.1)) (pe 3 (show .b (!true) = .b false from rfl) (pt 7 h4 (pt 11 h5 p0)))) ?_
     exact ⟨rfl, Qf (by rw [h3, h4, h5]; first | done | kernel_rfl)⟩
    ·
     have h5d := eq_of_bne h5
     refine Xw (decide (((k0 : Nat) : Int) > (0 : Int))) (fun h6 => ?_) (fun h6 => ?_)
     ·
      have h6d := of_decide_eq_true h6
      have hx7 : s_[(Int.toNat (((k0 : Nat) : Int) - 1))]? = some (nth s_ (Int.toNat (((k0 : Nat) : Int) - 1))) := Xv (by omega)
      refine rN Qc Z4 [0, 2, 5, 6, 7, 40] [] (pc 2 (cb h3n (Y4 a0.1)) (pe 3 (show .b (!true) = .b false from rfl) (pt 7 h4 (pf 11 h5 (pt 16 h6 (pe 20 (av_i (IntWalk.i64_in (((k0 : Nat) : Int) - 1) (by omega))) (pg 21 (((k0 : Nat) : Int) - 1) hx7 p0))))))) ?_
      exact ⟨rfl, Qf (by rw [h3, h4, h5, h6]; first | done | kernel_rfl)⟩
     ·
      refine rN Qc Z4 [0, 2, 5, 6, 7, 40] [] (pc 2 (cb h3n (Y4 a0.1)) (pe 3 (show .b (!true) = .b false from rfl) (pt 7 h4 (pf 11 h5 (pf 16 h6 p0))))) ?_
      exact ⟨rfl, Qf (by rw [h3, h4, h5, h6]; first | done | kernel_rfl)⟩
   ·
    have h4d := eq_of_bne h4
    refine Xw (decide (((k0 : Nat) : Int) > (0 : Int))) (fun h8 => ?_) (fun h8 => ?_)
    ·
     have h8d := of_decide_eq_true h8
     have hx9 : s_[(Int.toNat (((k0 : Nat) : Int) - 1))]? = some (nth s_ (Int.toNat (((k0 : Nat) : Int) - 1))) := Xv (by omega)
     refine rN Qc Z4 [0, 2, 5, 6, 7, 40] [] (pc 2 (cb h3n (Y4 a0.1)) (pe 3 (show .b (!true) = .b false from rfl) (pf 7 h4 (pt 16 h8 (pe 20 (av_i (IntWalk.i64_in (((k0 : Nat) : Int) - 1) (by omega))) (pg 21 (((k0 : Nat) : Int) - 1) hx9 p0)))))) ?_
     exact ⟨rfl, Qf (by rw [h3, h4, h8]; first | done | kernel_rfl)⟩
    ·
     refine rN Qc Z4 [0, 2, 5, 6, 7, 40] [] (pc 2 (cb h3n (Y4 a0.1)) (pe 3 (show .b (!true) = .b false from rfl) (pf 7 h4 (pf 16 h8 p0)))) ?_
     exact ⟨rfl, Qf (by rw [h3, h4, h8]; first | done | kernel_rfl)⟩
  refine ck ((!(Yr a0.1)) || (bif (a0.2 != (1 : Int)) then ((a0.2 != (2 : Int)) || (decide (((k0 : Nat) : Int) > (0 : Int)) && (!(Op.bytesLess ((nth s_ (Int.toNat (((k0 : Nat) : Int) - 1))).1).toList a0.1.toList)))) else (decide (((k0 : Nat) : Int) > (0 : Int)) && (!(Op.bytesLess ((nth s_ (Int.toNat (((k0 : Nat) : Int) - 1))).1).toList a0.1.toList))))) (fun h10 => ?_) (fun h10 => ?_)
  ·
   refine su Qc [] [40] [] [] (p0) ?_
   refine Qp ?_
   have hr11 : (Xg (implIsValidSchema_f0 s_) implIsValidSchema_e0 s_ 0 ()) = .ret false := Zw hx0 (Xm h10 (rfl)) hI0
   exact Ye [] (congrArg (fun z => (.b z : AV)) (show implIsValidSchema s_ = _ from on_r hr11).symm)
  ·
   refine Qo ?_
   refine rn Qc [0, 2, 5, 6, 7] [] (pe 0 (av_i (Qy k0 (by omega))) p0) ?_
   exact Exists.intro _ (And.intro (Qf (by kernel_rfl)) (Q4 hx0 (Qz h10 (rfl)) hI0))
 ·
  refine sn Qc [0, 2, 5, 6, 7, 8] [] (pe 0 (Q0 (decide_eq_false (p := ((k0 : Nat) : Int) < (s_.length : Int)) (by omega))) p0) ?_
  refine Qg ?_
  refine ckF ?_
  refine Xc ?_
  exact Exists.intro _ (And.intro (Qf (by kernel_rfl)) (Xr hk0 (rfl) hI0))
 ·
  refine sn Qc [2] [] (pl 1 s_ p0) ?_
  refine Qp ?_
  exact Ye [] (congrArg (fun z => (.b z : AV)) (show implIsValidSchema s_ = _ from on_b hD0 (rfl)).symm)
def Z8 (s_ : (List FieldD)) (f : Xt) (k0 : Nat) (a0 : Zk) (_ : Unit) : Rd (Bool) (Unit) (Unit) := (bif (bif decide (((k0 : Nat) : Int) > (0 : Int)) then ((!(Op.bytesLess ((nth f.2.2.2.2 (Int.toNat (((k0 : Nat) : Int) - 1))).1).toList a0.1.toList)) || (!(implMatchesSchema s_ a0.1 a0.2))) else (!(implMatchesSchema s_ a0.1 a0.2))) then (.ret false) else (.next ()))
def implIsValidFile_e0 (_ : Nat) (_ : Unit) : Unit := ()
def Y0 (s_ : (List FieldD)) (f : Xt) : Bool := (Out.on (Xg (Z8 s_ f) implIsValidFile_e0 f.2.2.2.2 0 ()) (fun _ => ((Zl f.1 1 60) && ((implisUser f.2.1) && ((Zl f.2.2.2.1 0 60) && (implIsValidSchema s_))))))
theorem implIsValidFile_a (s_ : (List FieldD)) (f : Xt) : ACalls Tryz.prog 190 [.h s_, .a [.i f.1, .i f.2.1, .b f.2.2.1, .i f.2.2.2.1, .h f.2.2.2.2]] (.b (Y0 s_ f)) := by
 refine en Qc Tryz.func190 fun w0 F0 hG => ?_
 refine sn Qc [0, 3, 4] [3] (p0) ?_
 refine Qg ?_
 refine tn Qc [0, 3, 4, 8, 9, 10] [3] (pl 2 f.2.2.2.2 p0) ?_
 refine mz [(3, .p 3 0), (4, .b false), (8, .h f.2.2.2.2), (9, .i (f.2.2.2.2.length : Int)), (10, .i 0)] [1] [(3, [.i f.1, .i f.2.1, .b f.2.2.1, .i f.2.2.2.1, .h f.2.2.2.2])] [] ?_
 refine wT 8 0 .sh f.2.2.2.2 (fun hw1 hl2 => ?_)
 refine blk (fun (k0 : Nat) (s0 : Unit) => [(10, .i ((k0 : Nat) : Int))]) [10] (fun k0 s0 => []) [] (fun (y0 : Unit) => []) [8, 9, 10] (fun y0 => []) [] (fun (k0 : Nat) (s0 : Unit) => (Xg (Z8 s_ f) implIsValidFile_e0 f.2.2.2.2 0 ()) = Xg (Z8 s_ f) implIsValidFile_e0 (List.drop k0 f.2.2.2.2) k0 s0) (fun (y0 : Unit) => (Xg (Z8 s_ f) implIsValidFile_e0 f.2.2.2.2 0 ()) = .brk y0) f.2.2.2.2.length () (Qf (by kernel_rfl)) rfl (fun k0 s0 hk0 hI0 => ?_) (fun k0 s0 hk0 hI0 => ?_) (fun y0 hD0 => ?_)
 ·
  obtain ⟨a0, hx0⟩ := Xq (l := f.2.2.2.2) (i := k0) hk0
  refine su Qc [(11, .b true)] [] [] [] (pe 0 (Q0 (decide_eq_true (p := ((k0 : Nat) : Int) < (f.2.2.2.2.length : Int)) (by omega))) p0) ?_
  refine Qg ?_
  refine ckT ?_
  refine Qo ?_
  refine Qg ?_
  refine Q6 ?_
  refine sn Qc [0, 3, 4, 5, 6, 8, 9, 10] [3, 6] (pn 1 hx0 p0) ?_
  refine Qg ?_
  refine mz [(5, .i ((k0 : Nat) : Int)), (6, .p 6 0)] [11] [(6, [.s a0.1, .i a0.2.1, .i a0.2.2.1, .s a0.2.2.2])] [] ?_
  refine jn [(37, .b (bif decide (((k0 : Nat) : Int) > (0 : Int)) then ((!(Op.bytesLess ((nth f.2.2.2.2 (Int.toNat (((k0 : Nat) : Int) - 1))).1).toList a0.1.toList)) || (!(implMatchesSchema s_ a0.1 a0.2))) else (!(implMatchesSchema s_ a0.1 a0.2))))] [5, 6] [] [6] (decide (((k0 : Nat) : Int) > (0 : Int))) (fun h3 => ?_) (fun h3 => ?_) ?_
  ·
   have h3d := of_decide_eq_true h3
   refine Xw (!(Op.bytesLess ((nth f.2.2.2.2 (Int.toNat (((k0 : Nat) : Int) - 1))).1).toList a0.1.toList)) (fun h4 => ?_) (fun h4 => ?_)
   ·
    have hx5 : f.2.2.2.2[(Int.toNat (((k0 : Nat) : Int) - 1))]? = some (nth f.2.2.2.2 (Int.toNat (((k0 : Nat) : Int) - 1))) := Xv (by omega)
    refine rN Qc Z4 [0, 3, 4, 8, 9, 10, 37] [3] (pt 1 h3 (pe 6 (av_i (IntWalk.i64_in (((k0 : Nat) : Int) - 1) (by omega))) (pg 7 (((k0 : Nat) : Int) - 1) hx5 (pt 12 h4 p0)))) ?_
    exact ⟨rfl, Qf (by rw [h3, h4]; first | done | kernel_rfl)⟩
   ·
    have hx6 : f.2.2.2.2[(Int.toNat (((k0 : Nat) : Int) - 1))]? = some (nth f.2.2.2.2 (Int.toNat (((k0 : Nat) : Int) - 1))) := Xv (by omega)
    refine rN Qc Z4 [0, 3, 4, 8, 9, 10, 37] [3] (pt 1 h3 (pe 6 (av_i (IntWalk.i64_in (((k0 : Nat) : Int) - 1) (by omega))) (pg 7 (((k0 : Nat) : Int) - 1) hx6 (pf 12 h4 (pc 20 (implMatchesSchema_a s_ a0.1 a0.2) p0))))) ?_
    exact ⟨rfl, Qf (by rw [h3, h4]; first | done | kernel_rfl)⟩
  ·
   refine rN Qc Z4 [0, 3, 4, 8, 9, 10, 37] [3] (pf 1 h3 (pc 20 (implMatchesSchema_a s_ a0.1 a0.2) p0)) ?_
   exact ⟨rfl, Qf (by rw [h3]; first | done | kernel_rfl)⟩
  refine ck (bif decide (((k0 : Nat) : Int) > (0 : Int)) then ((!(Op.bytesLess ((nth f.2.2.2.2 (Int.toNat (((k0 : Nat) : Int) - 1))).1).toList a0.1.toList)) || (!(implMatchesSchema s_ a0.1 a0.2))) else (!(implMatchesSchema s_ a0.1 a0.2))) (fun h7 => ?_) (fun h7 => ?_)
  ·
   refine su Qc [] [37] [] [] (p0) ?_
   refine Qp ?_
   have hr8 : (Xg (Z8 s_ f) implIsValidFile_e0 f.2.2.2.2 0 ()) = .ret false := Zw hx0 (Xm h7 (rfl)) hI0
   exact Ye [] (congrArg (fun z => (.b z : AV)) (show Y0 s_ f = _ from on_r hr8).symm)
  ·
   refine Qo ?_
   refine rn Qc [0, 3, 4, 8, 9, 10] [3] (pe 0 (av_i (Qy k0 (by omega))) p0) ?_
   exact Exists.intro _ (And.intro (Qf (by kernel_rfl)) (Q4 hx0 (Qz h7 (rfl)) hI0))
 ·
  refine su Qc [(11, .b false)] [] [] [] (pe 0 (Q0 (decide_eq_false (p := ((k0 : Nat) : Int) < (f.2.2.2.2.length : Int)) (by omega))) p0) ?_
  refine Qg ?_
  refine ckF ?_
  refine Xc ?_
  exact Exists.intro _ (And.intro (Qf (by kernel_rfl)) (Xr hk0 (rfl) hI0))
 ·
  refine Qg ?_
  refine jn [(4, .b ((Zl f.1 1 60) && ((implisUser f.2.1) && ((Zl f.2.2.2.1 0 60) && (implIsValidSchema s_)))))] [0, 3, 4] [] [3] (Zl f.1 1 60) (fun h9 => ?_) (fun h9 => ?_) ?_
  ·
   have h9w := within_iff.1 h9
   refine Xw (implisUser f.2.1) (fun h10 => ?_) (fun h10 => ?_)
   ·
    refine Xw (Zl f.2.2.2.1 0 60) (fun h11 => ?_) (fun h11 => ?_)
    ·
     have h11w := within_iff.1 h11
     refine rn Qc [4] [] (pc 2 (cb h9 (implwithin_a f.1 1 60)) (pc 6 (cb h10 (implisUser_a f.2.1)) (pc 11 (cb h11 (implwithin_a f.2.2.2.1 0 60)) (pc 15 (implIsValidSchema_a s_) p0)))) ?_
     exact ⟨rfl, Qf (by rw [h9, h10, h11]; first | done | kernel_rfl)⟩
    ·
     refine rn Qc [4] [] (pc 2 (cb h9 (implwithin_a f.1 1 60)) (pc 6 (cb h10 (implisUser_a f.2.1)) (pc 11 (cb h11 (implwithin_a f.2.2.2.1 0 60)) p0))) ?_
     exact ⟨rfl, Qf (by rw [h9, h10, h11]; first | done | kernel_rfl)⟩
   ·
    refine rn Qc [4] [] (pc 2 (cb h9 (implwithin_a f.1 1 60)) (pc 6 (cb h10 (implisUser_a f.2.1)) p0)) ?_
    exact ⟨rfl, Qf (by rw [h9, h10]; first | done | kernel_rfl)⟩
  ·
   refine rn Qc [4] [] (pc 2 (cb h9 (implwithin_a f.1 1 60)) p0) ?_
   exact ⟨rfl, Qf (by rw [h9]; first | done | kernel_rfl)⟩
  refine Qp ?_
  exact Ye [] (congrArg (fun z => (.b z : AV)) (show Y0 s_ f = _ from on_b hD0 (rfl)).symm)
def Y8 (s_ : Yl) (k0 : Nat) (a0 : Xt) (_ : Unit) : Rd (Bool) (Unit) (Unit) := (bif ((!(Y0 s_.1 a0)) || (decide (a0.1 ≥ s_.2.2) || (decide (((k0 : Nat) : Int) > (0 : Int)) && decide ((nth s_.2.1 (Int.toNat (((k0 : Nat) : Int) - 1))).1 ≥ a0.1)))) then (.ret false) else (.next ()))
def implIsValidStore_e0 (_ : Nat) (_ : Unit) : Unit := ()
def Xf (s_ : Yl) : Bool := (Out.on (Xg (Y8 s_) implIsValidStore_e0 s_.2.1 0 ()) (fun _ => ((implIsValidSchema s_.1) && (decide ((s_.2.1.length : Int) ≤ (12 : Int)) && (Zl s_.2.2 1 61)))))
theorem implIsValidStore_a (s_ : Yl) : ACalls Tryz.prog 145 [.a [.h s_.1, .h s_.2.1, .i s_.2.2]] (.b (Xf s_)) := by
 refine en Qc Tryz.func145 fun w0 F0 hG => ?_
 refine sn Qc [1, 2] [1] (p0) ?_
 refine Qg ?_
 refine tn Qc [1, 2, 6, 7, 8] [1] (pl 2 s_.2.1 p0) ?_
 refine mz [(1, .p 1 0), (2, .b false), (6, .h s_.2.1), (7, .i (s_.2.1.length : Int)), (8, .i 0)] [0] [(1, [.h s_.1, .h s_.2.1, .i s_.2.2])] [] ?_
 refine wT 6 0 .sh s_.2.1 (fun hw1 hl2 => ?_)
 refine blk (fun (k0 : Nat) (s0 : Unit) => [(8, .i ((k0 : Nat) : Int))]) [8] (fun k0 s0 => []) [] (fun (y0 : Unit) => []) [6, 7, 8] (fun y0 => []) [] (fun (k0 : Nat) (s0 : Unit) => (Xg (Y8 s_) implIsValidStore_e0 s_.2.1 0 ()) = Xg (Y8 s_) implIsValidStore_e0 (List.drop k0 s_.2.1) k0 s0) (fun (y0 : Unit) => (Xg (Y8 s_) implIsValidStore_e0 s_.2.1 0 ()) = .brk y0) s_.2.1.length () (Qf (by kernel_rfl)) rfl (fun k0 s0 hk0 hI0 => ?_) (fun k0 s0 hk0 hI0 => ?_) (fun y0 hD0 => ?_)
 ·
  obtain ⟨a0, hx0⟩ := Xq (l := s_.2.1) (i := k0) hk0
  refine sn Qc [1, 2, 6, 7, 8, 9] [1] (pe 0 (Q0 (decide_eq_true (p := ((k0 : Nat) : Int) < (s_.2.1.length : Int)) (by omega))) p0) ?_
  refine Qg ?_
  refine ckT ?_
  refine Qo ?_
  refine Qg ?_
  refine Q6 ?_
  refine tn Qc [1, 2, 3, 4, 6, 7, 8] [1, 4] (pn 1 hx0 p0) ?_
  refine Qg ?_
  refine mz [(3, .i ((k0 : Nat) : Int)), (4, .p 4 0)] [] [(4, [.i a0.1, .i a0.2.1, .b a0.2.2.1, .i a0.2.2.2.1, .h a0.2.2.2.2])] [] ?_
  refine jn [(40, .b ((!(Y0 s_.1 a0)) || (decide (a0.1 ≥ s_.2.2) || (decide (((k0 : Nat) : Int) > (0 : Int)) && decide ((nth s_.2.1 (Int.toNat (((k0 : Nat) : Int) - 1))).1 ≥ a0.1)))))] [3, 4] [] [4] (!(Y0 s_.1 a0)) (fun h3 => ?_) (fun h3 => ?_) ?_
  ·
   have h3n : (Y0 s_.1 a0) = false := bnot_t h3
   refine rN Qc Z4 [1, 2, 6, 7, 8, 40] [1] (pc 3 (cb h3n (implIsValidFile_a s_.1 a0)) (pe 4 (show .b (!false) = .b true from rfl) p0)) ?_
   exact ⟨rfl, Qf (by rw [h3]; first | done | kernel_rfl)⟩
  ·
   have h3n : (Y0 s_.1 a0) = true := Jd h3
   refine Xw (decide (a0.1 ≥ s_.2.2)) (fun h4 => ?_) (fun h4 => ?_)
   ·
    refine rN Qc Z4 [1, 2, 6, 7, 8, 40] [1] (pc 3 (cb h3n (implIsValidFile_a s_.1 a0)) (pe 4 (show .b (!true) = .b false from rfl) (pt 10 h4 p0))) ?_
    exact ⟨rfl, Qf (by rw [h3, h4]; first | done | kernel_rfl)⟩
   ·
    have h4d := of_decide_eq_false h4
    refine Xw (decide (((k0 : Nat) : Int) > (0 : Int))) (fun h5 => ?_) (fun h5 => ?_)
    ·
     have h5d := of_decide_eq_true h5
     have hx6 : s_.2.1[(Int.toNat (((k0 : Nat) : Int) - 1))]? = some (nth s_.2.1 (Int.toNat (((k0 : Nat) : Int) - 1))) := Xv (by omega)
     refine rN Qc Z4 [1, 2, 6, 7, 8, 40] [1] (pc 3 (cb h3n (implIsValidFile_a s_.1 a0)) (pe 4 (show .b (!true) = .b false from rfl) (pf 10 h4 (pt 14 h5 (pe 19 (av_i (IntWalk.i64_in (((k0 : Nat) : Int) - 1) (by omega))) (pg 20 (((k0 : Nat) : Int) - 1) hx6 p0)))))) ?_
     exact ⟨rfl, Qf (by rw [h3, h4, h5]; first | done | kernel_rfl)⟩
    ·
     refine rN Qc Z4 [1, 2, 6, 7, 8, 40] [1] (pc 3 (cb h3n (implIsValidFile_a s_.1 a0)) (pe 4 (show .b (!true) = .b false from rfl) (pf 10 h4 (pf 14 h5 p0)))) ?_
     exact ⟨rfl, Qf (by rw [h3, h4, h5]; first | done | kernel_rfl)⟩
  refine ck ((!(Y0 s_.1 a0)) || (decide (a0.1 ≥ s_.2.2) || (decide (((k0 : Nat) : Int) > (0 : Int)) && decide ((nth s_.2.1 (Int.toNat (((k0 : Nat) : Int) - 1))).1 ≥ a0.1)))) (fun h7 => ?_) (fun h7 => ?_)
  ·
   refine su Qc [] [40] [] [] (p0) ?_
   refine Qp ?_
   have hr8 : (Xg (Y8 s_) implIsValidStore_e0 s_.2.1 0 ()) = .ret false := Zw hx0 (Xm h7 (rfl)) hI0
   exact Ye [] (congrArg (fun z => (.b z : AV)) (show Xf s_ = _ from on_r hr8).symm)
  ·
   have h7r : ((decide (a0.1 ≥ s_.2.2) || (decide (((k0 : Nat) : Int) > (0 : Int)) && decide ((nth s_.2.1 (Int.toNat (((k0 : Nat) : Int) - 1))).1 ≥ a0.1)))) = false := or_r h7
   have h7rl : (decide (a0.1 ≥ s_.2.2)) = false := or_l h7r
   have h7rld := of_decide_eq_false h7rl
   refine Qo ?_
   refine rn Qc [1, 2, 6, 7, 8] [1] (pe 0 (av_i (Qy k0 (by omega))) p0) ?_
   exact Exists.intro _ (And.intro (Qf (by kernel_rfl)) (Q4 hx0 (Qz h7 (rfl)) hI0))
 ·
  refine sn Qc [1, 2, 6, 7, 8, 9] [1] (pe 0 (Q0 (decide_eq_false (p := ((k0 : Nat) : Int) < (s_.2.1.length : Int)) (by omega))) p0) ?_
  refine Qg ?_
  refine ckF ?_
  refine Xc ?_
  exact Exists.intro _ (And.intro (Qf (by kernel_rfl)) (Xr hk0 (rfl) hI0))
 ·
  refine Qg ?_
  refine jn [(2, .b ((implIsValidSchema s_.1) && (decide ((s_.2.1.length : Int) ≤ (12 : Int)) && (Zl s_.2.2 1 61))))] [1, 2] [] [1] (implIsValidSchema s_.1) (fun h9 => ?_) (fun h9 => ?_) ?_
  ·
   refine Xw (decide ((s_.2.1.length : Int) ≤ (12 : Int))) (fun h10 => ?_) (fun h10 => ?_)
   ·
    refine rn Qc [2] [] (pc 2 (cb h9 (implIsValidSchema_a s_.1)) (pl 6 s_.2.1 (pt 7 h10 (pc 12 (implwithin_a s_.2.2 1 61) p0)))) ?_
    exact ⟨rfl, Qf (by rw [h9, h10]; first | done | kernel_rfl)⟩
   ·
    refine rn Qc [2] [] (pc 2 (cb h9 (implIsValidSchema_a s_.1)) (pl 6 s_.2.1 (pf 7 h10 p0))) ?_
    exact ⟨rfl, Qf (by rw [h9, h10]; first | done | kernel_rfl)⟩
  ·
   refine rn Qc [2] [] (pc 2 (cb h9 (implIsValidSchema_a s_.1)) p0) ?_
   exact ⟨rfl, Qf (by rw [h9]; first | done | kernel_rfl)⟩
  refine Qp ?_
  exact Ye [] (congrArg (fun z => (.b z : AV)) (show Xf s_ = _ from on_b hD0 (rfl)).symm)
def specFieldKind_f0 (name : ByteArray) (_ : Nat) (a0 : FieldD) (_ : Unit) : Rd (Int) (Unit) (Unit) := (bif (a0.1.toList == name.toList) then (.ret a0.2) else (.next ()))
def specFieldKind_e0 (_ : Nat) (_ : Unit) : Unit := ()
def specFieldKind (s_ : (List FieldD)) (name : ByteArray) : Int := (Out.on (Xg (specFieldKind_f0 name) specFieldKind_e0 s_ 0 ()) (fun _ => 0))
theorem specFieldKind_a (s_ : (List FieldD)) (name : ByteArray) : ACalls Tryz.prog 143 [.h s_, .s name] (.i (specFieldKind s_ name)) := by
 refine en Qc Tryz.func143 fun w0 F0 hG => ?_
 refine sn Qc [0, 1, 4] [] (p0) ?_
 refine Qg ?_
 refine tn Qc [0, 1, 4, 5] [] (p0) ?_
 refine mz [(4, .i 0), (5, .i 0)] [] [] [] ?_
 refine wT 0 0 .sh s_ (fun hw1 hl2 => ?_)
 refine blk (fun (k0 : Nat) (s0 : Unit) => [(5, .i ((k0 : Nat) : Int))]) [5] (fun k0 s0 => []) [] (fun (y0 : Unit) => []) [0, 1, 5] (fun y0 => []) [] (fun (k0 : Nat) (s0 : Unit) => (Xg (specFieldKind_f0 name) specFieldKind_e0 s_ 0 ()) = Xg (specFieldKind_f0 name) specFieldKind_e0 (List.drop k0 s_) k0 s0) (fun (y0 : Unit) => (Xg (specFieldKind_f0 name) specFieldKind_e0 s_ 0 ()) = .brk y0) s_.length () (Qf (by kernel_rfl)) rfl (fun k0 s0 hk0 hI0 => ?_) (fun k0 s0 hk0 hI0 => ?_) (fun y0 hD0 => ?_)
 ·
  obtain ⟨a0, hx0⟩ := Xq (l := s_) (i := k0) hk0
  refine Qg ?_
  refine sn Qc [0, 1, 4, 5, 9] [] (pl 2 s_ (pe 3 (Q0 (decide_eq_true (p := ((k0 : Nat) : Int) < (s_.length : Int)) (by omega))) p0)) ?_
  refine ckT ?_
  refine Qo ?_
  refine Qg ?_
  refine Q6 ?_
  refine tn Qc [0, 1, 4, 5, 18] [] (pn 2 hx0 p0) ?_
  refine ck (a0.1.toList == name.toList) (fun h3 => ?_) (fun h3 => ?_)
  ·
   refine tu Qc [(4, .i a0.2)] [4] [] [] (pn 2 hx0 p0) ?_
   refine Qp ?_
   have hr4 : (Xg (specFieldKind_f0 name) specFieldKind_e0 s_ 0 ()) = .ret a0.2 := Zw hx0 (Xm h3 (rfl)) hI0
   exact Ye [] (congrArg (fun z => (.i z : AV)) (show specFieldKind s_ name = _ from on_r hr4).symm)
  ·
   refine Qo ?_
   refine qu Qc [(5, .i ((k0 + 1 : Nat) : Int))] [5] [] [] (pe 1 (av_i (Qy k0 (by omega))) p0) ?_
   exact Exists.intro _ (And.intro (Qf (by kernel_rfl)) (Q4 hx0 (Qz h3 (rfl)) hI0))
 ·
  refine Qg ?_
  refine sn Qc [0, 1, 4, 5, 9] [] (pl 2 s_ (pe 3 (Q0 (decide_eq_false (p := ((k0 : Nat) : Int) < (s_.length : Int)) (by omega))) p0)) ?_
  refine ckF ?_
  refine Xc ?_
  exact Exists.intro _ (And.intro (Qf (by kernel_rfl)) (Xr hk0 (rfl) hI0))
 ·
  refine sn Qc [4] [] (p0) ?_
  refine Qp ?_
  exact Ye [] (congrArg (fun z => (.i z : AV)) (show specFieldKind s_ name = _ from on_b hD0 (rfl)).symm)
def specMatchesSchema (s_ : (List FieldD)) (name : ByteArray) (v : ValueD) : Bool := ((Zg v) && ((v.1 != (0 : Int)) && (v.1 == (specFieldKind s_ name))))
theorem specMatchesSchema_a (s_ : (List FieldD)) (name : ByteArray) (v : ValueD) : ACalls Tryz.prog 97 [.h s_, .s name, .a [.i v.1, .i v.2.1, .s v.2.2]] (.b (specMatchesSchema s_ name v)) := by
 refine en Qc Tryz.func97 fun w0 F0 hG => ?_
 refine sn Qc [0, 1, 5, 6] [5] (p0) ?_
 refine Qg ?_
 refine mz [(5, .p 5 0), (6, .b false)] [2] [(5, [.i v.1, .i v.2.1, .s v.2.2])] [] ?_
 refine jn [(6, .b ((Zg v) && ((v.1 != (0 : Int)) && (v.1 == (specFieldKind s_ name)))))] [0, 1, 5, 6] [] [5] (Zg v) (fun h1 => ?_) (fun h1 => ?_) ?_
 ·
  refine Xw (v.1 != (0 : Int)) (fun h2 => ?_) (fun h2 => ?_)
  ·
   refine rN Qc Z4 [6] [] (pc 1 (cb h1 (Z7 v)) (pt 5 h2 (pc 12 (specFieldKind_a s_ name) p0))) ?_
   exact ⟨rfl, Qf (by rw [h1, h2]; first | done | kernel_rfl)⟩
  ·
   refine rN Qc Z4 [6] [] (pc 1 (cb h1 (Z7 v)) (pf 5 h2 p0)) ?_
   exact ⟨rfl, Qf (by rw [h1, h2]; first | done | kernel_rfl)⟩
 ·
  refine rN Qc Z4 [6] [] (pc 1 (cb h1 (Z7 v)) p0) ?_
  exact ⟨rfl, Qf (by rw [h1]; first | done | kernel_rfl)⟩
 refine Qp ?_
 exact Ye [] (congrArg (fun z => (.b z : AV)) (show specMatchesSchema s_ name v = ((Zg v) && ((v.1 != (0 : Int)) && (v.1 == (specFieldKind s_ name)))) from rfl).symm)
def specIsValidSchema_f0 (s_ : (List FieldD)) (k0 : Nat) (a0 : FieldD) (_ : Unit) : Rd (Bool) (Unit) (Unit) := (bif ((!(X3 a0.1)) || ((!(X4 a0.2 1 2)) || (decide (((k0 : Nat) : Int) > (0 : Int)) && (!(Op.bytesLess ((nth s_ (Int.toNat (((k0 : Nat) : Int) - 1))).1).toList a0.1.toList))))) then (.ret false) else (.next ()))
def specIsValidSchema_e0 (_ : Nat) (_ : Unit) : Unit := ()
def specIsValidSchema (s_ : (List FieldD)) : Bool := (Out.on (Xg (specIsValidSchema_f0 s_) specIsValidSchema_e0 s_ 0 ()) (fun _ => decide ((s_.length : Int) ≤ (5 : Int))))
theorem specIsValidSchema_a (s_ : (List FieldD)) : ACalls Tryz.prog 96 [.h s_] (.b (specIsValidSchema s_)) := by
 refine en Qc Tryz.func96 fun w0 F0 hG => ?_
 refine sn Qc [0, 2] [] (p0) ?_
 refine Qg ?_
 refine tn Qc [0, 2, 3] [] (p0) ?_
 refine mz [(2, .b false), (3, .i 0)] [] [] [] ?_
 refine wT 0 0 .sh s_ (fun hw1 hl2 => ?_)
 refine blk (fun (k0 : Nat) (s0 : Unit) => [(3, .i ((k0 : Nat) : Int))]) [3] (fun k0 s0 => []) [] (fun (y0 : Unit) => []) [3] (fun y0 => []) [] (fun (k0 : Nat) (s0 : Unit) => (Xg (specIsValidSchema_f0 s_) specIsValidSchema_e0 s_ 0 ()) = Xg (specIsValidSchema_f0 s_) specIsValidSchema_e0 (List.drop k0 s_) k0 s0) (fun (y0 : Unit) => (Xg (specIsValidSchema_f0 s_) specIsValidSchema_e0 s_ 0 ()) = .brk y0) s_.length () (Qf (by kernel_rfl)) rfl (fun k0 s0 hk0 hI0 => ?_) (fun k0 s0 hk0 hI0 => ?_) (fun y0 hD0 => ?_)
 ·
  obtain ⟨a0, hx0⟩ := Xq (l := s_) (i := k0) hk0
  refine Qg ?_
  refine sn Qc [0, 2, 3, 7] [] (pl 2 s_ (pe 3 (Q0 (decide_eq_true (p := ((k0 : Nat) : Int) < (s_.length : Int)) (by omega))) p0)) ?_
  refine ckT ?_
  refine Qo ?_
  refine Qg ?_
  refine Q6 ?_
  refine Qg ?_
  refine mz [(7, .b true)] [] [] [] ?_
  refine jn [(43, .b ((!(X3 a0.1)) || ((!(X4 a0.2 1 2)) || (decide (((k0 : Nat) : Int) > (0 : Int)) && (!(Op.bytesLess ((nth s_ (Int.toNat (((k0 : Nat) : Int) - 1))).1).toList a0.1.toList))))))] [7] [] [] (!(X3 a0.1)) (fun h3 => ?_) (fun h3 => ?_) ?_
  ·
   have h3n : (X3 a0.1) = false := bnot_t h3
   refine rN Qc Z4 [0, 2, 3, 43] [] (pn 2 hx0 (pc 5 (cb h3n (X7 a0.1)) (pe 6 (show .b (!false) = .b true from rfl) p0))) ?_
   exact ⟨rfl, Qf (by rw [h3]; first | done | kernel_rfl)⟩
  ·
   have h3n : (X3 a0.1) = true := Jd h3
   refine Xw (!(X4 a0.2 1 2)) (fun h4 => ?_) (fun h4 => ?_)
   ·
    have h4n : (X4 a0.2 1 2) = false := bnot_t h4
    refine rN Qc Z4 [0, 2, 3, 43] [] (pn 2 hx0 (pc 5 (cb h3n (X7 a0.1)) (pe 6 (show .b (!true) = .b false from rfl) (pn 10 hx0 (pc 13 (cb h4n (specl01In_a a0.2 1 2)) (pe 14 (show .b (!false) = .b true from rfl) p0)))))) ?_
    exact ⟨rfl, Qf (by rw [h3, h4]; first | done | kernel_rfl)⟩
   ·
    have h4n : (X4 a0.2 1 2) = true := Jd h4
    have h4nw := l01In_iff.1 h4n
    refine Xw (decide (((k0 : Nat) : Int) > (0 : Int))) (fun h5 => ?_) (fun h5 => ?_)
    ·
     have h5d := of_decide_eq_true h5
     have hx6 : s_[(Int.toNat (((k0 : Nat) : Int) - 1))]? = some (nth s_ (Int.toNat (((k0 : Nat) : Int) - 1))) := Xv (by omega)
     refine rN Qc Z4 [0, 2, 3, 43] [] (pn 2 hx0 (pc 5 (cb h3n (X7 a0.1)) (pe 6 (show .b (!true) = .b false from rfl) (pn 10 hx0 (pc 13 (cb h4n (specl01In_a a0.2 1 2)) (pe 14 (show .b (!true) = .b false from rfl) (pt 18 h5 (pe 22 (av_i (IntWalk.i64_in (((k0 : Nat) : Int) - 1) (by omega))) (pg 23 (((k0 : Nat) : Int) - 1) hx6 (pn 28 hx0 p0)))))))))) ?_
     exact ⟨rfl, Qf (by rw [h3, h4, h5]; first | done | kernel_rfl)⟩
    ·
     refine rN Qc Z4 [0, 2, 3, 43] [] (pn 2 hx0 (pc 5 (cb h3n (X7 a0.1)) (pe 6 (show .b (!true) = .b false from rfl) (pn 10 hx0 (pc 13 (cb h4n (specl01In_a a0.2 1 2)) (pe 14 (show .b (!true) = .b false from rfl) (pf 18 h5 p0))))))) ?_
     exact ⟨rfl, Qf (by rw [h3, h4, h5]; first | done | kernel_rfl)⟩
  refine ck ((!(X3 a0.1)) || ((!(X4 a0.2 1 2)) || (decide (((k0 : Nat) : Int) > (0 : Int)) && (!(Op.bytesLess ((nth s_ (Int.toNat (((k0 : Nat) : Int) - 1))).1).toList a0.1.toList))))) (fun h7 => ?_) (fun h7 => ?_)
  ·
   refine sn Qc [0, 2, 3] [] (p0) ?_
   refine Qp ?_
   have hr8 : (Xg (specIsValidSchema_f0 s_) specIsValidSchema_e0 s_ 0 ()) = .ret false := Zw hx0 (Xm h7 (rfl)) hI0
   exact Ye [] (congrArg (fun z => (.b z : AV)) (show specIsValidSchema s_ = _ from on_r hr8).symm)
  ·
   have h7r : (((!(X4 a0.2 1 2)) || (decide (((k0 : Nat) : Int) > (0 : Int)) && (!(Op.bytesLess ((nth s_ (Int.toNat (((k0 : Nat) : Int) - 1))).1).toList a0.1.toList))))) = false := or_r h7
   have h7rl : ((!(X4 a0.2 1 2))) = false := or_l h7r
   have h7rln : (X4 a0.2 1 2) = true := Jd h7rl
   have h7rlnw := l01In_iff.1 h7rln
   refine Qo ?_
   refine rn Qc [0, 2, 3] [] (pe 1 (av_i (Qy k0 (by omega))) p0) ?_
   exact Exists.intro _ (And.intro (Qf (by kernel_rfl)) (Q4 hx0 (Qz h7 (rfl)) hI0))
 ·
  refine Qg ?_
  refine sn Qc [0, 2, 3, 7] [] (pl 2 s_ (pe 3 (Q0 (decide_eq_false (p := ((k0 : Nat) : Int) < (s_.length : Int)) (by omega))) p0)) ?_
  refine ckF ?_
  refine Xc ?_
  exact Exists.intro _ (And.intro (Qf (by kernel_rfl)) (Xr hk0 (rfl) hI0))
 ·
  refine sn Qc [2] [] (pl 1 s_ p0) ?_
  refine Qp ?_
  exact Ye [] (congrArg (fun z => (.b z : AV)) (show specIsValidSchema s_ = _ from on_b hD0 (rfl)).symm)
def specIsValidFile_f0 (s_ : (List FieldD)) (f : Xt) (k0 : Nat) (a0 : Zk) (_ : Unit) : Rd (Bool) (Unit) (Unit) := (bif ((!(specMatchesSchema s_ a0.1 a0.2)) || (decide (((k0 : Nat) : Int) > (0 : Int)) && (!(Op.bytesLess ((nth f.2.2.2.2 (Int.toNat (((k0 : Nat) : Int) - 1))).1).toList a0.1.toList)))) then (.ret false) else (.next ()))
def specIsValidFile_e0 (_ : Nat) (_ : Unit) : Unit := ()
def specIsValidFile (s_ : (List FieldD)) (f : Xt) : Bool := (Out.on (Xg (specIsValidFile_f0 s_ f) specIsValidFile_e0 f.2.2.2.2 0 ()) (fun _ => ((specIsValidSchema s_) && ((X4 f.1 1 60) && ((X4 f.2.1 0 2) && (X4 f.2.2.2.1 0 60))))))
theorem specIsValidFile_a (s_ : (List FieldD)) (f : Xt) : ACalls Tryz.prog 55 [.h s_, .a [.i f.1, .i f.2.1, .b f.2.2.1, .i f.2.2.2.1, .h f.2.2.2.2]] (.b (specIsValidFile s_ f)) := by
 refine en Qc Tryz.func55 fun w0 F0 hG => ?_
 refine sn Qc [0, 3, 4] [3] (p0) ?_
 refine Qg ?_
 refine tn Qc [0, 3, 4, 5] [3] (p0) ?_
 refine mz [(3, .p 3 0), (4, .b false), (5, .i 0)] [1] [(3, [.i f.1, .i f.2.1, .b f.2.2.1, .i f.2.2.2.1, .h f.2.2.2.2])] [] ?_
 refine wB 3 4 .sh f.2.2.2.2 (fun hw1 hl2 => ?_)
 refine blk (fun (k0 : Nat) (s0 : Unit) => [(5, .i ((k0 : Nat) : Int))]) [5] (fun k0 s0 => []) [] (fun (y0 : Unit) => []) [5] (fun y0 => []) [] (fun (k0 : Nat) (s0 : Unit) => (Xg (specIsValidFile_f0 s_ f) specIsValidFile_e0 f.2.2.2.2 0 ()) = Xg (specIsValidFile_f0 s_ f) specIsValidFile_e0 (List.drop k0 f.2.2.2.2) k0 s0) (fun (y0 : Unit) => (Xg (specIsValidFile_f0 s_ f) specIsValidFile_e0 f.2.2.2.2 0 ()) = .brk y0) f.2.2.2.2.length () (Qf (by kernel_rfl)) rfl (fun k0 s0 hk0 hI0 => ?_) (fun k0 s0 hk0 hI0 => ?_) (fun y0 hD0 => ?_)
 ·
  obtain ⟨a0, hx0⟩ := Xq (l := f.2.2.2.2) (i := k0) hk0
  refine Qg ?_
  refine sn Qc [0, 3, 4, 5, 10] [3] (pl 3 f.2.2.2.2 (pe 4 (Q0 (decide_eq_true (p := ((k0 : Nat) : Int) < (f.2.2.2.2.length : Int)) (by omega))) p0)) ?_
  refine ckT ?_
  refine Qo ?_
  refine Qg ?_
  refine Q6 ?_
  refine Qg ?_
  refine mz [(10, .b true)] [] [] [] ?_
  refine jn [(47, .b ((!(specMatchesSchema s_ a0.1 a0.2)) || (decide (((k0 : Nat) : Int) > (0 : Int)) && (!(Op.bytesLess ((nth f.2.2.2.2 (Int.toNat (((k0 : Nat) : Int) - 1))).1).toList a0.1.toList)))))] [10] [] [] (!(specMatchesSchema s_ a0.1 a0.2)) (fun h3 => ?_) (fun h3 => ?_) ?_
  ·
   have h3n : (specMatchesSchema s_ a0.1 a0.2) = false := bnot_t h3
   refine rN Qc Z4 [0, 3, 4, 5, 47] [3] (pn 4 hx0 (pn 10 hx0 (pc 13 (cb h3n (specMatchesSchema_a s_ a0.1 a0.2)) (pe 14 (show .b (!false) = .b true from rfl) p0)))) ?_
   exact ⟨rfl, Qf (by rw [h3]; first | done | kernel_rfl)⟩
  ·
   have h3n : (specMatchesSchema s_ a0.1 a0.2) = true := Jd h3
   refine Xw (decide (((k0 : Nat) : Int) > (0 : Int))) (fun h4 => ?_) (fun h4 => ?_)
   ·
    have h4d := of_decide_eq_true h4
    have hx5 : f.2.2.2.2[(Int.toNat (((k0 : Nat) : Int) - 1))]? = some (nth f.2.2.2.2 (Int.toNat (((k0 : Nat) : Int) - 1))) := Xv (by omega)
    refine rN Qc Z4 [0, 3, 4, 5, 47] [3] (pn 4 hx0 (pn 10 hx0 (pc 13 (cb h3n (specMatchesSchema_a s_ a0.1 a0.2)) (pe 14 (show .b (!true) = .b false from rfl) (pt 17 h4 (pe 22 (av_i (IntWalk.i64_in (((k0 : Nat) : Int) - 1) (by omega))) (pg 23 (((k0 : Nat) : Int) - 1) hx5 (pn 29 hx0 p0)))))))) ?_
    exact ⟨rfl, Qf (by rw [h3, h4]; first | done | kernel_rfl)⟩
   ·
    refine rN Qc Z4 [0, 3, 4, 5, 47] [3] (pn 4 hx0 (pn 10 hx0 (pc 13 (cb h3n (specMatchesSchema_a s_ a0.1 a0.2)) (pe 14 (show .b (!true) = .b false from rfl) (pf 17 h4 p0))))) ?_
    exact ⟨rfl, Qf (by rw [h3, h4]; first | done | kernel_rfl)⟩
  refine ck ((!(specMatchesSchema s_ a0.1 a0.2)) || (decide (((k0 : Nat) : Int) > (0 : Int)) && (!(Op.bytesLess ((nth f.2.2.2.2 (Int.toNat (((k0 : Nat) : Int) - 1))).1).toList a0.1.toList)))) (fun h6 => ?_) (fun h6 => ?_)
  ·
   refine su Qc [] [47] [] [] (p0) ?_
   refine Qp ?_
   have hr7 : (Xg (specIsValidFile_f0 s_ f) specIsValidFile_e0 f.2.2.2.2 0 ()) = .ret false := Zw hx0 (Xm h6 (rfl)) hI0
   exact Ye [] (congrArg (fun z => (.b z : AV)) (show specIsValidFile s_ f = _ from on_r hr7).symm)
  ·
   refine Qo ?_
   refine rn Qc [0, 3, 4, 5] [3] (pe 1 (av_i (Qy k0 (by omega))) p0) ?_
   exact Exists.intro _ (And.intro (Qf (by kernel_rfl)) (Q4 hx0 (Qz h6 (rfl)) hI0))
 ·
  refine Qg ?_
  refine sn Qc [0, 3, 4, 5, 10] [3] (pl 3 f.2.2.2.2 (pe 4 (Q0 (decide_eq_false (p := ((k0 : Nat) : Int) < (f.2.2.2.2.length : Int)) (by omega))) p0)) ?_
  refine ckF ?_
  refine Xc ?_
  exact Exists.intro _ (And.intro (Qf (by kernel_rfl)) (Xr hk0 (rfl) hI0))
 ·
  refine Qg ?_
  refine jn [(4, .b ((specIsValidSchema s_) && ((X4 f.1 1 60) && ((X4 f.2.1 0 2) && (X4 f.2.2.2.1 0 60)))))] [0, 3, 4] [] [3] (specIsValidSchema s_) (fun h8 => ?_) (fun h8 => ?_) ?_
  ·
   refine Xw (X4 f.1 1 60) (fun h9 => ?_) (fun h9 => ?_)
   ·
    have h9w := l01In_iff.1 h9
    refine Xw (X4 f.2.1 0 2) (fun h10 => ?_) (fun h10 => ?_)
    ·
     have h10w := l01In_iff.1 h10
     refine rn Qc [4] [] (pc 1 (cb h8 (specIsValidSchema_a s_)) (pc 5 (cb h9 (specl01In_a f.1 1 60)) (pc 10 (cb h10 (specl01In_a f.2.1 0 2)) (pc 15 (specl01In_a f.2.2.2.1 0 60) p0)))) ?_
     exact ⟨rfl, Qf (by rw [h8, h9, h10]; first | done | kernel_rfl)⟩
    ·
     refine rn Qc [4] [] (pc 1 (cb h8 (specIsValidSchema_a s_)) (pc 5 (cb h9 (specl01In_a f.1 1 60)) (pc 10 (cb h10 (specl01In_a f.2.1 0 2)) p0))) ?_
     exact ⟨rfl, Qf (by rw [h8, h9, h10]; first | done | kernel_rfl)⟩
   ·
    refine rn Qc [4] [] (pc 1 (cb h8 (specIsValidSchema_a s_)) (pc 5 (cb h9 (specl01In_a f.1 1 60)) p0)) ?_
    exact ⟨rfl, Qf (by rw [h8, h9]; first | done | kernel_rfl)⟩
  ·
   refine rn Qc [4] [] (pc 1 (cb h8 (specIsValidSchema_a s_)) p0) ?_
   exact ⟨rfl, Qf (by rw [h8]; first | done | kernel_rfl)⟩
  refine Qp ?_
  exact Ye [] (congrArg (fun z => (.b z : AV)) (show specIsValidFile s_ f = _ from on_b hD0 (rfl)).symm)
def specIsValidStore_f0 (s_ : Yl) (k0 : Nat) (a0 : Xt) (_ : Unit) : Rd (Bool) (Unit) (Unit) := (bif ((!(specIsValidFile s_.1 a0)) || (decide (a0.1 ≥ s_.2.2) || (decide (((k0 : Nat) : Int) > (0 : Int)) && decide ((nth s_.2.1 (Int.toNat (((k0 : Nat) : Int) - 1))).1 ≥ a0.1)))) then (.ret false) else (.next ()))
def specIsValidStore_e0 (_ : Nat) (_ : Unit) : Unit := ()
def Zx (s_ : Yl) : Bool := (Out.on (Xg (specIsValidStore_f0 s_) specIsValidStore_e0 s_.2.1 0 ()) (fun _ => ((specIsValidSchema s_.1) && (decide ((s_.2.1.length : Int) ≤ (12 : Int)) && (X4 s_.2.2 1 61)))))
theorem specIsValidStore_a (s_ : Yl) : ACalls Tryz.prog 54 [.a [.h s_.1, .h s_.2.1, .i s_.2.2]] (.b (Zx s_)) := by
 refine en Qc Tryz.func54 fun w0 F0 hG => ?_
 refine sn Qc [1, 2] [1] (p0) ?_
 refine Qg ?_
 refine tn Qc [1, 2, 3] [1] (p0) ?_
 refine mz [(1, .p 1 0), (2, .b false), (3, .i 0)] [0] [(1, [.h s_.1, .h s_.2.1, .i s_.2.2])] [] ?_
 refine wB 1 1 .sh s_.2.1 (fun hw1 hl2 => ?_)
 refine blk (fun (k0 : Nat) (s0 : Unit) => [(3, .i ((k0 : Nat) : Int))]) [3] (fun k0 s0 => []) [] (fun (y0 : Unit) => []) [3] (fun y0 => []) [] (fun (k0 : Nat) (s0 : Unit) => (Xg (specIsValidStore_f0 s_) specIsValidStore_e0 s_.2.1 0 ()) = Xg (specIsValidStore_f0 s_) specIsValidStore_e0 (List.drop k0 s_.2.1) k0 s0) (fun (y0 : Unit) => (Xg (specIsValidStore_f0 s_) specIsValidStore_e0 s_.2.1 0 ()) = .brk y0) s_.2.1.length () (Qf (by kernel_rfl)) rfl (fun k0 s0 hk0 hI0 => ?_) (fun k0 s0 hk0 hI0 => ?_) (fun y0 hD0 => ?_)
 ·
  obtain ⟨a0, hx0⟩ := Xq (l := s_.2.1) (i := k0) hk0
  refine Qg ?_
  refine sn Qc [1, 2, 3, 8] [1] (pl 3 s_.2.1 (pe 4 (Q0 (decide_eq_true (p := ((k0 : Nat) : Int) < (s_.2.1.length : Int)) (by omega))) p0)) ?_
  refine ckT ?_
  refine Qo ?_
  refine Qg ?_
  refine Q6 ?_
  refine Qg ?_
  refine mz [(8, .b true)] [] [] [] ?_
  refine jn [(50, .b ((!(specIsValidFile s_.1 a0)) || (decide (a0.1 ≥ s_.2.2) || (decide (((k0 : Nat) : Int) > (0 : Int)) && decide ((nth s_.2.1 (Int.toNat (((k0 : Nat) : Int) - 1))).1 ≥ a0.1)))))] [8] [] [] (!(specIsValidFile s_.1 a0)) (fun h3 => ?_) (fun h3 => ?_) ?_
  ·
   have h3n : (specIsValidFile s_.1 a0) = false := bnot_t h3
   refine rN Qc Z4 [1, 2, 3, 50] [1] (pn 5 hx0 (pc 7 (cb h3n (specIsValidFile_a s_.1 a0)) (pe 8 (show .b (!false) = .b true from rfl) p0))) ?_
   exact ⟨rfl, Qf (by rw [h3]; first | done | kernel_rfl)⟩
  ·
   have h3n : (specIsValidFile s_.1 a0) = true := Jd h3
   refine Xw (decide (a0.1 ≥ s_.2.2)) (fun h4 => ?_) (fun h4 => ?_)
   ·
    refine rN Qc Z4 [1, 2, 3, 50] [1] (pn 5 hx0 (pc 7 (cb h3n (specIsValidFile_a s_.1 a0)) (pe 8 (show .b (!true) = .b false from rfl) (pn 13 hx0 (pt 18 h4 p0))))) ?_
    exact ⟨rfl, Qf (by rw [h3, h4]; first | done | kernel_rfl)⟩
   ·
    have h4d := of_decide_eq_false h4
    refine Xw (decide (((k0 : Nat) : Int) > (0 : Int))) (fun h5 => ?_) (fun h5 => ?_)
    ·
     have h5d := of_decide_eq_true h5
     have hx6 : s_.2.1[(Int.toNat (((k0 : Nat) : Int) - 1))]? = some (nth s_.2.1 (Int.toNat (((k0 : Nat) : Int) - 1))) := Xv (by omega)
     refine rN Qc Z4 [1, 2, 3, 50] [1] (pn 5 hx0 (pc 7 (cb h3n (specIsValidFile_a s_.1 a0)) (pe 8 (show .b (!true) = .b false from rfl) (pn 13 hx0 (pf 18 h4 (pt 22 h5 (pe 27 (av_i (IntWalk.i64_in (((k0 : Nat) : Int) - 1) (by omega))) (pg 28 (((k0 : Nat) : Int) - 1) hx6 (pn 34 hx0 p0))))))))) ?_
     exact ⟨rfl, Qf (by rw [h3, h4, h5]; first | done | kernel_rfl)⟩
    ·
     refine rN Qc Z4 [1, 2, 3, 50] [1] (pn 5 hx0 (pc 7 (cb h3n (specIsValidFile_a s_.1 a0)) (pe 8 (show .b (!true) = .b false from rfl) (pn 13 hx0 (pf 18 h4 (pf 22 h5 p0)))))) ?_
     exact ⟨rfl, Qf (by rw [h3, h4, h5]; first | done | kernel_rfl)⟩
  refine ck ((!(specIsValidFile s_.1 a0)) || (decide (a0.1 ≥ s_.2.2) || (decide (((k0 : Nat) : Int) > (0 : Int)) && decide ((nth s_.2.1 (Int.toNat (((k0 : Nat) : Int) - 1))).1 ≥ a0.1)))) (fun h7 => ?_) (fun h7 => ?_)
  ·
   refine su Qc [] [50] [] [] (p0) ?_
   refine Qp ?_
   have hr8 : (Xg (specIsValidStore_f0 s_) specIsValidStore_e0 s_.2.1 0 ()) = .ret false := Zw hx0 (Xm h7 (rfl)) hI0
   exact Ye [] (congrArg (fun z => (.b z : AV)) (show Zx s_ = _ from on_r hr8).symm)
  ·
   have h7r : ((decide (a0.1 ≥ s_.2.2) || (decide (((k0 : Nat) : Int) > (0 : Int)) && decide ((nth s_.2.1 (Int.toNat (((k0 : Nat) : Int) - 1))).1 ≥ a0.1)))) = false := or_r h7
   have h7rl : (decide (a0.1 ≥ s_.2.2)) = false := or_l h7r
   have h7rld := of_decide_eq_false h7rl
   refine Qo ?_
   refine rn Qc [1, 2, 3] [1] (pe 1 (av_i (Qy k0 (by omega))) p0) ?_
   exact Exists.intro _ (And.intro (Qf (by kernel_rfl)) (Q4 hx0 (Qz h7 (rfl)) hI0))
 ·
  refine Qg ?_
  refine sn Qc [1, 2, 3, 8] [1] (pl 3 s_.2.1 (pe 4 (Q0 (decide_eq_false (p := ((k0 : Nat) : Int) < (s_.2.1.length : Int)) (by omega))) p0)) ?_
  refine ckF ?_
  refine Xc ?_
  exact Exists.intro _ (And.intro (Qf (by kernel_rfl)) (Xr hk0 (rfl) hI0))
 ·
  refine Qg ?_
  refine jn [(2, .b ((specIsValidSchema s_.1) && (decide ((s_.2.1.length : Int) ≤ (12 : Int)) && (X4 s_.2.2 1 61))))] [1, 2] [] [1] (specIsValidSchema s_.1) (fun h9 => ?_) (fun h9 => ?_) ?_
  ·
   refine Xw (decide ((s_.2.1.length : Int) ≤ (12 : Int))) (fun h10 => ?_) (fun h10 => ?_)
   ·
    refine rn Qc [2] [] (pc 2 (cb h9 (specIsValidSchema_a s_.1)) (pl 6 s_.2.1 (pt 7 h10 (pc 12 (specl01In_a s_.2.2 1 61) p0)))) ?_
    exact ⟨rfl, Qf (by rw [h9, h10]; first | done | kernel_rfl)⟩
   ·
    refine rn Qc [2] [] (pc 2 (cb h9 (specIsValidSchema_a s_.1)) (pl 6 s_.2.1 (pf 7 h10 p0))) ?_
    exact ⟨rfl, Qf (by rw [h9, h10]; first | done | kernel_rfl)⟩
  ·
   refine rn Qc [2] [] (pc 2 (cb h9 (specIsValidSchema_a s_.1)) p0) ?_
   exact ⟨rfl, Qf (by rw [h9]; first | done | kernel_rfl)⟩
  refine Qp ?_
  exact Ye [] (congrArg (fun z => (.b z : AV)) (show Zx s_ = _ from on_b hD0 (rfl)).symm)
end Go.Proofs.YtcnkkobgogmakaaGreat
namespace Go.Proofs.YtcnkkobgogmakaaGreat
open Go.RowKit
open GoE (enc wide)
def implGetAttr_f0 (name : ByteArray) (_ : Nat) (a0 : Zk) (_ : Unit) : Rd (ValueD) (Unit) (Unit) := (bif (a0.1.toList == name.toList) then (.ret a0.2) else (.next ()))
def implGetAttr_e0 (_ : Nat) (_ : Unit) : Unit := ()
def Xn (f : Xt) (name : ByteArray) : ValueD := (Out.on (Xg (implGetAttr_f0 name) implGetAttr_e0 f.2.2.2.2 0 ()) (fun _ => (0, 0, ⟨#[]⟩)))
theorem implGetAttr_a (f : Xt) (name : ByteArray) : ACalls Tryz.prog 249 [.a [.i f.1, .i f.2.1, .b f.2.2.1, .i f.2.2.2.1, .h f.2.2.2.2], .s name] (.a [.i ((Xn f name).1), .i ((Xn f name).2.1), .s ((Xn f name).2.2)]) := by
 refine en Qc Tryz.func249 fun w0 F0 hG => ?_
 refine sn Qc [1, 2, 4] [2, 4] (p0) ?_
 refine Qg ?_
 refine tn Qc [1, 4, 8, 9, 10] [4] (pl 2 f.2.2.2.2 p0) ?_
 refine mz [(4, .p 4 0), (8, .h f.2.2.2.2), (9, .i (f.2.2.2.2.length : Int)), (10, .i 0)] [0] [(4, [.i 0, .i 0, .s ⟨#[]⟩])] [] ?_
 refine wT 8 0 .sh f.2.2.2.2 (fun hw1 hl2 => ?_)
 refine blk (fun (k0 : Nat) (s0 : Unit) => [(10, .i ((k0 : Nat) : Int))]) [10] (fun k0 s0 => []) [] (fun (y0 : Unit) => []) [1, 8, 9, 10] (fun y0 => []) [] (fun (k0 : Nat) (s0 : Unit) => (Xg (implGetAttr_f0 name) implGetAttr_e0 f.2.2.2.2 0 ()) = Xg (implGetAttr_f0 name) implGetAttr_e0 (List.drop k0 f.2.2.2.2) k0 s0) (fun (y0 : Unit) => (Xg (implGetAttr_f0 name) implGetAttr_e0 f.2.2.2.2 0 ()) = .brk y0) f.2.2.2.2.length () (Qf (by kernel_rfl)) rfl (fun k0 s0 hk0 hI0 => ?_) (fun k0 s0 hk0 hI0 => ?_) (fun y0 hD0 => ?_)
 ·
  obtain ⟨a0, hx0⟩ := Xq (l := f.2.2.2.2) (i := k0) hk0
  refine su Qc [(11, .b true)] [] [] [] (pe 0 (Q0 (decide_eq_true (p := ((k0 : Nat) : Int) < (f.2.2.2.2.length : Int)) (by omega))) p0) ?_
  refine Qg ?_
  refine ckT ?_
  refine Qo ?_
  refine Qg ?_
  refine Q6 ?_
  refine sn Qc [1, 4, 6, 8, 9, 10] [4, 6] (pn 0 hx0 p0) ?_
  refine tn Qc [1, 4, 6, 8, 9, 10, 17] [4, 6] (p0) ?_
  refine ck (a0.1.toList == name.toList) (fun h3 => ?_) (fun h3 => ?_)
  ·
   refine tu Qc [] [11] [(4, [.i a0.2.1, .i a0.2.2.1, .s a0.2.2.2])] [4] (p0) ?_
   refine Qp ?_
   have hr4 : (Xg (implGetAttr_f0 name) implGetAttr_e0 f.2.2.2.2 0 ()) = .ret a0.2 := Zw hx0 (Xm h3 (rfl)) hI0
   exact Ye [] (congrArg (fun z => (.a [.i z.1, .i z.2.1, .s z.2.2] : AV)) (show Xn f name = _ from on_r hr4).symm)
  ·
   refine Qo ?_
   refine qu Qc [(10, .i ((k0 + 1 : Nat) : Int))] [10, 11] [] [] (pe 0 (av_i (Qy k0 (by omega))) p0) ?_
   exact Exists.intro _ (And.intro (Qf (by kernel_rfl)) (Q4 hx0 (Qz h3 (rfl)) hI0))
 ·
  refine sn Qc [1, 4, 8, 9, 10, 11] [4] (pe 0 (Q0 (decide_eq_false (p := ((k0 : Nat) : Int) < (f.2.2.2.2.length : Int)) (by omega))) p0) ?_
  refine Qg ?_
  refine ckF ?_
  refine Xc ?_
  exact Exists.intro _ (And.intro (Qf (by kernel_rfl)) (Xr hk0 (rfl) hI0))
 ·
  refine sn Qc [4] [4] (p0) ?_
  refine Qp ?_
  exact Ye [] (congrArg (fun z => (.a [.i z.1, .i z.2.1, .s z.2.2] : AV)) (show Xn f name = _ from on_b hD0 (rfl)).symm)
def implIntAttr (f : Xt) (name : ByteArray) : Int × Bool := (bif ((Xn f name).1 != (1 : Int)) then (0, false) else ((Xn f name).2.1, true))
theorem implIntAttr_a (f : Xt) (name : ByteArray) : ACalls Tryz.prog 250 [.a [.i f.1, .i f.2.1, .b f.2.2.1, .i f.2.2.2.1, .h f.2.2.2.2], .s name] (.tup [(false, [.i (((implIntAttr f name)).1)]), (false, [.b (((implIntAttr f name)).2)])]) := by
 refine en Qc Tryz.func250 fun w0 F0 hG => ?_
 refine sn Qc [1, 2, 4, 5] [2] (p0) ?_
 refine tn Qc [4, 5, 6] [6] (pc 2 (implGetAttr_a f name) p0) ?_
 refine Qg ?_
 refine tu Qc [(4, .i 0), (5, .b false), (6, .p 6 0), (12, .b ((Xn f name).1 != (1 : Int)))] [0, 1] [(6, [.i ((Xn f name).1), .i ((Xn f name).2.1), .s ((Xn f name).2.2)])] [] (p0) ?_
 refine ck ((Xn f name).1 != (1 : Int)) (fun h1 => ?_) (fun h1 => ?_)
 ·
  refine su Qc [] [12] [] [] (p0) ?_
  refine Qp ?_
  exact Ye [] (congrArg (fun z => (.tup [(false, [.i z.1]), (false, [.b z.2])] : AV)) (show implIntAttr f name = _ from Xm h1 (rfl)).symm)
 ·
  refine Qo ?_
  refine sn Qc [4, 5] [] (p0) ?_
  refine Qp ?_
  exact Ye [] (congrArg (fun z => (.tup [(false, [.i z.1]), (false, [.b z.2])] : AV)) (show implIntAttr f name = _ from Qz h1 (rfl)).symm)
def implResultIDs_f0 (name : ByteArray) (_ : Nat) (a0 : Qs) (_ : Unit) : Rd ((List Int)) (Unit) (Unit) := (bif (a0.1.toList == name.toList) then (.ret a0.2) else (.next ()))
def implResultIDs_e0 (_ : Nat) (_ : Unit) : Unit := ()
def Q9 (r : (List Qs)) (name : ByteArray) : (List Int) := (Out.on (Xg (implResultIDs_f0 name) implResultIDs_e0 r 0 ()) (fun _ => []))
theorem implResultIDs_a (r : (List Qs)) (name : ByteArray) : ACalls Tryz.prog 57 [.h r, .s name] (.o 0 (Q9 r name)) := by
 refine en Qc Tryz.func57 fun w0 F0 hG => ?_
 refine sn Qc [0, 1, 4] [] (p0) ?_
 refine Qg ?_
 refine tn Qc [1, 4, 7, 8, 9] [] (pl 1 r p0) ?_
 refine mz [(4, .e 0), (7, .h r), (8, .i (r.length : Int)), (9, .i 0)] [0] [] [] ?_
 refine wT 7 0 .sh r (fun hw1 hl2 => ?_)
 refine blk (fun (k0 : Nat) (s0 : Unit) => [(9, .i ((k0 : Nat) : Int))]) [9] (fun k0 s0 => []) [] (fun (y0 : Unit) => []) [1, 7, 8, 9] (fun y0 => []) [] (fun (k0 : Nat) (s0 : Unit) => (Xg (implResultIDs_f0 name) implResultIDs_e0 r 0 ()) = Xg (implResultIDs_f0 name) implResultIDs_e0 (List.drop k0 r) k0 s0) (fun (y0 : Unit) => (Xg (implResultIDs_f0 name) implResultIDs_e0 r 0 ()) = .brk y0) r.length () (Qf (by kernel_rfl)) rfl (fun k0 s0 hk0 hI0 => ?_) (fun k0 s0 hk0 hI0 => ?_) (fun y0 hD0 => ?_)
 ·
  obtain ⟨a0, hx0⟩ := Xq (l := r) (i := k0) hk0
  refine sn Qc [1, 4, 7, 8, 9, 10] [] (pe 0 (Q0 (decide_eq_true (p := ((k0 : Nat) : Int) < (r.length : Int)) (by omega))) p0) ?_
  refine Qg ?_
  refine ckT ?_
  refine Qo ?_
  refine Qg ?_
  refine Q6 ?_
  refine tn Qc [1, 4, 6, 7, 8, 9] [6] (pn 0 hx0 p0) ?_
  refine tu Qc [(6, .p 6 0), (16, .b (a0.1.toList == name.toList))] [] [(6, [.s a0.1, .h a0.2])] [] (p0) ?_
  refine ck (a0.1.toList == name.toList) (fun h3 => ?_) (fun h3 => ?_)
  ·
   refine sn Qc [1, 4, 7, 8, 9] [] (pc 2 (cloneInt_a a0.2) p0) ?_
   refine Qp ?_
   have hr4 : (Xg (implResultIDs_f0 name) implResultIDs_e0 r 0 ()) = .ret a0.2 := Zw hx0 (Xm h3 (rfl)) hI0
   exact Ye [] (congrArg (fun z => (.o 0 z : AV)) (show Q9 r name = _ from on_r hr4).symm)
  ·
   refine Qo ?_
   refine rn Qc [1, 4, 7, 8, 9] [] (pe 0 (av_i (Qy k0 (by omega))) p0) ?_
   exact Exists.intro _ (And.intro (Qf (by kernel_rfl)) (Q4 hx0 (Qz h3 (rfl)) hI0))
 ·
  refine sn Qc [1, 4, 7, 8, 9, 10] [] (pe 0 (Q0 (decide_eq_false (p := ((k0 : Nat) : Int) < (r.length : Int)) (by omega))) p0) ?_
  refine Qg ?_
  refine ckF ?_
  refine Xc ?_
  exact Exists.intro _ (And.intro (Qf (by kernel_rfl)) (Xr hk0 (rfl) hI0))
 ·
  refine sn Qc [4] [] (p0) ?_
  refine opn [(false, 4, 0, true, 384000, 1)] ?_
  refine Qp ?_
  exact Ye [] (congrArg (fun z => (.o 0 z : AV)) (show Q9 r name = _ from on_b hD0 (rfl)).symm)
def Z9 (v : Int) (k0 : Nat) (a0 : Int) (_ : Unit) : Rd (Int) (Unit) (Unit) := (bif (v == a0) then (.ret ((k0 : Nat) : Int)) else (.next ()))
def slicesIndex_int_e0 (_ : Nat) (_ : Unit) : Unit := ()
def slicesIndex_int (s_ : (List Int)) (v : Int) : Int := (Out.on (Xg (Z9 v) slicesIndex_int_e0 s_ 0 ()) (fun _ => -1))
theorem slicesIndex_int_a (s_ : (List Int)) (v : Int) : ACalls Tryz.prog 101 [.h s_, .i v] (.i (slicesIndex_int s_ v)) := by
 refine en Qc Tryz.func101 fun w0 F0 hG => ?_
 refine sn Qc [0, 1, 4] [] (p0) ?_
 refine Qg ?_
 refine tn Qc [0, 1, 4, 7, 8] [] (pl 1 s_ p0) ?_
 refine mz [(4, .i 0), (7, .i (s_.length : Int)), (8, .i 0)] [] [] [] ?_
 refine wT 0 0 .sh s_ (fun hw1 hl2 => ?_)
 refine blk (fun (k0 : Nat) (s0 : Unit) => [(8, .i ((k0 : Nat) : Int))]) [8] (fun k0 s0 => []) [] (fun (y0 : Unit) => []) [0, 1, 7, 8] (fun y0 => []) [] (fun (k0 : Nat) (s0 : Unit) => (Xg (Z9 v) slicesIndex_int_e0 s_ 0 ()) = Xg (Z9 v) slicesIndex_int_e0 (List.drop k0 s_) k0 s0) (fun (y0 : Unit) => (Xg (Z9 v) slicesIndex_int_e0 s_ 0 ()) = .brk y0) s_.length () (Qf (by kernel_rfl)) rfl (fun k0 s0 hk0 hI0 => ?_) (fun k0 s0 hk0 hI0 => ?_) (fun y0 hD0 => ?_)
 ·
  obtain ⟨a0, hx0⟩ := Xq (l := s_) (i := k0) hk0
  refine sn Qc [0, 1, 4, 7, 8, 9] [] (pe 0 (Q0 (decide_eq_true (p := ((k0 : Nat) : Int) < (s_.length : Int)) (by omega))) p0) ?_
  refine Qg ?_
  refine ckT ?_
  refine Qo ?_
  refine Qg ?_
  refine Q6 ?_
  refine tn Qc [0, 1, 4, 5, 7, 8] [] (p0) ?_
  refine tu Qc [(5, .i ((k0 : Nat) : Int)), (16, .b (v == a0))] [] [] [] (pn 3 hx0 p0) ?_
  refine ck (v == a0) (fun h3 => ?_) (fun h3 => ?_)
  ·
   refine sn Qc [0, 1, 4, 7, 8] [] (p0) ?_
   refine Qp ?_
   have hr4 : (Xg (Z9 v) slicesIndex_int_e0 s_ 0 ()) = .ret ((k0 : Nat) : Int) := Zw hx0 (Xm h3 (rfl)) hI0
   exact Ye [] (congrArg (fun z => (.i z : AV)) (show slicesIndex_int s_ v = _ from on_r hr4).symm)
  ·
   have h3d := Zd h3
   refine Qo ?_
   refine rn Qc [0, 1, 4, 7, 8] [] (pe 0 (av_i (Qy k0 (by omega))) p0) ?_
   exact Exists.intro _ (And.intro (Qf (by kernel_rfl)) (Q4 hx0 (Qz h3 (rfl)) hI0))
 ·
  refine sn Qc [0, 1, 4, 7, 8, 9] [] (pe 0 (Q0 (decide_eq_false (p := ((k0 : Nat) : Int) < (s_.length : Int)) (by omega))) p0) ?_
  refine Qg ?_
  refine ckF ?_
  refine Xc ?_
  exact Exists.intro _ (And.intro (Qf (by kernel_rfl)) (Xr hk0 (rfl) hI0))
 ·
  refine sn Qc [4] [] (p0) ?_
  refine Qp ?_
  exact Ye [] (congrArg (fun z => (.i z : AV)) (show slicesIndex_int s_ v = _ from on_b hD0 (rfl)).symm)
def slicesContains_int (s_ : (List Int)) (v : Int) : Bool := decide ((slicesIndex_int s_ v) ≥ (0 : Int))
theorem slicesContains_int_a (s_ : (List Int)) (v : Int) : ACalls Tryz.prog 60 [.h s_, .i v] (.b (slicesContains_int s_ v)) := by
 refine en Qc Tryz.func60 fun w0 F0 hG => ?_
 refine sn Qc [0, 1, 4] [] (p0) ?_
 refine tn Qc [4] [] (pc 2 (slicesIndex_int_a s_ v) p0) ?_
 refine Qp ?_
 exact Ye [] (congrArg (fun z => (.b z : AV)) (show slicesContains_int s_ v = decide ((slicesIndex_int s_ v) ≥ (0 : Int)) from rfl).symm)
def implContainsID (ids : (List Int)) (id : Int) : Bool := (slicesContains_int ids id)
theorem implContainsID_a (ids : (List Int)) (id : Int) : ACalls Tryz.prog 20 [.h ids, .i id] (.b (implContainsID ids id)) := by
 refine en Qc Tryz.func20 fun w0 F0 hG => ?_
 refine sn Qc [0, 1, 4] [] (p0) ?_
 refine tn Qc [4] [] (pc 2 (slicesContains_int_a ids id) p0) ?_
 refine Qp ?_
 exact Ye [] (congrArg (fun z => (.b z : AV)) (show implContainsID ids id = (slicesContains_int ids id) from rfl).symm)
def Xl (n_ : Nat) (q : (List Xa)) (at_ : Int) (f : Xt) (r : (List Qs)) : Bool := match n_ with
 | 0 => default
 | n_ + 1 => (bif ((nth q (Int.toNat at_)).1 == (2 : Int)) then ((Xn f ((nth q (Int.toNat at_)).2.2.2.1)).1 != (0 : Int)) else (bif ((nth q (Int.toNat at_)).1 == (3 : Int)) then (((Xn f ((nth q (Int.toNat at_)).2.2.2.1)).1 == (nth q (Int.toNat at_)).2.2.2.2.1) && (((Xn f ((nth q (Int.toNat at_)).2.2.2.1)).2.1 == (nth q (Int.toNat at_)).2.2.2.2.2.1) && ((((Xn f ((nth q (Int.toNat at_)).2.2.2.1)).2.2).toList == ((nth q (Int.toNat at_)).2.2.2.2.2.2).toList) && true))) else (bif ((nth q (Int.toNat at_)).1 == (4 : Int)) then (((implIntAttr f ((nth q (Int.toNat at_)).2.2.2.1))).2 && decide (((implIntAttr f ((nth q (Int.toNat at_)).2.2.2.1))).1 < (nth q (Int.toNat at_)).2.2.2.2.2.1)) else (bif ((nth q (Int.toNat at_)).1 == (5 : Int)) then (!(Xl n_ q ((nth q (Int.toNat at_)).2.1) f r)) else (bif ((nth q (Int.toNat at_)).1 == (6 : Int)) then ((Xl n_ q ((nth q (Int.toNat at_)).2.1) f r) && (Xl n_ q ((nth q (Int.toNat at_)).2.2.1) f r)) else (bif ((nth q (Int.toNat at_)).1 == (7 : Int)) then ((Xl n_ q ((nth q (Int.toNat at_)).2.1) f r) || (Xl n_ q ((nth q (Int.toNat at_)).2.2.1) f r)) else (bif ((nth q (Int.toNat at_)).1 == (8 : Int)) then (implContainsID (Q9 r ((nth q (Int.toNat at_)).2.2.2.1)) f.1) else (bif ((nth q (Int.toNat at_)).1 == (9 : Int)) then ((f.2.2.2.1 != (0 : Int)) && (implContainsID (Q9 r ((nth q (Int.toNat at_)).2.2.2.1)) f.2.2.2.1)) else true))))))))
theorem implmatchesAt_a : ∀ (n_ : Nat) (q : (List Xa)) (at_ : Int) (f : Xt) (r : (List Qs)) (hv : Qx q = true) (ha : 0 ≤ at_) (hb : at_ < (q.length : Int)) (hn : at_ < ((n_ : Nat) : Int)), ACalls Tryz.prog 222 [.h q, .i at_, .a [.i f.1, .i f.2.1, .b f.2.2.1, .i f.2.2.2.1, .h f.2.2.2.2], .h r] (.b (Xl n_ q at_ f r)) := by
 intro n_
 induction n_ with
 | zero => intro q at_ f r hv ha hb hn; exact (by omega : False).elim
 | succ n_ ih =>
  intro q at_ f r hv ha hb hn
  refine en Qc Tryz.func222 fun w0 F0 hG => ?_
  refine sn Qc [0, 1, 3, 6, 8] [6] (p0) ?_
  refine wT 0 0 .sh q (fun hw2 hl3 => ?_)
  have hx1 : q[(Int.toNat at_)]? = some (nth q (Int.toNat at_)) := Xv (by omega)
  refine tn Qc [0, 3, 6, 8, 9] [6, 9] (pg 2 at_ hx1 p0) ?_
  refine Qg ?_
  refine tu Qc [(6, .p 6 0), (8, .b false), (9, .p 9 0), (17, .i ((nth q (Int.toNat at_)).1))] [1, 2] [(6, [.i f.1, .i f.2.1, .b f.2.2.1, .i f.2.2.2.1, .h f.2.2.2.2]), (9, [.i ((nth q (Int.toNat at_)).1), .i ((nth q (Int.toNat at_)).2.1), .i ((nth q (Int.toNat at_)).2.2.1), .s ((nth q (Int.toNat at_)).2.2.2.1), .i ((nth q (Int.toNat at_)).2.2.2.2.1), .i ((nth q (Int.toNat at_)).2.2.2.2.2.1), .s ((nth q (Int.toNat at_)).2.2.2.2.2.2)])] [] (p0) ?_
  refine Q6 ?_
  refine sn Qc [0, 3, 6, 8, 9, 17, 18] [6, 9] (p0) ?_
  refine ck ((nth q (Int.toNat at_)).1 == (2 : Int)) (fun h4 => ?_) (fun h4 => ?_)
  ·
   refine tn Qc [8] [] (pc 3 (implGetAttr_a f ((nth q (Int.toNat at_)).2.2.2.1)) p0) ?_
   refine Qp ?_
   exact Ye [] (congrArg (fun z => (.b z : AV)) (show Xl (n_ + 1) q at_ f r = _ from Xm h4 (rfl)).symm)
  ·
   have h4d := Zd h4
   refine tn Qc [0, 3, 6, 8, 9, 17, 26] [6, 9] (p0) ?_
   refine ck ((nth q (Int.toNat at_)).1 == (3 : Int)) (fun h5 => ?_) (fun h5 => ?_)
   ·
    refine tU Qc Z4 [(8, .b (((Xn f ((nth q (Int.toNat at_)).2.2.2.1)).1 == (nth q (Int.toNat at_)).2.2.2.2.1) && (((Xn f ((nth q (Int.toNat at_)).2.2.2.1)).2.1 == (nth q (Int.toNat at_)).2.2.2.2.2.1) && ((((Xn f ((nth q (Int.toNat at_)).2.2.2.1)).2.2).toList == ((nth q (Int.toNat at_)).2.2.2.2.2.2).toList) && true))))] [0, 3, 6, 8, 9, 17] [] [6, 9] (pc 3 (implGetAttr_a f ((nth q (Int.toNat at_)).2.2.2.1)) p0) ?_
    refine Qp ?_
    exact Ye [] (congrArg (fun z => (.b z : AV)) (show Xl (n_ + 1) q at_ f r = _ from Qz h4 (Xm h5 (rfl))).symm)
   ·
    have h5d := Zd h5
    refine tu Qc [(35, .b ((nth q (Int.toNat at_)).1 == (4 : Int)))] [] [] [] (p0) ?_
    refine ck ((nth q (Int.toNat at_)).1 == (4 : Int)) (fun h6 => ?_) (fun h6 => ?_)
    ·
     refine sn Qc [8, 9, 10, 11] [9] (pc 3 (implIntAttr_a f ((nth q (Int.toNat at_)).2.2.2.1)) p0) ?_
     refine Qg ?_
     refine mz [(10, .i (((implIntAttr f ((nth q (Int.toNat at_)).2.2.2.1))).1)), (11, .b (((implIntAttr f ((nth q (Int.toNat at_)).2.2.2.1))).2))] [0, 3, 6, 17, 35] [] [6] ?_
     refine jn [(8, .b (((implIntAttr f ((nth q (Int.toNat at_)).2.2.2.1))).2 && decide (((implIntAttr f ((nth q (Int.toNat at_)).2.2.2.1))).1 < (nth q (Int.toNat at_)).2.2.2.2.2.1)))] [8, 9, 10, 11] [] [9] (((implIntAttr f ((nth q (Int.toNat at_)).2.2.2.1))).2) (fun h7 => ?_) (fun h7 => ?_) ?_
     ·
      refine rn Qc [8] [] (pt 0 h7 p0) ?_
      exact ⟨rfl, Qf (by rw [h7]; first | done | kernel_rfl)⟩
     ·
      refine rn Qc [8] [] (pf 0 h7 p0) ?_
      exact ⟨rfl, Qf (by rw [h7]; first | done | kernel_rfl)⟩
     refine Qp ?_
     exact Ye [] (congrArg (fun z => (.b z : AV)) (show Xl (n_ + 1) q at_ f r = _ from Qz h4 (Qz h5 (Xm h6 (rfl)))).symm)
    ·
     have h6d := Zd h6
     refine sn Qc [0, 3, 6, 8, 9, 17, 52] [6, 9] (p0) ?_
     refine ck ((nth q (Int.toNat at_)).1 == (5 : Int)) (fun h8 => ?_) (fun h8 => ?_)
     ·
      have h8d := eq_of_beq h8
      refine tn Qc [8] [] (pc 5 (ih q ((nth q (Int.toNat at_)).2.1) f r hv (by have hz := ql_a hv ha hb h8; omega) (by have hz := ql_a hv ha hb h8; omega) (by have hz := ql_a hv ha hb h8; omega)) p0) ?_
      refine Qp ?_
      exact Ye [] (congrArg (fun z => (.b z : AV)) (show Xl (n_ + 1) q at_ f r = _ from Qz h4 (Qz h5 (Qz h6 (Xm h8 (rfl))))).symm)
     ·
      have h8d := Zd h8
      refine tn Qc [0, 3, 6, 8, 9, 17, 61] [6, 9] (p0) ?_
      refine ck ((nth q (Int.toNat at_)).1 == (6 : Int)) (fun h9 => ?_) (fun h9 => ?_)
      ·
       have h9d := eq_of_beq h9
       refine Qg ?_
       refine mz [(61, .b ((nth q (Int.toNat at_)).1 == (6 : Int)))] [35] [] [] ?_
       refine jn [(8, .b ((Xl n_ q ((nth q (Int.toNat at_)).2.1) f r) && (Xl n_ q ((nth q (Int.toNat at_)).2.2.1) f r)))] [0, 3, 6, 8, 9, 17, 61] [] [6, 9] (Xl n_ q ((nth q (Int.toNat at_)).2.1) f r) (fun h10 => ?_) (fun h10 => ?_) ?_
       ·
        refine rn Qc [8] [] (pc 5 (cb h10 (ih q ((nth q (Int.toNat at_)).2.1) f r hv (by have hz := ql_b hv ha hb h9; omega) (by have hz := ql_b hv ha hb h9; omega) (by have hz := ql_b hv ha hb h9; omega))) (pc 12 (ih q ((nth q (Int.toNat at_)).2.2.1) f r hv (by have hz := qr_b hv ha hb h9; omega) (by have hz := qr_b hv ha hb h9; omega) (by have hz := qr_b hv ha hb h9; omega)) p0)) ?_
        exact ⟨rfl, Qf (by rw [h10]; first | done | kernel_rfl)⟩
       ·
        refine rn Qc [8] [] (pc 5 (cb h10 (ih q ((nth q (Int.toNat at_)).2.1) f r hv (by have hz := ql_b hv ha hb h9; omega) (by have hz := ql_b hv ha hb h9; omega) (by have hz := ql_b hv ha hb h9; omega))) p0) ?_
        exact ⟨rfl, Qf (by rw [h10]; first | done | kernel_rfl)⟩
       refine Qp ?_
       exact Ye [] (congrArg (fun z => (.b z : AV)) (show Xl (n_ + 1) q at_ f r = _ from Qz h4 (Qz h5 (Qz h6 (Qz h8 (Xm h9 (rfl)))))).symm)
      ·
       have h9d := Zd h9
       refine tu Qc [(77, .b ((nth q (Int.toNat at_)).1 == (7 : Int)))] [35] [] [] (p0) ?_
       refine ck ((nth q (Int.toNat at_)).1 == (7 : Int)) (fun h11 => ?_) (fun h11 => ?_)
       ·
        have h11d := eq_of_beq h11
        refine Qg ?_
        refine jn [(8, .b ((Xl n_ q ((nth q (Int.toNat at_)).2.1) f r) || (Xl n_ q ((nth q (Int.toNat at_)).2.2.1) f r)))] [0, 3, 6, 8, 9, 17, 77] [] [6, 9] (Xl n_ q ((nth q (Int.toNat at_)).2.1) f r) (fun h12 => ?_) (fun h12 => ?_) ?_
        ·
         refine rn Qc [8] [] (pc 5 (cb h12 (ih q ((nth q (Int.toNat at_)).2.1) f r hv (by have hz := ql_c hv ha hb h11; omega) (by have hz := ql_c hv ha hb h11; omega) (by have hz := ql_c hv ha hb h11; omega))) p0) ?_
         exact ⟨rfl, Qf (by rw [h12]; first | done | kernel_rfl)⟩
        ·
         refine rn Qc [8] [] (pc 5 (cb h12 (ih q ((nth q (Int.toNat at_)).2.1) f r hv (by have hz := ql_c hv ha hb h11; omega) (by have hz := ql_c hv ha hb h11; omega) (by have hz := ql_c hv ha hb h11; omega))) (pc 12 (ih q ((nth q (Int.toNat at_)).2.2.1) f r hv (by have hz := qr_c hv ha hb h11; omega) (by have hz := qr_c hv ha hb h11; omega) (by have hz := qr_c hv ha hb h11; omega)) p0)) ?_
         exact ⟨rfl, Qf (by rw [h12]; first | done | kernel_rfl)⟩
        refine Qp ?_
        exact Ye [] (congrArg (fun z => (.b z : AV)) (show Xl (n_ + 1) q at_ f r = _ from Qz h4 (Qz h5 (Qz h6 (Qz h8 (Qz h9 (Xm h11 (rfl))))))).symm)
       ·
        refine sn Qc [3, 6, 8, 9, 17, 93] [6, 9] (p0) ?_
        refine ck ((nth q (Int.toNat at_)).1 == (8 : Int)) (fun h13 => ?_) (fun h13 => ?_)
        ·
         refine tN Qc Z4 [8] [] (pc 3 (implResultIDs_a r ((nth q (Int.toNat at_)).2.2.2.1)) (pc 6 (implContainsID_a (Q9 r ((nth q (Int.toNat at_)).2.2.2.1)) f.1) p0)) ?_
         refine Qp ?_
         exact Ye [] (congrArg (fun z => (.b z : AV)) (show Xl (n_ + 1) q at_ f r = _ from Qz h4 (Qz h5 (Qz h6 (Qz h8 (Qz h9 (Qz h11 (Xm h13 (rfl)))))))).symm)
        ·
         refine tn Qc [3, 6, 8, 9, 102] [6, 9] (p0) ?_
         refine ck ((nth q (Int.toNat at_)).1 == (9 : Int)) (fun h14 => ?_) (fun h14 => ?_)
         ·
          refine Qg ?_
          refine mz [(102, .b ((nth q (Int.toNat at_)).1 == (9 : Int)))] [0, 17, 77] [] [] ?_
          refine jn [(8, .b ((f.2.2.2.1 != (0 : Int)) && (implContainsID (Q9 r ((nth q (Int.toNat at_)).2.2.2.1)) f.2.2.2.1)))] [3, 6, 8, 9, 102] [] [6, 9] (f.2.2.2.1 != (0 : Int)) (fun h15 => ?_) (fun h15 => ?_) ?_
          ·
           refine rN Qc Z4 [8] [] (pt 2 h15 (pc 7 (implResultIDs_a r ((nth q (Int.toNat at_)).2.2.2.1)) (pc 10 (implContainsID_a (Q9 r ((nth q (Int.toNat at_)).2.2.2.1)) f.2.2.2.1) p0))) ?_
           exact ⟨rfl, Qf (by rw [h15]; first | done | kernel_rfl)⟩
          ·
           refine rN Qc Z4 [8] [] (pf 2 h15 p0) ?_
           exact ⟨rfl, Qf (by rw [h15]; first | done | kernel_rfl)⟩
          refine Qp ?_
          exact Ye [] (congrArg (fun z => (.b z : AV)) (show Xl (n_ + 1) q at_ f r = _ from Qz h4 (Qz h5 (Qz h6 (Qz h8 (Qz h9 (Qz h11 (Qz h13 (Xm h14 (rfl))))))))).symm)
         ·
          refine Qo ?_
          refine tu Qc [(8, .b true)] [0, 3, 6, 8, 9, 17, 77] [] [6, 9] (p0) ?_
          refine Qp ?_
          exact Ye [] (congrArg (fun z => (.b z : AV)) (show Xl (n_ + 1) q at_ f r = _ from Qz h4 (Qz h5 (Qz h6 (Qz h8 (Qz h9 (Qz h11 (Qz h13 (Qz h14 (rfl))))))))).symm)
def implMatches (q : (List Xa)) (f : Xt) (r : (List Qs)) : Bool := ((Qx q) && (Xl (List.length q) q ((q.length : Int) - 1) f r))
theorem implMatches_a (q : (List Xa)) (f : Xt) (r : (List Qs)) : ACalls Tryz.prog 194 [.h q, .a [.i f.1, .i f.2.1, .b f.2.2.1, .i f.2.2.2.1, .h f.2.2.2.2], .h r] (.b (implMatches q f r)) := by
 refine en Qc Tryz.func194 fun w0 F0 hG => ?_
 refine sn Qc [0, 2, 4, 6] [4] (p0) ?_
 refine Qg ?_
 refine mz [(4, .p 4 0), (6, .b false)] [1] [(4, [.i f.1, .i f.2.1, .b f.2.2.1, .i f.2.2.2.1, .h f.2.2.2.2])] [] ?_
 refine jn [(6, .b ((Qx q) && (Xl (List.length q) q ((q.length : Int) - 1) f r)))] [0, 2, 4, 6] [] [4] (Qx q) (fun h1 => ?_) (fun h1 => ?_) ?_
 ·
  refine wT 0 0 .sh q (fun hw2 hl3 => ?_)
  refine rn Qc [6] [] (pc 1 (cb h1 (implIsValidQuery_a q)) (pl 5 q (pe 6 (av_i (IntWalk.i64_in ((q.length : Int) - 1) (by omega))) (pc 9 (implmatchesAt_a (List.length q) q ((q.length : Int) - 1) f r h1 (by have := vq_len h1; omega) (by omega) (by omega)) p0)))) ?_
  exact ⟨rfl, Qf (by rw [h1]; first | done | kernel_rfl)⟩
 ·
  refine rn Qc [6] [] (pc 1 (cb h1 (implIsValidQuery_a q)) p0) ?_
  exact ⟨rfl, Qf (by rw [h1]; first | done | kernel_rfl)⟩
 refine Qp ?_
 exact Ye [] (congrArg (fun z => (.b z : AV)) (show implMatches q f r = ((Qx q) && (Xl (List.length q) q ((q.length : Int) - 1) f r)) from rfl).symm)
def implSelectFiles_f0 (q : (List Xa)) (r : (List Qs)) (_ : Nat) (a0 : Xt) (s0 : (List Int)) : Rd ((List Int)) ((List Int)) ((List Int)) := (bif (implMatches q a0 r) then (.next (s0 ++ [a0.1])) else (.next s0))
def implSelectFiles_e0 (_ : Nat) (s0 : (List Int)) : (List Int) := s0
def Ym (s_ : Yl) (q : (List Xa)) (r : (List Qs)) : (List Int) := (Out.on (Xg (implSelectFiles_f0 q r) implSelectFiles_e0 s_.2.1 0 []) (fun y0 => y0))
theorem implSelectFiles_a (s_ : Yl) (q : (List Xa)) (r : (List Qs)) : ACalls Tryz.prog 148 [.a [.h s_.1, .h s_.2.1, .i s_.2.2], .h q, .h r] (.o 0 (Ym s_ q r)) := by
 refine en Qc Tryz.func148 fun w0 F0 hG => ?_
 refine sn Qc [1, 2, 3, 6] [3] (p0) ?_
 refine tn Qc [1, 2, 3, 6, 7] [3] (p0) ?_
 refine Qg ?_
 refine tu Qc [(6, .e 0), (7, .one (.slc (.own true 640) 1 [])), (12, .h s_.2.1), (13, .i (s_.2.1.length : Int)), (14, .i 0)] [0] [] [] (pl 2 s_.2.1 p0) ?_
 refine wT 12 0 .sh s_.2.1 (fun hw1 hl2 => ?_)
 refine blk (fun (k0 : Nat) (s0 : (List Int)) => [(7, .o 147203 s0), (14, .i ((k0 : Nat) : Int))]) [7, 14] (fun k0 s0 => []) [] (fun (y0 : (List Int)) => [(7, .o 147353 y0)]) [1, 2, 7, 12, 13, 14] (fun y0 => []) [] (fun (k0 : Nat) (s0 : (List Int)) => (Xg (implSelectFiles_f0 q r) implSelectFiles_e0 s_.2.1 0 []) = Xg (implSelectFiles_f0 q r) implSelectFiles_e0 (List.drop k0 s_.2.1) k0 s0 ∧ List.length s0 ≤ k0) (fun (y0 : (List Int)) => (Xg (implSelectFiles_f0 q r) implSelectFiles_e0 s_.2.1 0 []) = .brk y0) s_.2.1.length [] (X2 [(640, 147203)] (by kernel_rfl)) ⟨rfl, (by simp)⟩ (fun k0 s0 hk0 hI0 => ?_) (fun k0 s0 hk0 hI0 => ?_) (fun y0 hD0 => ?_)
 ·
  have hA0_0 := hI0.2
  obtain ⟨a0, hx0⟩ := Xq (l := s_.2.1) (i := k0) hk0
  refine su Qc [(15, .b true)] [] [] [] (pe 0 (Q0 (decide_eq_true (p := ((k0 : Nat) : Int) < (s_.2.1.length : Int)) (by omega))) p0) ?_
  refine Qg ?_
  refine ckT ?_
  refine Qo ?_
  refine Qg ?_
  refine Q6 ?_
  refine sn Qc [1, 2, 6, 7, 9, 12, 13, 14] [9] (pn 0 hx0 p0) ?_
  refine tn Qc [1, 2, 6, 7, 9, 12, 13, 14, 21] [9] (pc 3 (implMatches_a q a0 r) p0) ?_
  refine ck (implMatches q a0 r) (fun h3 => ?_) (fun h3 => ?_)
  ·
   refine wT 7 0 (.own true 147203) s0 (fun hw4 hl5 => ?_)
   refine qu Qc [(7, .one (.slc (.own true 1664) 1 ((eL s0) ++ [[.i a0.1]])))] [7, 15] [] [] (pa s0 [a0.1] p0) ?_
   refine eqn [(7, .o 1664 (s0 ++ [a0.1]))] [7] [] [] (by rw [show ((eL s0) ++ [[.i a0.1]]) = (eL (s0 ++ [a0.1])) from app_eL (rfl) (rfl)]; first | done | kernel_rfl) ?_
   refine rn Qc [1, 2, 6, 7, 12, 13, 14] [] (pe 0 (av_i (Qy k0 (by omega))) p0) ?_
   exact Exists.intro (s0 ++ [a0.1]) (And.intro (X2 [(1664, 147203)] (by kernel_rfl)) ⟨Q4 hx0 (Xm h3 (rfl)) hI0.1, by first | omega | (simp; omega) | simp⟩)
  ·
   refine Qo ?_
   refine qu Qc [(14, .i ((k0 + 1 : Nat) : Int))] [14, 15] [] [] (pe 0 (av_i (Qy k0 (by omega))) p0) ?_
   exact Exists.intro s0 (And.intro (Qf (by kernel_rfl)) ⟨Q4 hx0 (Qz h3 (rfl)) hI0.1, by first | omega | (simp; omega) | simp⟩)
 ·
  have hA0_0 := hI0.2
  refine su Qc [(15, .b false)] [] [] [] (pe 0 (Q0 (decide_eq_false (p := ((k0 : Nat) : Int) < (s_.2.1.length : Int)) (by omega))) p0) ?_
  refine Qg ?_
  refine ckF ?_
  refine Xc ?_
  exact Exists.intro _ (And.intro (X2 [(147203, 147353)] (by kernel_rfl)) (Xr hk0 (rfl) hI0.1))
 ·
  refine sn Qc [6] [] (p0) ?_
  refine Qp ?_
  exact Ye [] (congrArg (fun z => (.o 0 z : AV)) (show Ym s_ q r = _ from on_b hD0 (rfl)).symm)
def specGetAttr_f0 (name : ByteArray) (_ : Nat) (a0 : Zk) (_ : Unit) : Rd (ValueD) (Unit) (Unit) := (bif (a0.1.toList == name.toList) then (.ret a0.2) else (.next ()))
def specGetAttr_e0 (_ : Nat) (_ : Unit) : Unit := ()
def Y5 (f : Xt) (name : ByteArray) : ValueD := (Out.on (Xg (specGetAttr_f0 name) specGetAttr_e0 f.2.2.2.2 0 ()) (fun _ => (0, 0, ⟨#[]⟩)))
theorem specGetAttr_a (f : Xt) (name : ByteArray) : ACalls Tryz.prog 18 [.a [.i f.1, .i f.2.1, .b f.2.2.1, .i f.2.2.2.1, .h f.2.2.2.2], .s name] (.a [.i ((Y5 f name).1), .i ((Y5 f name).2.1), .s ((Y5 f name).2.2)]) := by
 refine en Qc Tryz.func18 fun w0 F0 hG => ?_
 refine sn Qc [1, 2, 4] [2, 4] (p0) ?_
 refine Qg ?_
 refine tn Qc [1, 2, 4, 5] [2, 4] (p0) ?_
 refine mz [(2, .p 2 0), (4, .p 4 0), (5, .i 0)] [0] [(2, [.i f.1, .i f.2.1, .b f.2.2.1, .i f.2.2.2.1, .h f.2.2.2.2]), (4, [.i 0, .i 0, .s ⟨#[]⟩])] [] ?_
 refine wB 2 4 .sh f.2.2.2.2 (fun hw1 hl2 => ?_)
 refine blk (fun (k0 : Nat) (s0 : Unit) => [(5, .i ((k0 : Nat) : Int))]) [5] (fun k0 s0 => []) [] (fun (y0 : Unit) => []) [1, 2, 5] (fun y0 => []) [2] (fun (k0 : Nat) (s0 : Unit) => (Xg (specGetAttr_f0 name) specGetAttr_e0 f.2.2.2.2 0 ()) = Xg (specGetAttr_f0 name) specGetAttr_e0 (List.drop k0 f.2.2.2.2) k0 s0) (fun (y0 : Unit) => (Xg (specGetAttr_f0 name) specGetAttr_e0 f.2.2.2.2 0 ()) = .brk y0) f.2.2.2.2.length () (Qf (by kernel_rfl)) rfl (fun k0 s0 hk0 hI0 => ?_) (fun k0 s0 hk0 hI0 => ?_) (fun y0 hD0 => ?_)
 ·
  obtain ⟨a0, hx0⟩ := Xq (l := f.2.2.2.2) (i := k0) hk0
  refine Qg ?_
  refine sn Qc [1, 2, 4, 5, 10] [2, 4] (pl 3 f.2.2.2.2 (pe 4 (Q0 (decide_eq_true (p := ((k0 : Nat) : Int) < (f.2.2.2.2.length : Int)) (by omega))) p0)) ?_
  refine ckT ?_
  refine Qo ?_
  refine Qg ?_
  refine Q6 ?_
  refine tn Qc [1, 2, 4, 5, 20] [2, 4] (pn 3 hx0 p0) ?_
  refine ck (a0.1.toList == name.toList) (fun h3 => ?_) (fun h3 => ?_)
  ·
   refine tu Qc [] [] [(4, [.i a0.2.1, .i a0.2.2.1, .s a0.2.2.2])] [4] (pn 3 hx0 p0) ?_
   refine Qp ?_
   have hr4 : (Xg (specGetAttr_f0 name) specGetAttr_e0 f.2.2.2.2 0 ()) = .ret a0.2 := Zw hx0 (Xm h3 (rfl)) hI0
   exact Ye [] (congrArg (fun z => (.a [.i z.1, .i z.2.1, .s z.2.2] : AV)) (show Y5 f name = _ from on_r hr4).symm)
  ·
   refine Qo ?_
   refine qu Qc [(5, .i ((k0 + 1 : Nat) : Int))] [5] [] [] (pe 1 (av_i (Qy k0 (by omega))) p0) ?_
   exact Exists.intro _ (And.intro (Qf (by kernel_rfl)) (Q4 hx0 (Qz h3 (rfl)) hI0))
 ·
  refine Qg ?_
  refine sn Qc [1, 2, 4, 5, 10] [2, 4] (pl 3 f.2.2.2.2 (pe 4 (Q0 (decide_eq_false (p := ((k0 : Nat) : Int) < (f.2.2.2.2.length : Int)) (by omega))) p0)) ?_
  refine ckF ?_
  refine Xc ?_
  exact Exists.intro _ (And.intro (Qf (by kernel_rfl)) (Xr hk0 (rfl) hI0))
 ·
  refine sn Qc [4] [4] (p0) ?_
  refine Qp ?_
  exact Ye [] (congrArg (fun z => (.a [.i z.1, .i z.2.1, .s z.2.2] : AV)) (show Y5 f name = _ from on_b hD0 (rfl)).symm)
def specResultIDs_f0 (name : ByteArray) (_ : Nat) (a0 : Qs) (_ : Unit) : Rd ((List Int)) (Unit) (Unit) := (bif (a0.1.toList == name.toList) then (.ret a0.2) else (.next ()))
def specResultIDs_e0 (_ : Nat) (_ : Unit) : Unit := ()
def specResultIDs (a_ : (List Qs)) (name : ByteArray) : (List Int) := (Out.on (Xg (specResultIDs_f0 name) specResultIDs_e0 a_ 0 ()) (fun _ => []))
theorem specResultIDs_a (a_ : (List Qs)) (name : ByteArray) : ACalls Tryz.prog 58 [.h a_, .s name] (.o 0 (specResultIDs a_ name)) := by
 refine en Qc Tryz.func58 fun w0 F0 hG => ?_
 refine sn Qc [0, 1, 4] [] (p0) ?_
 refine Qg ?_
 refine tn Qc [0, 1, 4, 5] [] (p0) ?_
 refine mz [(4, .e 0), (5, .i 0)] [] [] [] ?_
 refine wT 0 0 .sh a_ (fun hw1 hl2 => ?_)
 refine blk (fun (k0 : Nat) (s0 : Unit) => [(5, .i ((k0 : Nat) : Int))]) [5] (fun k0 s0 => []) [] (fun (y0 : Unit) => []) [0, 1, 5] (fun y0 => []) [] (fun (k0 : Nat) (s0 : Unit) => (Xg (specResultIDs_f0 name) specResultIDs_e0 a_ 0 ()) = Xg (specResultIDs_f0 name) specResultIDs_e0 (List.drop k0 a_) k0 s0) (fun (y0 : Unit) => (Xg (specResultIDs_f0 name) specResultIDs_e0 a_ 0 ()) = .brk y0) a_.length () (Qf (by kernel_rfl)) rfl (fun k0 s0 hk0 hI0 => ?_) (fun k0 s0 hk0 hI0 => ?_) (fun y0 hD0 => ?_)
 ·
  obtain ⟨a0, hx0⟩ := Xq (l := a_) (i := k0) hk0
  refine Qg ?_
  refine sn Qc [0, 1, 4, 5, 9] [] (pl 2 a_ (pe 3 (Q0 (decide_eq_true (p := ((k0 : Nat) : Int) < (a_.length : Int)) (by omega))) p0)) ?_
  refine ckT ?_
  refine Qo ?_
  refine Qg ?_
  refine Q6 ?_
  refine tn Qc [0, 1, 4, 5, 18] [] (pn 2 hx0 p0) ?_
  refine ck (a0.1.toList == name.toList) (fun h3 => ?_) (fun h3 => ?_)
  ·
   have hl4 : List.length a0.2 ≤ 1073741824 := wide_len (wide_snd (wide_get hx0 (hw1)))
   refine tu Qc [(4, .o 1600 a0.2)] [4] [] [] (pn 3 hx0 (po 6 (.flat) (px (ob_len (n := (([] : List (List PV)).length + ((eL a0.2) : List (List PV)).length)) (len_of (rfl) (Zc a0.2) (by first | omega | (simp only [List.length_cons, List.length_nil]; omega) | (simp; omega) | simp))) (px (ob_flat (flat_eL a0.2)) p0)))) ?_
   refine Qp ?_
   have hr5 : (Xg (specResultIDs_f0 name) specResultIDs_e0 a_ 0 ()) = .ret a0.2 := Zw hx0 (Xm h3 (rfl)) hI0
   exact Ye [] (congrArg (fun z => (.o 0 z : AV)) (show specResultIDs a_ name = _ from on_r hr5).symm)
  ·
   refine Qo ?_
   refine qu Qc [(5, .i ((k0 + 1 : Nat) : Int))] [5] [] [] (pe 1 (av_i (Qy k0 (by omega))) p0) ?_
   exact Exists.intro _ (And.intro (Qf (by kernel_rfl)) (Q4 hx0 (Qz h3 (rfl)) hI0))
 ·
  refine Qg ?_
  refine sn Qc [0, 1, 4, 5, 9] [] (pl 2 a_ (pe 3 (Q0 (decide_eq_false (p := ((k0 : Nat) : Int) < (a_.length : Int)) (by omega))) p0)) ?_
  refine ckF ?_
  refine Xc ?_
  exact Exists.intro _ (And.intro (Qf (by kernel_rfl)) (Xr hk0 (rfl) hI0))
 ·
  refine sn Qc [4] [] (p0) ?_
  refine Qp ?_
  exact Ye [] (congrArg (fun z => (.o 0 z : AV)) (show specResultIDs a_ name = _ from on_b hD0 (rfl)).symm)
def specContainsID_f0 (id : Int) (_ : Nat) (a0 : Int) (_ : Unit) : Rd (Bool) (Unit) (Unit) := (bif (a0 == id) then (.ret true) else (.next ()))
def specContainsID_e0 (_ : Nat) (_ : Unit) : Unit := ()
def specContainsID (ids : (List Int)) (id : Int) : Bool := (Out.on (Xg (specContainsID_f0 id) specContainsID_e0 ids 0 ()) (fun _ => false))
theorem specContainsID_a (ids : (List Int)) (id : Int) : ACalls Tryz.prog 64 [.h ids, .i id] (.b (specContainsID ids id)) := by
 refine en Qc Tryz.func64 fun w0 F0 hG => ?_
 refine sn Qc [0, 1, 4] [] (p0) ?_
 refine Qg ?_
 refine tn Qc [0, 1, 4, 5] [] (p0) ?_
 refine mz [(4, .b false), (5, .i 0)] [] [] [] ?_
 refine wT 0 0 .sh ids (fun hw1 hl2 => ?_)
 refine blk (fun (k0 : Nat) (s0 : Unit) => [(5, .i ((k0 : Nat) : Int))]) [5] (fun k0 s0 => []) [] (fun (y0 : Unit) => []) [0, 1, 5] (fun y0 => []) [] (fun (k0 : Nat) (s0 : Unit) => (Xg (specContainsID_f0 id) specContainsID_e0 ids 0 ()) = Xg (specContainsID_f0 id) specContainsID_e0 (List.drop k0 ids) k0 s0) (fun (y0 : Unit) => (Xg (specContainsID_f0 id) specContainsID_e0 ids 0 ()) = .brk y0) ids.length () (Qf (by kernel_rfl)) rfl (fun k0 s0 hk0 hI0 => ?_) (fun k0 s0 hk0 hI0 => ?_) (fun y0 hD0 => ?_)
 ·
  obtain ⟨a0, hx0⟩ := Xq (l := ids) (i := k0) hk0
  refine Qg ?_
  refine sn Qc [0, 1, 4, 5, 9] [] (pl 2 ids (pe 3 (Q0 (decide_eq_true (p := ((k0 : Nat) : Int) < (ids.length : Int)) (by omega))) p0)) ?_
  refine ckT ?_
  refine Qo ?_
  refine Qg ?_
  refine Q6 ?_
  refine tn Qc [0, 1, 4, 5, 17] [] (pn 2 hx0 p0) ?_
  refine ck (a0 == id) (fun h3 => ?_) (fun h3 => ?_)
  ·
   refine tu Qc [(4, .b true)] [4] [] [] (p0) ?_
   refine Qp ?_
   have hr4 : (Xg (specContainsID_f0 id) specContainsID_e0 ids 0 ()) = .ret true := Zw hx0 (Xm h3 (rfl)) hI0
   exact Ye [] (congrArg (fun z => (.b z : AV)) (show specContainsID ids id = _ from on_r hr4).symm)
  ·
   have h3d := Zd h3
   refine Qo ?_
   refine qu Qc [(5, .i ((k0 + 1 : Nat) : Int))] [5] [] [] (pe 1 (av_i (Qy k0 (by omega))) p0) ?_
   exact Exists.intro _ (And.intro (Qf (by kernel_rfl)) (Q4 hx0 (Qz h3 (rfl)) hI0))
 ·
  refine Qg ?_
  refine sn Qc [0, 1, 4, 5, 9] [] (pl 2 ids (pe 3 (Q0 (decide_eq_false (p := ((k0 : Nat) : Int) < (ids.length : Int)) (by omega))) p0)) ?_
  refine ckF ?_
  refine Xc ?_
  exact Exists.intro _ (And.intro (Qf (by kernel_rfl)) (Xr hk0 (rfl) hI0))
 ·
  refine sn Qc [4] [] (p0) ?_
  refine Qp ?_
  exact Ye [] (congrArg (fun z => (.b z : AV)) (show specContainsID ids id = _ from on_b hD0 (rfl)).symm)
def Zm (n_ : Nat) (q : (List Xa)) (at_ : Int) (f : Xt) (a_ : (List Qs)) : Bool := match n_ with
 | 0 => default
 | n_ + 1 => (bif ((nth q (Int.toNat at_)).1 == (1 : Int)) then true else (bif ((nth q (Int.toNat at_)).1 == (2 : Int)) then ((Y5 f ((nth q (Int.toNat at_)).2.2.2.1)).1 != (0 : Int)) else (bif ((nth q (Int.toNat at_)).1 == (3 : Int)) then (((Y5 f ((nth q (Int.toNat at_)).2.2.2.1)).1 == (nth q (Int.toNat at_)).2.2.2.2.1) && (((Y5 f ((nth q (Int.toNat at_)).2.2.2.1)).2.1 == (nth q (Int.toNat at_)).2.2.2.2.2.1) && ((((Y5 f ((nth q (Int.toNat at_)).2.2.2.1)).2.2).toList == ((nth q (Int.toNat at_)).2.2.2.2.2.2).toList) && true))) else (bif ((nth q (Int.toNat at_)).1 == (4 : Int)) then (((Y5 f ((nth q (Int.toNat at_)).2.2.2.1)).1 == (1 : Int)) && decide ((Y5 f ((nth q (Int.toNat at_)).2.2.2.1)).2.1 < (nth q (Int.toNat at_)).2.2.2.2.2.1)) else (bif ((nth q (Int.toNat at_)).1 == (5 : Int)) then (!(Zm n_ q ((nth q (Int.toNat at_)).2.1) f a_)) else (bif ((nth q (Int.toNat at_)).1 == (6 : Int)) then ((Zm n_ q ((nth q (Int.toNat at_)).2.1) f a_) && (Zm n_ q ((nth q (Int.toNat at_)).2.2.1) f a_)) else (bif ((nth q (Int.toNat at_)).1 == (7 : Int)) then ((Zm n_ q ((nth q (Int.toNat at_)).2.1) f a_) || (Zm n_ q ((nth q (Int.toNat at_)).2.2.1) f a_)) else (bif ((nth q (Int.toNat at_)).1 == (8 : Int)) then (specContainsID (specResultIDs a_ ((nth q (Int.toNat at_)).2.2.2.1)) f.1) else ((f.2.2.2.1 != (0 : Int)) && (specContainsID (specResultIDs a_ ((nth q (Int.toNat at_)).2.2.2.1)) f.2.2.2.1))))))))))
theorem specl14Node_a : ∀ (n_ : Nat) (q : (List Xa)) (at_ : Int) (f : Xt) (a_ : (List Qs)) (hv : Qx q = true) (ha : 0 ≤ at_) (hb : at_ < (q.length : Int)) (hn : at_ < ((n_ : Nat) : Int)), ACalls Tryz.prog 236 [.h q, .i at_, .a [.i f.1, .i f.2.1, .b f.2.2.1, .i f.2.2.2.1, .h f.2.2.2.2], .h a_] (.b (Zm n_ q at_ f a_)) := by
 intro n_
 induction n_ with
 | zero => intro q at_ f a_ hv ha hb hn; exact (by omega : False).elim
 | succ n_ ih =>
  intro q at_ f a_ hv ha hb hn
  refine en Qc Tryz.func236 fun w0 F0 hG => ?_
  refine sn Qc [0, 1, 3, 6, 8] [6] (p0) ?_
  refine wT 0 0 .sh q (fun hw2 hl3 => ?_)
  have hx1 : q[(Int.toNat at_)]? = some (nth q (Int.toNat at_)) := Xv (by omega)
  refine tn Qc [0, 3, 6, 8, 9] [6, 9] (pg 2 at_ hx1 p0) ?_
  refine tu Qc [(6, .p 6 0), (8, .b false), (9, .p 9 0), (10, .p 10 0)] [1, 2] [(6, [.i f.1, .i f.2.1, .b f.2.2.1, .i f.2.2.2.1, .h f.2.2.2.2]), (9, [.i ((nth q (Int.toNat at_)).1), .i ((nth q (Int.toNat at_)).2.1), .i ((nth q (Int.toNat at_)).2.2.1), .s ((nth q (Int.toNat at_)).2.2.2.1), .i ((nth q (Int.toNat at_)).2.2.2.2.1), .i ((nth q (Int.toNat at_)).2.2.2.2.2.1), .s ((nth q (Int.toNat at_)).2.2.2.2.2.2)]), (10, [.i ((Y5 f ((nth q (Int.toNat at_)).2.2.2.1)).1), .i ((Y5 f ((nth q (Int.toNat at_)).2.2.2.1)).2.1), .s ((Y5 f ((nth q (Int.toNat at_)).2.2.2.1)).2.2)])] [] (pc 3 (specGetAttr_a f ((nth q (Int.toNat at_)).2.2.2.1)) p0) ?_
  refine Qg ?_
  refine sn Qc [0, 3, 6, 8, 9, 10, 20] [6, 9, 10] (p0) ?_
  refine Q6 ?_
  refine tn Qc [0, 3, 6, 8, 9, 10, 20, 21] [6, 9, 10] (p0) ?_
  refine ck ((nth q (Int.toNat at_)).1 == (1 : Int)) (fun h4 => ?_) (fun h4 => ?_)
  ·
   refine tu Qc [(8, .b true)] [0, 8, 10] [] [10] (p0) ?_
   refine Qp ?_
   exact Ye [] (congrArg (fun z => (.b z : AV)) (show Zm (n_ + 1) q at_ f a_ = _ from Xm h4 (rfl)).symm)
  ·
   have h4d := Zd h4
   refine tu Qc [(20, .i ((nth q (Int.toNat at_)).1)), (23, .b ((nth q (Int.toNat at_)).1 == (2 : Int)))] [] [] [] (p0) ?_
   refine ck ((nth q (Int.toNat at_)).1 == (2 : Int)) (fun h5 => ?_) (fun h5 => ?_)
   ·
    refine sn Qc [3, 6, 8, 9] [6, 9] (p0) ?_
    refine Qp ?_
    exact Ye [] (congrArg (fun z => (.b z : AV)) (show Zm (n_ + 1) q at_ f a_ = _ from Qz h4 (Xm h5 (rfl))).symm)
   ·
    have h5d := Zd h5
    refine sn Qc [0, 3, 6, 8, 9, 10, 20, 28] [6, 9, 10] (p0) ?_
    refine ck ((nth q (Int.toNat at_)).1 == (3 : Int)) (fun h6 => ?_) (fun h6 => ?_)
    ·
     refine tn Qc [3, 6, 8, 9] [6, 9] (p0) ?_
     refine Qp ?_
     exact Ye [] (congrArg (fun z => (.b z : AV)) (show Zm (n_ + 1) q at_ f a_ = _ from Qz h4 (Qz h5 (Xm h6 (rfl)))).symm)
    ·
     have h6d := Zd h6
     refine tn Qc [0, 3, 6, 8, 9, 10, 20, 34] [6, 9, 10] (p0) ?_
     refine ck ((nth q (Int.toNat at_)).1 == (4 : Int)) (fun h7 => ?_) (fun h7 => ?_)
     ·
      refine Qg ?_
      refine mz [(34, .b ((nth q (Int.toNat at_)).1 == (4 : Int)))] [23] [] [] ?_
      refine jn [(8, .b (((Y5 f ((nth q (Int.toNat at_)).2.2.2.1)).1 == (1 : Int)) && decide ((Y5 f ((nth q (Int.toNat at_)).2.2.2.1)).2.1 < (nth q (Int.toNat at_)).2.2.2.2.2.1)))] [0, 8, 10, 20, 34] [] [10] ((Y5 f ((nth q (Int.toNat at_)).2.2.2.1)).1 == (1 : Int)) (fun h8 => ?_) (fun h8 => ?_) ?_
      ·
       refine rn Qc [3, 6, 8, 9] [6, 9] (pt 2 h8 p0) ?_
       exact ⟨rfl, Qf (by rw [h8]; first | done | kernel_rfl)⟩
      ·
       refine rn Qc [3, 6, 8, 9] [6, 9] (pf 2 h8 p0) ?_
       exact ⟨rfl, Qf (by rw [h8]; first | done | kernel_rfl)⟩
      refine Qp ?_
      exact Ye [] (congrArg (fun z => (.b z : AV)) (show Zm (n_ + 1) q at_ f a_ = _ from Qz h4 (Qz h5 (Qz h6 (Xm h7 (rfl))))).symm)
     ·
      have h7d := Zd h7
      refine tu Qc [(47, .b ((nth q (Int.toNat at_)).1 == (5 : Int)))] [10, 23] [] [10] (p0) ?_
      refine ck ((nth q (Int.toNat at_)).1 == (5 : Int)) (fun h9 => ?_) (fun h9 => ?_)
      ·
       have h9d := eq_of_beq h9
       refine sn Qc [3, 6, 8, 9] [6, 9] (pc 5 (ih q ((nth q (Int.toNat at_)).2.1) f a_ hv (by have hz := ql_a hv ha hb h9; omega) (by have hz := ql_a hv ha hb h9; omega) (by have hz := ql_a hv ha hb h9; omega)) p0) ?_
       refine Qp ?_
       exact Ye [] (congrArg (fun z => (.b z : AV)) (show Zm (n_ + 1) q at_ f a_ = _ from Qz h4 (Qz h5 (Qz h6 (Qz h7 (Xm h9 (rfl)))))).symm)
      ·
       have h9d := Zd h9
       refine sn Qc [0, 3, 6, 8, 9, 20, 56] [6, 9] (p0) ?_
       refine ck ((nth q (Int.toNat at_)).1 == (6 : Int)) (fun h10 => ?_) (fun h10 => ?_)
       ·
        have h10d := eq_of_beq h10
        refine Qg ?_
        refine mz [(56, .b ((nth q (Int.toNat at_)).1 == (6 : Int)))] [47] [] [] ?_
        refine jn [(8, .b ((Zm n_ q ((nth q (Int.toNat at_)).2.1) f a_) && (Zm n_ q ((nth q (Int.toNat at_)).2.2.1) f a_)))] [0, 8, 20, 56] [] [] (Zm n_ q ((nth q (Int.toNat at_)).2.1) f a_) (fun h11 => ?_) (fun h11 => ?_) ?_
        ·
         refine rn Qc [3, 6, 8, 9] [6, 9] (pc 5 (cb h11 (ih q ((nth q (Int.toNat at_)).2.1) f a_ hv (by have hz := ql_b hv ha hb h10; omega) (by have hz := ql_b hv ha hb h10; omega) (by have hz := ql_b hv ha hb h10; omega))) (pc 12 (ih q ((nth q (Int.toNat at_)).2.2.1) f a_ hv (by have hz := qr_b hv ha hb h10; omega) (by have hz := qr_b hv ha hb h10; omega) (by have hz := qr_b hv ha hb h10; omega)) p0)) ?_
         exact ⟨rfl, Qf (by rw [h11]; first | done | kernel_rfl)⟩
        ·
         refine rn Qc [3, 6, 8, 9] [6, 9] (pc 5 (cb h11 (ih q ((nth q (Int.toNat at_)).2.1) f a_ hv (by have hz := ql_b hv ha hb h10; omega) (by have hz := ql_b hv ha hb h10; omega) (by have hz := ql_b hv ha hb h10; omega))) p0) ?_
         exact ⟨rfl, Qf (by rw [h11]; first | done | kernel_rfl)⟩
        refine Qp ?_
        exact Ye [] (congrArg (fun z => (.b z : AV)) (show Zm (n_ + 1) q at_ f a_ = _ from Qz h4 (Qz h5 (Qz h6 (Qz h7 (Qz h9 (Xm h10 (rfl))))))).symm)
       ·
        have h10d := Zd h10
        refine tn Qc [0, 3, 6, 8, 9, 20, 72] [6, 9] (p0) ?_
        refine ck ((nth q (Int.toNat at_)).1 == (7 : Int)) (fun h12 => ?_) (fun h12 => ?_)
        ·
         have h12d := eq_of_beq h12
         refine Qg ?_
         refine mz [(72, .b ((nth q (Int.toNat at_)).1 == (7 : Int)))] [47] [] [] ?_
         refine jn [(8, .b ((Zm n_ q ((nth q (Int.toNat at_)).2.1) f a_) || (Zm n_ q ((nth q (Int.toNat at_)).2.2.1) f a_)))] [0, 8, 20, 72] [] [] (Zm n_ q ((nth q (Int.toNat at_)).2.1) f a_) (fun h13 => ?_) (fun h13 => ?_) ?_
         ·
          refine rn Qc [3, 6, 8, 9] [6, 9] (pc 5 (cb h13 (ih q ((nth q (Int.toNat at_)).2.1) f a_ hv (by have hz := ql_c hv ha hb h12; omega) (by have hz := ql_c hv ha hb h12; omega) (by have hz := ql_c hv ha hb h12; omega))) p0) ?_
          exact ⟨rfl, Qf (by rw [h13]; first | done | kernel_rfl)⟩
         ·
          refine rn Qc [3, 6, 8, 9] [6, 9] (pc 5 (cb h13 (ih q ((nth q (Int.toNat at_)).2.1) f a_ hv (by have hz := ql_c hv ha hb h12; omega) (by have hz := ql_c hv ha hb h12; omega) (by have hz := ql_c hv ha hb h12; omega))) (pc 12 (ih q ((nth q (Int.toNat at_)).2.2.1) f a_ hv (by have hz := qr_c hv ha hb h12; omega) (by have hz := qr_c hv ha hb h12; omega) (by have hz := qr_c hv ha hb h12; omega)) p0)) ?_
          exact ⟨rfl, Qf (by rw [h13]; first | done | kernel_rfl)⟩
         refine Qp ?_
         exact Ye [] (congrArg (fun z => (.b z : AV)) (show Zm (n_ + 1) q at_ f a_ = _ from Qz h4 (Qz h5 (Qz h6 (Qz h7 (Qz h9 (Qz h10 (Xm h12 (rfl)))))))).symm)
        ·
         refine tu Qc [(88, .b ((nth q (Int.toNat at_)).1 == (8 : Int)))] [0, 20, 47] [] [] (p0) ?_
         refine ck ((nth q (Int.toNat at_)).1 == (8 : Int)) (fun h14 => ?_) (fun h14 => ?_)
         ·
          refine sN Qc Z4 [3, 6, 8, 9] [6, 9] (pc 3 (specResultIDs_a a_ ((nth q (Int.toNat at_)).2.2.2.1)) (pc 6 (specContainsID_a (specResultIDs a_ ((nth q (Int.toNat at_)).2.2.2.1)) f.1) p0)) ?_
          refine Qp ?_
          exact Ye [] (congrArg (fun z => (.b z : AV)) (show Zm (n_ + 1) q at_ f a_ = _ from Qz h4 (Qz h5 (Qz h6 (Qz h7 (Qz h9 (Qz h10 (Qz h12 (Xm h14 (rfl))))))))).symm)
         ·
          refine Qo ?_
          refine Qg ?_
          refine jn [(8, .b ((f.2.2.2.1 != (0 : Int)) && (specContainsID (specResultIDs a_ ((nth q (Int.toNat at_)).2.2.2.1)) f.2.2.2.1)))] [3, 6, 8, 9, 88] [] [6, 9] (f.2.2.2.1 != (0 : Int)) (fun h15 => ?_) (fun h15 => ?_) ?_
          ·
           refine rN Qc Z4 [8] [] (pt 2 h15 (pc 7 (specResultIDs_a a_ ((nth q (Int.toNat at_)).2.2.2.1)) (pc 10 (specContainsID_a (specResultIDs a_ ((nth q (Int.toNat at_)).2.2.2.1)) f.2.2.2.1) p0))) ?_
           exact ⟨rfl, Qf (by rw [h15]; first | done | kernel_rfl)⟩
          ·
           refine rN Qc Z4 [8] [] (pf 2 h15 p0) ?_
           exact ⟨rfl, Qf (by rw [h15]; first | done | kernel_rfl)⟩
          refine Qp ?_
          exact Ye [] (congrArg (fun z => (.b z : AV)) (show Zm (n_ + 1) q at_ f a_ = _ from Qz h4 (Qz h5 (Qz h6 (Qz h7 (Qz h9 (Qz h10 (Qz h12 (Qz h14 (rfl))))))))).symm)
def specMatches (q : (List Xa)) (f : Xt) (a_ : (List Qs)) : Bool := ((Yf q) && (Zm (List.length q) q ((q.length : Int) - 1) f a_))
theorem specMatches_a (q : (List Xa)) (f : Xt) (a_ : (List Qs)) : ACalls Tryz.prog 180 [.h q, .a [.i f.1, .i f.2.1, .b f.2.2.1, .i f.2.2.2.1, .h f.2.2.2.2], .h a_] (.b (specMatches q f a_)) := by
 refine en Qc Tryz.func180 fun w0 F0 hG => ?_
 refine sn Qc [0, 2, 4, 6] [4] (p0) ?_
 refine Qg ?_
 refine mz [(4, .p 4 0), (6, .b false)] [1] [(4, [.i f.1, .i f.2.1, .b f.2.2.1, .i f.2.2.2.1, .h f.2.2.2.2])] [] ?_
 refine jn [(6, .b ((Yf q) && (Zm (List.length q) q ((q.length : Int) - 1) f a_)))] [0, 2, 4, 6] [] [4] (Yf q) (fun h1 => ?_) (fun h1 => ?_) ?_
 ·
  refine wT 0 0 .sh q (fun hw2 hl3 => ?_)
  refine rn Qc [6] [] (pc 1 (cb h1 (specIsValidQuery_a q)) (pl 5 q (pe 6 (av_i (IntWalk.i64_in ((q.length : Int) - 1) (by omega))) (pc 9 (specl14Node_a (List.length q) q ((q.length : Int) - 1) f a_ (vq_spec h1) (by have := vq_len (vq_spec h1); omega) (by omega) (by omega)) p0)))) ?_
  exact ⟨rfl, Qf (by rw [h1]; first | done | kernel_rfl)⟩
 ·
  refine rn Qc [6] [] (pc 1 (cb h1 (specIsValidQuery_a q)) p0) ?_
  exact ⟨rfl, Qf (by rw [h1]; first | done | kernel_rfl)⟩
 refine Qp ?_
 exact Ye [] (congrArg (fun z => (.b z : AV)) (show specMatches q f a_ = ((Yf q) && (Zm (List.length q) q ((q.length : Int) - 1) f a_)) from rfl).symm)
def specSelectFiles_f0 (q : (List Xa)) (a_ : (List Qs)) (_ : Nat) (a0 : Xt) (s0 : (List Int)) : Rd ((List Int)) ((List Int)) ((List Int)) := (bif (specMatches q a0 a_) then (.next (s0 ++ [a0.1])) else (.next s0))
def specSelectFiles_e0 (_ : Nat) (s0 : (List Int)) : (List Int) := s0
def Zp (s_ : Yl) (q : (List Xa)) (a_ : (List Qs)) : (List Int) := (Out.on (Xg (specSelectFiles_f0 q a_) specSelectFiles_e0 s_.2.1 0 []) (fun y0 => y0))
theorem specSelectFiles_a (s_ : Yl) (q : (List Xa)) (a_ : (List Qs)) : ACalls Tryz.prog 135 [.a [.h s_.1, .h s_.2.1, .i s_.2.2], .h q, .h a_] (.o 0 (Zp s_ q a_)) := by
 refine en Qc Tryz.func135 fun w0 F0 hG => ?_
 refine sn Qc [1, 2, 3, 6] [3] (p0) ?_
 refine tn Qc [1, 2, 3, 6, 7] [3] (p0) ?_
 refine Qg ?_
 refine tu Qc [(3, .p 3 0), (6, .e 0), (7, .one (.slc (.own true 576) 1 [])), (8, .i 0)] [0] [(3, [.h s_.1, .h s_.2.1, .i s_.2.2])] [] (p0) ?_
 refine wB 3 1 .sh s_.2.1 (fun hw1 hl2 => ?_)
 refine blk (fun (k0 : Nat) (s0 : (List Int)) => [(7, .o 147204 s0), (8, .i ((k0 : Nat) : Int))]) [7, 8] (fun k0 s0 => []) [] (fun (y0 : (List Int)) => [(7, .o 147354 y0)]) [1, 2, 3, 7, 8] (fun y0 => []) [3] (fun (k0 : Nat) (s0 : (List Int)) => (Xg (specSelectFiles_f0 q a_) specSelectFiles_e0 s_.2.1 0 []) = Xg (specSelectFiles_f0 q a_) specSelectFiles_e0 (List.drop k0 s_.2.1) k0 s0 ∧ List.length s0 ≤ k0) (fun (y0 : (List Int)) => (Xg (specSelectFiles_f0 q a_) specSelectFiles_e0 s_.2.1 0 []) = .brk y0) s_.2.1.length [] (X2 [(576, 147204)] (by kernel_rfl)) ⟨rfl, (by simp)⟩ (fun k0 s0 hk0 hI0 => ?_) (fun k0 s0 hk0 hI0 => ?_) (fun y0 hD0 => ?_)
 ·
  have hA0_0 := hI0.2
  obtain ⟨a0, hx0⟩ := Xq (l := s_.2.1) (i := k0) hk0
  refine Qg ?_
  refine su Qc [(14, .b true)] [] [] [] (pl 3 s_.2.1 (pe 4 (Q0 (decide_eq_true (p := ((k0 : Nat) : Int) < (s_.2.1.length : Int)) (by omega))) p0)) ?_
  refine ckT ?_
  refine Qo ?_
  refine Qg ?_
  refine Q6 ?_
  refine sn Qc [1, 2, 3, 6, 7, 8, 24] [3] (pn 4 hx0 (pc 7 (specMatches_a q a0 a_) p0)) ?_
  refine ck (specMatches q a0 a_) (fun h3 => ?_) (fun h3 => ?_)
  ·
   refine wT 7 0 (.own true 147204) s0 (fun hw4 hl5 => ?_)
   refine qu Qc [(7, .one (.slc (.own true 2112) 1 ((eL s0) ++ [[.i a0.1]])))] [7, 14] [] [] (pn 4 hx0 (pa s0 [a0.1] p0)) ?_
   refine eqn [(7, .o 2112 (s0 ++ [a0.1]))] [7] [] [] (by rw [show ((eL s0) ++ [[.i a0.1]]) = (eL (s0 ++ [a0.1])) from app_eL (rfl) (rfl)]; first | done | kernel_rfl) ?_
   refine rn Qc [1, 2, 3, 6, 7, 8] [3] (pe 1 (av_i (Qy k0 (by omega))) p0) ?_
   exact Exists.intro (s0 ++ [a0.1]) (And.intro (X2 [(2112, 147204)] (by kernel_rfl)) ⟨Q4 hx0 (Xm h3 (rfl)) hI0.1, by first | omega | (simp; omega) | simp⟩)
  ·
   refine Qo ?_
   refine qn Qc [1, 2, 3, 6, 7, 8] [3] (pe 1 (av_i (Qy k0 (by omega))) p0) ?_
   exact Exists.intro s0 (And.intro (Qf (by kernel_rfl)) ⟨Q4 hx0 (Qz h3 (rfl)) hI0.1, by first | omega | (simp; omega) | simp⟩)
 ·
  have hA0_0 := hI0.2
  refine Qg ?_
  refine su Qc [(14, .b false)] [] [] [] (pl 3 s_.2.1 (pe 4 (Q0 (decide_eq_false (p := ((k0 : Nat) : Int) < (s_.2.1.length : Int)) (by omega))) p0)) ?_
  refine ckF ?_
  refine Xc ?_
  exact Exists.intro _ (And.intro (X2 [(147204, 147354)] (by kernel_rfl)) (Xr hk0 (rfl) hI0.1))
 ·
  refine sn Qc [6] [] (p0) ?_
  refine Qp ?_
  exact Ye [] (congrArg (fun z => (.o 0 z : AV)) (show Zp s_ q a_ = _ from on_b hD0 (rfl)).symm)
end Go.Proofs.YtcnkkobgogmakaaGreat
namespace Go.Proofs.YtcnkkobgogmakaaGreat
open Go.RowKit
theorem cid_eq (l : List Int) (x : Int) : implContainsID l x = specContainsID l x := by
  unfold implContainsID slicesContains_int slicesIndex_int specContainsID
  have key : ∀ (l : List Int) (k : Nat), decide (((Xg (Z9 x) slicesIndex_int_e0 l k ()).on fun _ => -1) ≥ 0) = ((Xg (specContainsID_f0 x) specContainsID_e0 l k ()).on fun _ => false) := by
    intro l
    induction l with
    | nil => intro k; rfl
    | cons a l ih =>
      intro k
      by_cases h : x = a
      · subst h; simp [Xg, Z9, specContainsID_f0, Out.on]
      · have e1 : (x == a) = false := beq_eq_false_iff_ne.2 h
        have e2 : (a == x) = false := beq_eq_false_iff_ne.2 (Ne.symm h)
        simp only [Xg, Z9, specContainsID_f0, e1, e2, cond_false]
        exact ih (k + 1)
  exact key l 0
theorem rids_eq (r : List Qs) (s : ByteArray) : Q9 r s = specResultIDs r s := rfl
theorem attr_eq (f : Xt) (s : ByteArray) : Xn f s = Y5 f s := rfl
theorem vn_op {n : Xa} {k : Int} (h : Ya n k = true) : n.1 = 1 ∨ n.1 = 2 ∨ n.1 = 3 ∨ n.1 = 4 ∨ n.1 = 5 ∨ n.1 = 6 ∨ n.1 = 7 ∨ n.1 = 8 ∨ n.1 = 9 := by
  refine Classical.byContradiction fun hn => ?_
  simp only [not_or] at hn
  obtain ⟨h1, h2, h3, h4, h5, h6, h7, h8, h9⟩ := hn
  unfold Ya at h
  simp only [beq_eq_false_iff_ne.2 h1, beq_eq_false_iff_ne.2 h2, beq_eq_false_iff_ne.2 h3, beq_eq_false_iff_ne.2 h4, beq_eq_false_iff_ne.2 h5, beq_eq_false_iff_ne.2 h6, beq_eq_false_iff_ne.2 h7, beq_eq_false_iff_ne.2 h8, beq_eq_false_iff_ne.2 h9, cond_false] at h
  cases h
theorem match_eq {q : List Xa} (hv : Qx q = true) (f : Xt) (r : List Qs) : ∀ (n : Nat) (k : Int), 0 ≤ k → k < (q.length : Int) → Xl n q k f r = Zm n q k f r
  | 0, _, _, _ => rfl
  | n + 1, k, h0, h1 => by
    have hn := vq_node hv (Xv (l := q) (i := Int.toNat k) (by omega))
    rw [Int.toNat_of_nonneg h0] at hn
    obtain ⟨hl, hr⟩ := vq_kids hv h0 h1
    unfold Xl Zm
    have ih := match_eq hv f r n
    unfold implIntAttr
    simp only [attr_eq, rids_eq, cid_eq]
    generalize nth q (Int.toNat k) = m at hn hl hr ⊢
    rcases vn_op hn with h | h | h | h | h | h | h | h | h
    · simp [h]
    · simp [h]
    · simp [h]
    · rw [h]
      cases hz : ((Y5 f m.2.2.2.1).1 == (1 : Int)) with
      | true => simp [bne, hz]
      | false => simp [bne, hz]
    · simp [h, ih _ (hl (by simp [h])).1 (by have := (hl (by simp [h])).2; omega)]
    · simp [h, ih _ (hl (by simp [h])).1 (by have := (hl (by simp [h])).2; omega), ih _ (hr (by simp [h])).1 (by have := (hr (by simp [h])).2; omega)]
    · simp [h, ih _ (hl (by simp [h])).1 (by have := (hl (by simp [h])).2; omega), ih _ (hr (by simp [h])).1 (by have := (hr (by simp [h])).2; omega)]
    · simp [h]
    · simp [h]
theorem matches_eq (q : List Xa) (f : Xt) (r : List Qs) : implMatches q f r = specMatches q f r := by
  unfold implMatches specMatches
  rw [← vq_eq]
  cases hv : Qx q with
  | false => rfl
  | true => rw [match_eq hv f r _ _ (by have := vq_len hv; omega) (by omega)]
theorem select_eq (s : Yl) (q : List Xa) (r : List Qs) : Ym s q r = Zp s q r := by
  unfold Ym Zp
  rw [forL_ext (f := implSelectFiles_f0 q r) (g := specSelectFiles_f0 q r) (e := implSelectFiles_e0) (e' := specSelectFiles_e0) (fun i a s => by
    unfold implSelectFiles_f0 specSelectFiles_f0
    rw [matches_eq]) (fun _ _ => rfl)]
end Go.Proofs.YtcnkkobgogmakaaGreat
namespace Go.Proofs.YtcnkkobgogmakaaGreat
section
variable {φ : Type} (fs : List φ) (idOf : φ → Int)
def sel (p : φ → Bool) : List Int := (fs.filter p).map idOf
theorem filter_grow {p q : φ → Bool} : ∀ (l : List φ), (∀ f, f ∈ l → p f = true → q f = true) → (l.filter p).length ≤ (l.filter q).length ∧ ((l.filter q).length ≤ (l.filter p).length → l.filter p = l.filter q)
  | [], _ => ⟨Nat.le_refl _, fun _ => rfl⟩
  | f :: l, h => by
    obtain ⟨h1, h2⟩ := filter_grow l fun g hg => h g (List.mem_cons_of_mem _ hg)
    have h0 := h f (List.mem_cons_self ..)
    cases hp : p f with
    | true =>
      have hq := h0 hp
      simp only [List.filter_cons, hp, hq, if_true, List.length_cons]
      exact ⟨by omega, fun hl => by rw [h2 (by omega)]⟩
    | false =>
      cases hq : q f with
      | true =>
        simp only [List.filter_cons, hp, hq, if_true, List.length_cons, Bool.false_eq_true, if_false]
        exact ⟨by omega, fun hl => absurd hl (by omega)⟩
      | false =>
        simp only [List.filter_cons, hp, hq, Bool.false_eq_true, if_false]
        exact ⟨h1, h2⟩
theorem sel_len (p : φ → Bool) : (sel fs idOf p).length ≤ fs.length := by
  unfold sel; rw [List.length_map]; exact List.length_filter_le _ _
variable {fs idOf}
theorem sel_grow {p q : φ → Bool} (h : ∀ f, f ∈ fs → p f = true → q f = true) (hn : sel fs idOf p ≠ sel fs idOf q) : (sel fs idOf p).length + 1 ≤ (sel fs idOf q).length := by
  obtain ⟨h1, h2⟩ := filter_grow fs h
  unfold sel at hn ⊢
  rw [List.length_map, List.length_map]
  refine Nat.lt_of_le_of_ne h1 fun e => hn ?_
  rw [h2 (by omega)]
theorem sel_sub {p q : φ → Bool} (h : ∀ f, f ∈ fs → p f = true → q f = true) {x : Int} (hx : x ∈ sel fs idOf p) : x ∈ sel fs idOf q := by
  unfold sel at hx ⊢
  obtain ⟨f, hf, rfl⟩ := List.mem_map.1 hx
  obtain ⟨h1, h2⟩ := List.mem_filter.1 hf
  exact List.mem_map.2 ⟨f, List.mem_filter.2 ⟨h1, h f h1 h2⟩, rfl⟩
end
abbrev CD := ByteArray × List Int
def putC (out : List CD) (k : Nat) (ids : List Int) : List CD := out.set k ((nth out k).1, ids)
theorem nth_setC {out : List CD} {k : Nat} (x : CD) (hk : k < out.length) (j : Nat) : nth (out.set k x) j = if j = k then x else nth out j := by
  unfold nth
  simp only [List.getD_eq_getElem?_getD, List.getElem?_set]
  by_cases h : k = j
  · subst h; simp [hk]
  · simp [h, Ne.symm h]
theorem putC_names {out : List CD} {k : Nat} (ids : List Int) (hk : k < out.length) : (putC out k ids).map (·.1) = out.map (·.1) := by
  unfold putC
  rw [List.map_set]
  refine List.ext_getElem (by simp) fun i h1 h2 => ?_
  rw [List.getElem_set]
  split
  · rename_i h; subst h; simp [nth, List.getD, hk]
  · rfl
def room (B : Nat) (act : Nat → Bool) : Nat → List CD → Nat
  | _, [] => 0
  | k, r :: l => (bif act k then B - r.2.length else 0) + room B act (k + 1) l
theorem room_le (B : Nat) (act : Nat → Bool) : ∀ (l : List CD) (k : Nat), room B act k l ≤ l.length * B
  | [], k => by simp [room]
  | r :: l, k => by
    have := room_le B act l (k + 1)
    simp only [room, List.length_cons, Nat.add_mul, Nat.one_mul]
    cases act k with
    | true => simp only [cond_true]; omega
    | false => simp only [cond_false]; omega
theorem room_set (B : Nat) (act : Nat → Bool) (x : CD) : ∀ (l : List CD) (k i : Nat), i < l.length → act (k + i) = true → (nth l i).2.length + 1 ≤ x.2.length → x.2.length ≤ B → room B act k (l.set i x) + 1 ≤ room B act k l
  | [], k, i, hi, _, _, _ => by simp at hi
  | r :: l, k, 0, _, ha, h1, h2 => by
    have e : nth (r :: l) 0 = r := rfl
    rw [e] at h1
    rw [Nat.add_zero] at ha
    simp only [List.set, room, ha, cond_true]
    omega
  | r :: l, k, i + 1, hi, ha, h1, h2 => by
    have := room_set B act x l (k + 1) i (by simpa using hi) (by rwa [show k + 1 + i = k + (i + 1) by omega]) h1 h2
    simp only [List.set, room]
    omega
section
variable {φ : Type} {fs : List φ} {idOf : φ → Int} (m : Nat → List CD → φ → Bool) (act : Nat → Bool)
def LeC (a b : List CD) : Prop := ∀ j, (∀ x, x ∈ (nth a j).2 → x ∈ (nth b j).2) ∧ (act j = false → (nth a j).2 = (nth b j).2)
variable (fs idOf)
def GoodC (out : List CD) : Prop := ∀ k, k < out.length → act k = true → ∃ p : φ → Bool, (nth out k).2 = sel fs idOf p ∧ ∀ f, f ∈ fs → p f = true → m k out f = true
def MonoC (nm : List ByteArray) : Prop := ∀ a b : List CD, a.map (·.1) = nm → b.map (·.1) = nm → LeC act a b → ∀ k, k < nm.length → act k = true → ∀ f, f ∈ fs → m k a f = true → m k b f = true
def stepC (s : List CD × Bool) (k : Nat) : List CD × Bool := bif act k then (if sel fs idOf (m k s.1) = (nth s.1 k).2 then s else (putC s.1 k (sel fs idOf (m k s.1)), true)) else s
def passC (ks : List Nat) (s : List CD × Bool) : List CD × Bool := ks.foldl (stepC fs idOf m act) s
variable {fs idOf m act} {nm : List ByteArray}
structure StateC (fs : List φ) (idOf : φ → Int) (m : Nat → List CD → φ → Bool) (act : Nat → Bool) (nm : List ByteArray) (o out : List CD) : Prop where
  names : out.map (·.1) = nm
  good : GoodC fs idOf m act out
  rest : ∀ j, act j = false → nth out j = nth o j
theorem stepC_ok (hm : MonoC fs m act nm) {o : List CD} {s : List CD × Bool} (h : StateC fs idOf m act nm o s.1) {k : Nat} (hk : k < nm.length) :
    StateC fs idOf m act nm o (stepC fs idOf m act s k).1 ∧ room fs.length act 0 (stepC fs idOf m act s k).1 ≤ room fs.length act 0 s.1 ∧ ((stepC fs idOf m act s k).2 = true → s.2 = true ∨ room fs.length act 0 (stepC fs idOf m act s k).1 + 1 ≤ room fs.length act 0 s.1) := by
  unfold stepC
  cases ha : act k with
  | false => exact ⟨h, Nat.le_refl _, .inl⟩
  | true =>
    simp only [cond_true]
    split
    · exact ⟨h, Nat.le_refl _, .inl⟩
    · rename_i hne
      have hlen : nm.length = s.1.length := by rw [← h.names, List.length_map]
      have hk' : k < s.1.length := by omega
      obtain ⟨p, hp1, hp2⟩ := h.good k hk' ha
      rw [hp1] at hne
      have hgrow := sel_grow (idOf := idOf) hp2 (Ne.symm hne)
      have hnames : (putC s.1 k (sel fs idOf (m k s.1))).map (·.1) = nm := by rw [putC_names _ hk', h.names]
      have hle : LeC act s.1 (putC s.1 k (sel fs idOf (m k s.1))) := fun j => by
        unfold putC
        rw [nth_setC _ hk']
        by_cases hj : j = k
        · subst hj
          rw [if_pos rfl]
          exact ⟨fun x hx => sel_sub hp2 (hp1 ▸ hx), fun hf => absurd ha (by simp [hf])⟩
        · rw [if_neg hj]
          exact ⟨fun _ hx => hx, fun _ => rfl⟩
      have hmono := hm _ _ h.names hnames hle
      have hr : room fs.length act 0 (putC s.1 k (sel fs idOf (m k s.1))) + 1 ≤ room fs.length act 0 s.1 :=
        room_set _ _ _ _ 0 k hk' (by rw [Nat.zero_add]; exact ha) (by rw [hp1]; exact hgrow) (sel_len _ _ _)
      refine ⟨⟨hnames, fun j hj hja => ?_, fun j hj => ?_⟩, Nat.le_of_succ_le hr, fun _ => .inr hr⟩
      · have hj' : j < s.1.length := by unfold putC at hj; rwa [List.length_set] at hj
        by_cases e : j = k
        · subst e
          refine ⟨m j s.1, ?_, fun f hf hmf => hmono j (by omega) hja f hf hmf⟩
          unfold putC; rw [nth_setC _ hk', if_pos rfl]
        · obtain ⟨p', h1, h2⟩ := h.good j hj' hja
          refine ⟨p', ?_, fun f hf hpf => hmono j (by omega) hja f hf (h2 f hf hpf)⟩
          unfold putC; rw [nth_setC _ hk', if_neg e]; exact h1
      · have e : j ≠ k := fun e => absurd ha (by simp [← e, hj])
        unfold putC; rw [nth_setC _ hk', if_neg e]; exact h.rest j hj
theorem passC_ok (hm : MonoC fs m act nm) {o : List CD} : ∀ (ks : List Nat) (s : List CD × Bool), (∀ k, k ∈ ks → k < nm.length) → StateC fs idOf m act nm o s.1 →
    StateC fs idOf m act nm o (passC fs idOf m act ks s).1 ∧ room fs.length act 0 (passC fs idOf m act ks s).1 ≤ room fs.length act 0 s.1 ∧ ((passC fs idOf m act ks s).2 = true → s.2 = true ∨ room fs.length act 0 (passC fs idOf m act ks s).1 + 1 ≤ room fs.length act 0 s.1)
  | [], s, _, h => ⟨h, Nat.le_refl _, .inl⟩
  | k :: ks, s, hks, h => by
    obtain ⟨h1, h2, h3⟩ := stepC_ok hm h (hks k (List.mem_cons_self ..))
    obtain ⟨g1, g2, g3⟩ := passC_ok hm ks _ (fun j hj => hks j (List.mem_cons_of_mem _ hj)) h1
    refine ⟨g1, Nat.le_trans g2 h2, fun hc => ?_⟩
    rcases g3 hc with hc | hc
    · rcases h3 hc with hc | hc
      · exact .inl hc
      · exact .inr (Nat.le_trans (Nat.add_le_add_right g2 1) hc)
    · exact .inr (Nat.le_trans hc h2)
theorem whlC {R S T : Type} {F : S → Rd R S T} {out : S → List CD} {ch : S → Bool} {n : Nat} (hn : n = nm.length)
    (hF : ∀ s, ch s = true → ∃ s', F s = .next s' ∧ (out s', ch s') = passC fs idOf m act (List.range n) (out s, false))
    (hE : ∀ s, ch s = false → ∃ t, F s = .brk t)
    (hm : MonoC fs m act nm) {o : List CD} : ∀ (k : Nat) (s : S), StateC fs idOf m act nm o (out s) → room fs.length act 0 (out s) + (bif ch s then 2 else 1) ≤ k →
    ∃ s', StateC fs idOf m act nm o (out s') ∧ ch s' = false ∧ ∃ t, F s' = .brk t ∧ whl F k s = some (.brk t)
  | 0, s, _, hk => by cases hc : ch s <;> simp [hc] at hk
  | k + 1, s, h, hk => by
    cases hc : ch s with
    | false =>
      obtain ⟨t, ht⟩ := hE s hc
      exact ⟨s, h, hc, t, ht, by simp only [whl, ht]⟩
    | true =>
      rw [hc] at hk
      simp only [cond_true] at hk
      obtain ⟨s', h1, h2⟩ := hF s hc
      obtain ⟨g1, g2, g3⟩ := passC_ok hm (o := o) (List.range n) (out s, false) (fun j hj => by rw [← hn]; exact List.mem_range.1 hj) h
      rw [← h2] at g1 g2 g3
      simp only [whl, h1]
      refine whlC hn hF hE hm k s' g1 ?_
      simp only [Bool.false_eq_true, false_or] at g3
      cases hc' : ch s' with
      | false => simp only [cond_false]; have : room fs.length act 0 (out s') ≤ room fs.length act 0 (out s) := g2; omega
      | true => simp only [cond_true]; have : room fs.length act 0 (out s') + 1 ≤ room fs.length act 0 (out s) := g3 hc'; omega
end
/-! ### a slice that is nil, handed on -/
open Go.RowKit in
def ArgLe (a b : AV) : Prop := ∀ (J : Inj) (w : World) (v : Value), AR J w v a → AR J w v b
theorem ArgLe.rfl (a : AV) : ArgLe a a := fun _ _ _ h => h
theorem ArgLe.nil (n : Nat) : ArgLe (.one (.slc .sh 0 [])) (.one (.slc .sh n [])) := fun J w v h => by
  have h' : VV J.F w v (.slc 0 []) := h
  show VV J.F w v (.slc n [])
  generalize hp : PV.slc 0 ([] : List (List PV)) = p at h'
  cases h' with
  | int | bool | str => cases hp
  | emp oa m hc => exact .emp oa n hc
  | @slc b off cap m cs l hx hcells hr hle hcap =>
    cases hp
    exact .emp _ n hcap.1
theorem acalls_args {P : Program} {f : Nat} {r : AV} {args args' : List AV} (h : All2 ArgLe args args') (c : ACalls P f args' r) : ACalls P f args r := ⟨c.1, fun w hg F vals hF hall => c.2 w hg F vals hF (by
  clear c
  induction h generalizing vals with
  | nil => exact hall
  | cons h1 h2 ih =>
    cases hall with
    | cons g1 g2 => exact .cons (h1 _ _ _ g1) (ih _ g2))⟩
/-! ### a flat row of ours, handed back -/
end Go.Proofs.YtcnkkobgogmakaaGreat
namespace Go.Proofs.YtcnkkobgogmakaaGreat
open Go.RowKit
/-! ### each node but the last is named once -/
def isRef (n : Xa) (c : Int) : Bool := ((n.2.1 == c) && (n.1 == 6 || n.1 == 7 || n.1 == 5)) || ((n.2.2.1 == c) && (n.1 == 6 || n.1 == 7))
theorem refs_step (c : Int) (k : Nat) (a : Xa) (s : Int) (h0 : 0 ≤ s) (h1 : s ≤ 1000) : ∃ s', Z2 c k a s = .next s' ∧ s + (bif isRef a c then 1 else 0) ≤ s' ∧ s' ≤ s + 2 := by
  have w1 : IntKind.i64.wrap (s + 1) = s + 1 := IntWalk.i64_in _ (by omega)
  have w2 : IntKind.i64.wrap (s + 1 + 1) = s + 1 + 1 := IntWalk.i64_in _ (by omega)
  unfold Z2 isRef
  rw [w1, w2]
  cases (a.2.1 == c) <;> cases (a.2.2.1 == c) <;> cases (a.1 == 6) <;> cases (a.1 == 7) <;> cases (a.1 == 5) <;> exact ⟨_, rfl, by first | (simp; done) | (simp; omega) | omega, by omega⟩
theorem refs_loop (c : Int) : ∀ (l : List Xa) (k : Nat) (s : Int), 0 ≤ s → s + 2 * l.length ≤ 1000 → ∃ s', Xg (Z2 c) implCountReferences_e0 l k s = .brk s' ∧ s + (l.filter fun n => isRef n c).length ≤ s'
  | [], k, s, _, _ => ⟨s, rfl, by simp⟩
  | a :: l, k, s, h0, h1 => by
    rw [List.length_cons] at h1
    obtain ⟨s1, e1, g1, g2⟩ := refs_step c k a s h0 (by omega)
    have hp : 0 ≤ s1 := by cases hb : isRef a c <;> (rw [hb] at g1; simp at g1; omega)
    obtain ⟨s2, e2, g3⟩ := refs_loop c l (k + 1) s1 hp (by omega)
    refine ⟨s2, by simp only [Xg, e1]; exact e2, ?_⟩
    rw [List.filter_cons]
    cases hb : isRef a c with
    | true => rw [hb] at g1; simp only [cond_true] at g1; simp only [if_true, List.length_cons]; omega
    | false => rw [hb] at g1; simp only [cond_false] at g1; simp only [Bool.false_eq_true, if_false]; omega
theorem two_of {α : Type} {p : α → Bool} {l : List α} {i j : Nat} {a b : α} (hij : i < j) (hi : l[i]? = some a) (hj : l[j]? = some b) (ha : p a = true) (hb : p b = true) : 2 ≤ (l.filter p).length := by
  have e : l = l.take j ++ l.drop j := (List.take_append_drop j l).symm
  rw [e, List.filter_append, List.length_append]
  have h1 : 1 ≤ ((l.take j).filter p).length := List.length_pos_of_mem (a := a) (List.mem_filter.2 ⟨List.mem_of_getElem? (i := i) (by rw [List.getElem?_take, if_pos hij]; exact hi), ha⟩)
  have h2 : 1 ≤ ((l.drop j).filter p).length := List.length_pos_of_mem (a := b) (List.mem_filter.2 ⟨List.mem_of_getElem? (i := 0) (by rw [List.getElem?_drop]; exact hj), hb⟩)
  omega
theorem vq_refs {q : List Xa} (h : Qx q = true) {i : Nat} (hi : i + 1 < q.length) : Jc q (i : Int) = 1 := by
  obtain ⟨⟨t, ht⟩, _⟩ := vq_run h
  have := forL_all (fun k a t => by unfold Ys; generalize (_ || _ : Bool) = c; cases c <;> simp) ht i (nth q i) (Xv (by omega))
  unfold Ys at this
  rw [Nat.zero_add] at this
  have hd : decide (((i : Nat) : Int) < ((q.length : Int) - 1)) = true := decide_eq_true (by omega)
  rw [hd, Bool.true_and] at this
  cases hn : (Jc q ((i : Nat) : Int) != (1 : Int)) with
  | false => exact eq_of_bne hn
  | true => rw [hn, Bool.or_true] at this; simp at this
theorem ref_once {q : List Xa} (h : Qx q = true) {c i j : Nat} (hc : c + 1 < q.length) (hij : i < j) (hj : j < q.length) (h1 : isRef (nth q i) (c : Int) = true) (h2 : isRef (nth q j) (c : Int) = true) : False := by
  have hr := vq_refs h hc
  have hl := (vq_len h).2
  obtain ⟨s, e, g⟩ := refs_loop (c : Int) q 0 0 (by omega) (by omega)
  unfold Jc at hr
  rw [e] at hr
  have := two_of (p := fun n => isRef n (c : Int)) hij (Xv (by omega)) (Xv hj) h1 h2
  simp only [Out.on] at hr
  omega
theorem ref_lt {q : List Xa} (h : Qx q = true) {c i : Nat} (hi : i < q.length) (hr : isRef (nth q i) (c : Int) = true) : c < i := by
  obtain ⟨h1, h2⟩ := vq_kids h (k := (i : Int)) (by omega) (by omega)
  rw [Int.toNat_natCast] at h1 h2
  unfold isRef at hr
  simp only [Bool.or_eq_true, Bool.and_eq_true, beq_iff_eq] at hr
  rcases hr with ⟨e, hop⟩ | ⟨e, hop⟩
  · have := h1 (by omega); omega
  · have := h2 (by omega); omega
/-! ### below a negation -/
theorem nth_setB {L : List Bool} {i : Nat} (x : Bool) (hi : i < L.length) (j : Nat) : nth (L.set i x) j = if j = i then x else nth L j := by
  unfold nth
  simp only [List.getD_eq_getElem?_getD, List.getElem?_set]
  by_cases h : i = j
  · subst h; simp [hi]
  · simp [h, Ne.symm h]
theorem neg_step {q : List Xa} (h : Qx q = true) {k : Nat} (hk : k < q.length) (s : List Bool) (hs : s.length = q.length) : ∃ s', Yz q k s = .next s' ∧ s'.length = q.length ∧
    (∀ j : Nat, isRef (nth q (q.length - 1 - k)) (j : Int) = false → nth s' j = nth s j) ∧
    (∀ j : Nat, isRef (nth q (q.length - 1 - k)) (j : Int) = true → nth s' j = (nth s (q.length - 1 - k) || ((nth q (q.length - 1 - k)).1 == 5))) := by
  have hdn : Int.toNat (dn ((q.length : Int) - 1) k) = q.length - 1 - k := by rw [dn_eq]; omega
  obtain ⟨hl, hr⟩ := vq_kids h (k := ((q.length - 1 - k : Nat) : Int)) (by omega) (by omega)
  rw [Int.toNat_natCast] at hl hr
  have hlt : q.length - 1 - k < s.length := by omega
  unfold Yz
  rw [hdn]
  generalize q.length - 1 - k = i at hl hr hlt ⊢
  generalize nth q i = n at hl hr ⊢
  generalize (nth s i || (n.1 == 5)) = b
  have both : ∀ (e5 : (n.1 == (5 : Int)) = false), (n.1 = 6 ∨ n.1 = 7) → (List.set (List.set s (Int.toNat n.2.1) b) (Int.toNat n.2.2.1) b).length = q.length ∧ (∀ j : Nat, isRef n (j : Int) = false → nth (List.set (List.set s (Int.toNat n.2.1) b) (Int.toNat n.2.2.1) b) j = nth s j) ∧ (∀ j : Nat, isRef n (j : Int) = true → nth (List.set (List.set s (Int.toNat n.2.1) b) (Int.toNat n.2.2.1) b) j = b) := fun e5 h67 => by
    obtain ⟨g1, g2⟩ := hl (.inr h67)
    obtain ⟨g3, g4⟩ := hr h67
    have hop : (n.1 == 6 || n.1 == 7) = true := by rcases h67 with e | e <;> simp [e]
    have hlen : (List.set s (Int.toNat n.2.1) b).length = s.length := List.length_set ..
    refine ⟨by rw [List.length_set, hlen, hs], fun j hj => ?_, fun j hj => ?_⟩
    · simp only [isRef, hop, Bool.true_or, Bool.and_true, Bool.or_eq_false_iff, beq_eq_false_iff_ne, ne_eq] at hj
      rw [nth_set_ne _ (by omega), nth_set_ne _ (by omega)]
    · simp only [isRef, hop, Bool.true_or, Bool.and_true, Bool.or_eq_true, beq_iff_eq] at hj
      rw [nth_setB _ (by omega), nth_setB _ (by omega)]
      split
      · rfl
      · rw [if_pos (by omega)]
  by_cases h5 : n.1 = 5
  · obtain ⟨g1, g2⟩ := hl (.inl h5)
    simp only [h5, beq_self_eq_true, cond_true]
    refine ⟨_, rfl, by rw [List.length_set, hs], fun j hj => ?_, fun j hj => ?_⟩
    · have : n.2.1 ≠ (j : Int) := by simpa [isRef, h5] using hj
      exact nth_set_ne _ (by omega)
    · have : n.2.1 = (j : Int) := by simpa [isRef, h5] using hj
      rw [nth_setB _ (by omega), if_pos (by omega)]
  · have e5 : (n.1 == (5 : Int)) = false := beq_eq_false_iff_ne.2 h5
    rw [e5, cond_false]
    by_cases h6 : n.1 = 6
    · simp only [h6, beq_self_eq_true, cond_true]
      exact ⟨_, rfl, both e5 (.inl h6)⟩
    · by_cases h7 : n.1 = 7
      · simp only [h7, beq_self_eq_true, cond_true]
        exact ⟨_, rfl, both e5 (.inr h7)⟩
      · have e6 : (n.1 == (6 : Int)) = false := beq_eq_false_iff_ne.2 h6
        have e7 : (n.1 == (7 : Int)) = false := beq_eq_false_iff_ne.2 h7
        rw [e6, e7, cond_false, cond_false]
        refine ⟨_, rfl, hs, fun _ _ => rfl, fun j hj => ?_⟩
        simp [isRef, e5, e6, e7] at hj
def NegOk (q : List Xa) (k : Nat) (s : List Bool) : Prop := s.length = q.length ∧ ∀ i, q.length ≤ i + k → i < q.length → ∀ c : Nat, isRef (nth q i) (c : Int) = true → nth s c = (nth s i || ((nth q i).1 == 5))
theorem neg_next {q : List Xa} (h : Qx q = true) {k : Nat} (hk : k < q.length) {s : List Bool} (hs : NegOk q k s) : ∃ s', Yz q k s = .next s' ∧ NegOk q (k + 1) s' := by
  obtain ⟨s', h1, h2, h3, h4⟩ := neg_step h hk s hs.1
  have hself : nth s' (q.length - 1 - k) = nth s (q.length - 1 - k) := h3 _ (by
    cases hr : isRef (nth q (q.length - 1 - k)) ((q.length - 1 - k : Nat) : Int) with
    | false => rfl
    | true => have := ref_lt h (by omega) hr; omega)
  refine ⟨s', h1, h2, fun i hi1 hi2 c hc => ?_⟩
  by_cases e : i = q.length - 1 - k
  · subst e
    rw [h4 c hc, hself]
  · have hci := ref_lt h hi2 hc
    have n1 : isRef (nth q (q.length - 1 - k)) (c : Int) = false := by
      cases hr : isRef (nth q (q.length - 1 - k)) (c : Int) with
      | false => rfl
      | true => exact (ref_once h (c := c) (i := q.length - 1 - k) (j := i) (by omega) (by omega) hi2 hr hc).elim
    have n2 : isRef (nth q (q.length - 1 - k)) (i : Int) = false := by
      cases hr : isRef (nth q (q.length - 1 - k)) (i : Int) with
      | false => rfl
      | true => have := ref_lt h (by omega) hr; omega
    rw [h3 c n1, h3 i n2]
    exact hs.2 i (by omega) hi2 c hc
theorem neg_loop {q : List Xa} (h : Qx q = true) : ∀ (n k : Nat) (s : List Bool), k + n = q.length → NegOk q k s → ∃ s', forN (Yz q) implNegatedNodes_e0 n k s = .brk s' ∧ NegOk q q.length s'
  | 0, k, s, hk, hs => ⟨s, rfl, by rw [show k = q.length by omega] at hs; exact hs⟩
  | n + 1, k, s, hk, hs => by
    obtain ⟨s1, h1, h2⟩ := neg_next h (by omega) hs
    obtain ⟨s2, h3, h4⟩ := neg_loop h n (k + 1) s1 (by omega) h2
    exact ⟨s2, by simp only [forN, h1]; exact h3, h4⟩
theorem neg_kids {q : List Xa} (h : Qx q = true) : NegOk q q.length (Xh q) := by
  unfold Xh
  obtain ⟨s, h1, h2⟩ := neg_loop h (List.length q) 0 (List.replicate (Int.toNat (q.length : Int)) false) (by omega) ⟨by simp, fun i h1 h2 => by omega⟩
  rw [h]
  simp only [Bool.not_true, cond_false, h1, Out.on]
  exact h2
theorem neg_name {q : List Xa} {i : Nat} (hi : i < (Xh q).length) (hn : nth (Xh q) i = true) (hd : implnamesDir (nth q i) = true) : (nth q i).2.2.2.1 ∈ Xz q := by
  have key : ∀ (l : List Bool) (k : Nat) (s : List ByteArray), ∃ t, Xg (impldepsBelow_f0 q true) impldepsBelow_e0 l k s = .brk t ∧ (∀ x, x ∈ s → x ∈ t) ∧ ∀ j, l[j]? = some true → implnamesDir (nth q (k + j)) = true → (nth q (k + j)).2.2.2.1 ∈ t := by
    intro l
    induction l with
    | nil => intro k s; exact ⟨s, rfl, fun _ h => h, fun j h => by simp at h⟩
    | cons a l ih =>
      intro k s
      simp only [Xg, impldepsBelow_f0]
      cases hc : (implnamesDir (nth q k) && (a == true)) with
      | true =>
        obtain ⟨t, h1, h2, h3⟩ := ih (k + 1) (s ++ [(nth q k).2.2.2.1])
        refine ⟨t, h1, fun x hx => h2 x (List.mem_append_left _ hx), fun j hj hnm => ?_⟩
        cases j with
        | zero => exact h2 _ (List.mem_append_right _ (by simp))
        | succ j =>
          have := h3 j (by simpa using hj) (by rwa [show k + 1 + j = k + (j + 1) by omega])
          rwa [show k + 1 + j = k + (j + 1) by omega] at this
      | false =>
        obtain ⟨t, h1, h2, h3⟩ := ih (k + 1) s
        refine ⟨t, h1, h2, fun j hj hnm => ?_⟩
        cases j with
        | zero =>
          obtain rfl : a = true := by simpa using hj
          rw [Nat.add_zero] at hnm
          rw [hnm] at hc; cases hc
        | succ j =>
          have := h3 j (by simpa using hj) (by rwa [show k + 1 + j = k + (j + 1) by omega])
          rwa [show k + 1 + j = k + (j + 1) by omega] at this
  unfold Xz impldepsBelow
  obtain ⟨t, h1, _, h3⟩ := key (Xh q) 0 []
  rw [h1]
  simp only [Out.on]
  have := h3 i (by rw [Xv hi, hn]) (by rwa [Nat.zero_add])
  rw [Nat.zero_add] at this
  exact ((once_spec t).2 _).2 this
/-! ### what a node says -/
theorem cid_iff (l : List Int) (x : Int) : implContainsID l x = true ↔ x ∈ l := by
  unfold implContainsID slicesContains_int slicesIndex_int
  have key : ∀ (l : List Int) (k : Nat), decide (((Xg (Z9 x) slicesIndex_int_e0 l k ()).on fun _ => -1) ≥ 0) = true ↔ x ∈ l := by
    intro l
    induction l with
    | nil => intro k; simp [Xg, Out.on, slicesIndex_int_e0]
    | cons a l ih =>
      intro k
      by_cases h : x = a
      · subst h; simp [Xg, Z9, Out.on]
      · have e1 : (x == a) = false := beq_eq_false_iff_ne.2 h
        simp only [Xg, Z9, e1, cond_false]
        rw [ih (k + 1)]
        simp [h]
  exact key l 0
structure Seen (q : List Xa) (a b : List Qs) : Prop where
  grow : ∀ nm x, x ∈ Q9 a nm → x ∈ Q9 b nm
  same : ∀ nm, nm ∈ Xz q → Q9 a nm = Q9 b nm
theorem match_grow {q : List Xa} (hv : Qx q = true) {a b : List Qs} (hs : Seen q a b) (f : Xt) : ∀ (n : Nat) (k : Nat), k < n → k < q.length →
    (nth (Xh q) k = true → Xl n q (k : Int) f a = Xl n q (k : Int) f b) ∧ (Xl n q (k : Int) f a = true → Xl n q (k : Int) f b = true)
  | 0, _, h, _ => absurd h (by omega)
  | n + 1, k, hkn, hk => by
    obtain ⟨hl, hr⟩ := vq_kids hv (k := (k : Int)) (by omega) (by omega)
    rw [Int.toNat_natCast] at hl hr
    obtain ⟨hlen, hneg⟩ := neg_kids hv
    have hneg := hneg k (by omega) hk
    have hop := vn_op (vq_node hv (Xv hk))
    have hnm := neg_name (q := q) (i := k) (by omega)
    have ih := match_grow hv hs f n
    unfold Xl
    rw [Int.toNat_natCast]
    generalize nth q k = m at hl hr hneg hop hnm ⊢
    have kid : ∀ c : Int, 0 ≤ c → c < (k : Int) → isRef m c = true → ((nth (Xh q) k || (m.1 == 5)) = true → Xl n q c f a = Xl n q c f b) ∧ (Xl n q c f a = true → Xl n q c f b = true) := fun c h0 h1 hrf => by
      obtain ⟨j, rfl⟩ : ∃ j : Nat, c = (j : Int) := ⟨Int.toNat c, by omega⟩
      obtain ⟨g1, g2⟩ := ih j (by omega) (by omega)
      exact ⟨fun hn => g1 ((hneg j hrf).trans hn), g2⟩
    rcases hop with h | h | h | h | h | h | h | h | h
    · simp [h]
    · simp [h]
    · simp [h]
    · simp [h]
    · obtain ⟨k1, k2⟩ := hl (.inl h)
      obtain ⟨g1, _⟩ := kid m.2.1 k1 k2 (by simp [isRef, h])
      have := g1 (by simp [h])
      simp [h, this]
    · obtain ⟨k1, k2⟩ := hl (.inr (.inl h))
      obtain ⟨k3, k4⟩ := hr (.inl h)
      obtain ⟨g1, g2⟩ := kid m.2.1 k1 k2 (by simp [isRef, h])
      obtain ⟨g3, g4⟩ := kid m.2.2.1 k3 k4 (by simp [isRef, h])
      refine ⟨fun hn => ?_, fun hm => ?_⟩
      · simp [h, g1 (by simp [hn]), g3 (by simp [hn])]
      · simp [h] at hm ⊢
        exact ⟨g2 hm.1, g4 hm.2⟩
    · obtain ⟨k1, k2⟩ := hl (.inr (.inr h))
      obtain ⟨k3, k4⟩ := hr (.inr h)
      obtain ⟨g1, g2⟩ := kid m.2.1 k1 k2 (by simp [isRef, h])
      obtain ⟨g3, g4⟩ := kid m.2.2.1 k3 k4 (by simp [isRef, h])
      refine ⟨fun hn => ?_, fun hm => ?_⟩
      · simp [h, g1 (by simp [hn]), g3 (by simp [hn])]
      · simp [h] at hm ⊢
        exact hm.imp g2 g4
    · refine ⟨fun hn => ?_, fun hm => ?_⟩
      · simp [h, hs.same _ (hnm hn (by simp [implnamesDir, h]))]
      · simp [h] at hm ⊢
        exact (cid_iff _ _).2 (hs.grow _ _ ((cid_iff _ _).1 hm))
    · refine ⟨fun hn => ?_, fun hm => ?_⟩
      · simp [h, hs.same _ (hnm hn (by simp [implnamesDir, h]))]
      · simp [h] at hm ⊢
        exact ⟨hm.1, (cid_iff _ _).2 (hs.grow _ _ ((cid_iff _ _).1 hm.2))⟩
theorem matches_grow {q : List Xa} {a b : List Qs} (hs : Seen q a b) (f : Xt) (h : implMatches q f a = true) : implMatches q f b = true := by
  unfold implMatches at h ⊢
  cases hv : Qx q with
  | false => rw [hv] at h; cases h
  | true =>
    rw [hv, Bool.true_and] at h
    rw [Bool.true_and]
    have hl := vq_len hv
    have e : ((q.length : Int) - 1) = ((q.length - 1 : Nat) : Int) := by omega
    rw [e] at h ⊢
    exact (match_grow hv hs f q.length (q.length - 1) (by omega) (by omega)).2 h
theorem select_sel (s : Yl) (q : List Xa) (r : List Qs) : Ym s q r = sel s.2.1 (fun f => f.1) fun f => implMatches q f r := by
  unfold Ym
  rw [forL_filter (f := implSelectFiles_f0 q r) (p := fun f => implMatches q f r) (g := fun f => f.1) (fun _ _ _ => rfl)]
  rfl
/-! ### strata that hold -/
theorem strata_ok {d : List X1} {L : List Int} (h : Q5 d = (L, true)) : implIsValidDirs d = true ∧ L.length = d.length ∧ Sat (edgesD d) d.length L ∧ ∀ j, 0 ≤ nth L j := by
  unfold Q5 at h
  cases hv : implIsValidDirs d with
  | false => rw [hv] at h; simp at h
  | true =>
    rw [hv] at h
    simp only [Bool.not_true, cond_false] at h
    have h5 := vdirs_len hv
    have hw := whl_climb (d := d) (f := implStrata_f1 d) (e := implStrata_e1) (F := implStrata_f0 d) (fun _ _ _ => rfl) (fun _ _ => rfl) (fun _ => rfl) (by omega) (d.length * d.length + 3) (List.replicate d.length 0) true (zeroL_ok _).1 (zeroL_ok _).2
    have hsome : (climb (edgesD d) d.length d.length (d.length * d.length + 3) (true, List.replicate d.length 0)).isSome = true := by
      have := implStrata_w d h5
      rw [Int.toNat_natCast, hw, Option.isSome_map] at this
      exact this
    obtain ⟨r, hr⟩ := Option.isSome_iff_exists.1 hsome
    unfold whlD at h
    rw [Int.toNat_natCast, hw, hr] at h
    have hw' : ∀ i e, e ∈ edgesD d i → e.2 ≤ 1 ∧ e.1 < d.length := fun i e he => ⟨(edgesD_ok d i e he).1, (edgesD_ok d i e he).2.1⟩
    obtain ⟨h1, _⟩ := climb_eq hw' _ 0 true r (fun e => by cases e) hr
    cases r with
    | none => simp [endD, Out.on] at h
    | some M =>
      have e : M = L := by simpa [endD, Out.on] using h
      subst e
      obtain ⟨hrest, hM⟩ := h1 M rfl
      rw [hM]
      exact ⟨rfl, after_len _ _ _, rest_sat (after_len _ _ _) hrest, fun j => after_nonneg _ _ j _⟩
theorem strata_le {d : List X1} {L : List Int} (h : Q5 d = (L, true)) : ∀ j, nth L j ≤ (d.length : Int) := by
  obtain ⟨hv, hlen, _, _⟩ := strata_ok h
  have h5 := vdirs_len hv
  unfold Q5 at h
  rw [hv] at h
  simp only [Bool.not_true, cond_false] at h
  have hw := whl_climb (d := d) (f := implStrata_f1 d) (e := implStrata_e1) (F := implStrata_f0 d) (fun _ _ _ => rfl) (fun _ _ => rfl) (fun _ => rfl) (by omega) (d.length * d.length + 3) (List.replicate d.length 0) true (zeroL_ok _).1 (zeroL_ok _).2
  have hsome : (climb (edgesD d) d.length d.length (d.length * d.length + 3) (true, List.replicate d.length 0)).isSome = true := by
    have := implStrata_w d h5
    rw [Int.toNat_natCast, hw, Option.isSome_map] at this
    exact this
  obtain ⟨r, hr⟩ := Option.isSome_iff_exists.1 hsome
  unfold whlD at h
  rw [Int.toNat_natCast, hw, hr] at h
  have hw' : ∀ i e, e ∈ edgesD d i → e.2 ≤ 1 ∧ e.1 < d.length := fun i e he => ⟨(edgesD_ok d i e he).1, (edgesD_ok d i e he).2.1⟩
  obtain ⟨h1, _⟩ := climb_eq hw' _ 0 true r (fun e => by cases e) hr
  cases r with
  | none => simp [endD, Out.on] at h
  | some M =>
    have e : M = L := by simpa [endD, Out.on] using h
    subst e
    obtain ⟨hrest, hM⟩ := h1 M rfl
    intro j
    by_cases hj : j < d.length
    · rw [hM]; exact Int.le_of_lt (rest_lt hw' hrest j hj)
    · have : nth M j = 0 := nth_out (by omega)
      omega
theorem edgesOfN_mem {d : List X1} {w : Int} {nm : ByteArray} : ∀ {l : List ByteArray}, nm ∈ l → 0 ≤ Xj d nm → (Int.toNat (Xj d nm), w) ∈ edgesOfN d w l
  | x :: l, h, h0 => by
    simp only [edgesOfN]
    rcases List.mem_cons.1 h with rfl | h
    · rw [if_pos h0]; exact List.mem_cons_self ..
    · split
      · exact List.mem_cons_of_mem _ (edgesOfN_mem h h0)
      · exact edgesOfN_mem h h0
theorem strata_neg {d : List X1} {L : List Int} (h : Q5 d = (L, true)) {i : Nat} (hi : i < d.length) {nm : ByteArray} (hn : nm ∈ Xz (nth d i).2) (h0 : 0 ≤ Xj d nm) : nth L (Int.toNat (Xj d nm)) < nth L i := by
  obtain ⟨_, _, hs, _⟩ := strata_ok h
  have hm : (Int.toNat (Xj d nm), (1 : Int)) ∈ edgesD d i := by
    unfold edgesD
    rw [if_pos hi]
    exact List.mem_append_right _ (edgesOfN_mem hn h0)
  have := (need_le.1 (hs i hi)).2 _ hm
  simp only at this
  omega
end Go.Proofs.YtcnkkobgogmakaaGreat
namespace Go.Proofs.YtcnkkobgogmakaaGreat
open Go.RowKit
theorem rids_go (nm : ByteArray) : ∀ (d : List X1) (o : List Qs) (k : Nat), o.map (·.1) = d.map (·.1) →
    (Xg (Xo nm) X6 d k () = .brk () ∧ Xg (implResultIDs_f0 nm) implResultIDs_e0 o k () = .brk ()) ∨
    ∃ i : Nat, i < d.length ∧ Xg (Xo nm) X6 d k () = .ret (((k + i : Nat)) : Int) ∧ Xg (implResultIDs_f0 nm) implResultIDs_e0 o k () = .ret (nth o i).2
  | [], [], _, _ => .inl ⟨rfl, rfl⟩
  | [], _ :: _, _, h => by simp at h
  | _ :: _, [], _, h => by simp at h
  | a :: d, b :: o, k, h => by
    simp only [List.map_cons, List.cons.injEq] at h
    obtain ⟨h1, h2⟩ := h
    simp only [Xg, Xo, implResultIDs_f0, impldirAt_1, h1]
    cases (a.1.toList == nm.toList) with
    | true => exact .inr ⟨0, by simp, rfl, rfl⟩
    | false =>
      simp only [cond_false]
      rcases rids_go nm d o (k + 1) h2 with h | ⟨i, hi, h3, h4⟩
      · exact .inl h
      · exact .inr ⟨i + 1, by simpa using hi, by rw [h3, show k + 1 + i = k + (i + 1) by omega], h4⟩
theorem rids_at {d : List X1} {o : List Qs} (h : o.map (·.1) = d.map (·.1)) (nm : ByteArray) : (Xj d nm < 0 ∧ Q9 o nm = []) ∨ (0 ≤ Xj d nm ∧ Int.toNat (Xj d nm) < d.length ∧ Q9 o nm = (nth o (Int.toNat (Xj d nm))).2) := by
  unfold Xj Y7 Q9
  rcases rids_go nm d o 0 h with ⟨h1, h2⟩ | ⟨i, hi, h1, h2⟩
  · rw [h1, h2]
    refine .inl ⟨?_, ?_⟩
    · show (-1 : Int) < 0; omega
    · rfl
  · rw [h1, h2]
    simp only [Out.on, Nat.zero_add, Int.toNat_natCast]
    exact .inr ⟨by omega, hi, trivial⟩
abbrev pickD (d : List X1) (k : Nat) (o : List Qs) (f : Xt) : Bool := implMatches (nth d k).2 f o
theorem mono_ok {d : List X1} {L : List Int} (h : Q5 d = (L, true)) (fs : List Xt) {act : Nat → Bool} {level : Int} (ha : ∀ k, act k = true → nth L k = level) : MonoC fs (pickD d) act (d.map (·.1)) := by
  intro a b hna hnb hle k hk hact f _ hm
  rw [List.length_map] at hk
  refine matches_grow (⟨fun nm x hx => ?_, fun nm hn => ?_⟩ : Seen (nth d k).2 a b) f hm
  · rcases rids_at hna nm with ⟨h1, h2⟩ | ⟨h1, h2, h3⟩
    · rw [h2] at hx; simp at hx
    · rcases rids_at hnb nm with ⟨g1, _⟩ | ⟨_, _, g3⟩
      · omega
      · rw [h3] at hx
        rw [g3]
        exact (hle _).1 x hx
  · rcases rids_at hna nm with ⟨h1, h2⟩ | ⟨h1, h2, h3⟩
    · rcases rids_at hnb nm with ⟨_, g2⟩ | ⟨g1, _, _⟩
      · rw [h2, g2]
      · omega
    · rcases rids_at hnb nm with ⟨g1, _⟩ | ⟨_, _, g3⟩
      · omega
      · rw [h3, g3]
        refine (hle _).2 ?_
        have hlt := strata_neg h hk hn h1
        cases hp : act (Int.toNat (Xj d nm)) with
        | false => rfl
        | true => have := ha _ hp; have := ha _ hact; omega
structure EvS (d : List X1) (L : List Int) (on : Nat → Bool) (fs : List Xt) (k : Int) (o : List Qs) : Prop where
  names : o.map (·.1) = d.map (·.1)
  none : ∀ j, k ≤ nth L j → on j = true → (nth o j).2 = []
  some_ : ∀ j, j < d.length → on j = true → ∃ p : Xt → Bool, (nth o j).2 = sel fs (fun f => f.1) p
def actD (L : List Int) (on : Nat → Bool) (k : Int) (j : Nat) : Bool := (nth L j == k) && on j
theorem evS_state {d : List X1} {L : List Int} {on : Nat → Bool} {fs : List Xt} {k : Int} {o : List Qs} (h : EvS d L on fs k o) : StateC fs (fun f : Xt => f.1) (pickD d) (actD L on k) (d.map (·.1)) o o :=
  ⟨h.names, fun j _ hj => ⟨fun _ => false, by
    unfold actD at hj
    simp only [Bool.and_eq_true, beq_iff_eq] at hj
    rw [h.none j (by omega) hj.2]; simp [sel], fun f _ hf => by cases hf⟩, fun _ _ => rfl⟩
theorem evS_next {d : List X1} {L : List Int} {on : Nat → Bool} {k : Int} {o o' : List Qs} {fs : List Xt} (h : EvS d L on fs k o) (h' : StateC fs (fun f : Xt => f.1) (pickD d) (actD L on k) (d.map (·.1)) o o') : EvS d L on fs (k + 1) o' :=
  ⟨h'.names, fun j hj hon => by
    rw [h'.rest j (by unfold actD; rw [Bool.and_eq_false_iff]; exact .inl (beq_eq_false_iff_ne.2 (by omega)))]
    exact h.none j (by omega) hon, fun j hj hon => by
    cases ha : actD L on k j with
    | false => rw [h'.rest j ha]; exact h.some_ j hj hon
    | true =>
      have hlen : o'.length = d.length := by have := congrArg List.length h'.names; simpa using this
      obtain ⟨p, hp, _⟩ := h'.good j (by omega) ha
      exact ⟨p, hp⟩⟩
theorem evS_len {d : List X1} {L : List Int} {on : Nat → Bool} {fs : List Xt} {k : Int} {o : List Qs} (h : EvS d L on fs k o) : List.length o = List.length d := by have := congrArg List.length h.names; simpa using this
theorem ints_dec (a b : List Int) : specl07Ints a b = decide (a = b) := by
  by_cases h : a.length = b.length
  · exact ints_eq a b h
  · have hb : ((a.length : Int) != (b.length : Int)) = true := by simpa using fun e : (a.length : Int) = (b.length : Int) => h (by omega)
    unfold specl07Ints
    rw [hb, decide_eq_false (fun e => h (congrArg List.length e))]
    rfl
def StepE (s : Yl) (d : List X1) (L : List Int) (on : Nat → Bool) (lv : Int) {R T : Type} (f : Nat → X1 → List Qs × Bool → Rd R (List Qs × Bool) T) : Prop :=
  ∀ k a o c, d[k]? = some a → f k a (o, c) = bif actD L on lv k then (bif !(decide (Ym s a.2 o = (nth o k).2)) then .next (List.set o k ((nth o k).1, Ym s a.2 o), true) else .next (o, c)) else .next (o, c)
theorem pass_eq {R : Type} {s : Yl} {d : List X1} {L : List Int} {on : Nat → Bool} {lv : Int} {f : Nat → X1 → List Qs × Bool → Rd R (List Qs × Bool) (List Qs × Bool)} {e : Nat → List Qs × Bool → List Qs × Bool}
    (hf : StepE s d L on lv f) (he : ∀ k s, e k s = s) : ∀ (l : List X1) (k : Nat) (o : List Qs) (c : Bool), d.drop k = l → Xg f e l k (o, c) = .brk (passC s.2.1 (fun f : Xt => f.1) (pickD d) (actD L on lv) (List.range' k l.length) (o, c))
  | [], k, o, c, _ => by simp [Xg, passC, he]
  | a :: l, k, o, c, hl => by
    have hk : d[k]? = some a := by
      have := congrArg (·[0]?) hl
      simpa using this
    have ha : nth d k = a := nth_of hk
    have hrest : d.drop (k + 1) = l := by rw [← List.drop_drop, hl]; rfl
    have hp : passC s.2.1 (fun f : Xt => f.1) (pickD d) (actD L on lv) (List.range' k (a :: l).length) (o, c) = passC s.2.1 (fun f : Xt => f.1) (pickD d) (actD L on lv) (List.range' (k + 1) l.length) (stepC s.2.1 (fun f : Xt => f.1) (pickD d) (actD L on lv) (o, c) k) := by
      rw [List.length_cons, List.range'_succ]; rfl
    have hsel : sel s.2.1 (fun f : Xt => f.1) (pickD d k o) = Ym s a.2 o := by rw [select_sel, ← ha]
    rw [hp]
    simp only [Xg, hf k a o c hk]
    unfold stepC
    cases actD L on lv k with
    | false => simp only [cond_false]; exact pass_eq hf he l (k + 1) o c hrest
    | true =>
      simp only [cond_true, hsel]
      by_cases hq : Ym s a.2 o = (nth o k).2
      · rw [decide_eq_true hq, if_pos hq]; exact pass_eq hf he l (k + 1) o c hrest
      · rw [decide_eq_false hq, if_neg hq]; exact pass_eq hf he l (k + 1) _ true hrest
theorem ev_run {R' : Type} {s : Yl} {d : List X1} {L : List Int} {on : Nat → Bool} {lv : Int} {f : Nat → X1 → List Qs × Bool → Rd (Rd R' (List Qs × Int × Bool) (List Qs × Int)) (List Qs × Bool) (List Qs × Bool)} {e : Nat → List Qs × Bool → List Qs × Bool} {F : List Qs × Int × Bool → Rd R' (List Qs × Int × Bool) (List Qs × Int)}
    (hf : StepE s d L on lv f) (he : ∀ k s, e k s = s) (hF : ∀ x, F x = bif x.2.2 then (Out.on (Xg f e d 0 (x.1, false)) fun y => .next (y.1, IntKind.i64.wrap (x.2.1 + 1), y.2)) else .brk (x.1, x.2.1))
    (hS : Q5 d = (L, true)) {o : List Qs} (h : EvS d L on s.2.1 lv o) (p : Int) :
    ∃ o' p', whl F (List.length d * List.length s.2.1 + 2) (o, p, true) = some (.brk (o', p')) ∧ EvS d L on s.2.1 (lv + 1) o' := by
  have hlen : o.length = d.length := by have := congrArg List.length h.names; simpa using this
  have hroom := room_le s.2.1.length (actD L on lv) o 0
  rw [hlen] at hroom
  obtain ⟨s', h1, hc, t, h2, h3⟩ := whlC (fs := s.2.1) (idOf := fun f : Xt => f.1) (m := pickD d) (act := actD L on lv) (nm := d.map (·.1)) (F := F) (out := fun x => x.1) (ch := fun x => x.2.2) (n := d.length) (by simp)
    (fun x hx => ⟨_, by rw [hF, hx, cond_true, pass_eq hf he d 0 x.1 false rfl]; rfl, by rw [List.range_eq_range']⟩)
    (fun x hx => ⟨_, by rw [hF, hx, cond_false]⟩) (mono_ok hS s.2.1 fun k hk => by unfold actD at hk; simp only [Bool.and_eq_true, beq_iff_eq] at hk; exact hk.1) (o := o) (List.length d * List.length s.2.1 + 2) (o, p, true) (evS_state h) (by simp only [cond_true]; omega)
  have hc' : s'.2.2 = false := hc
  have hb : F s' = .brk (s'.1, s'.2.1) := by rw [hF, hc']; rfl
  rw [hb] at h2
  cases h2
  exact ⟨s'.1, s'.2.1, h3, evS_next h h1⟩
theorem ev_start {R T : Type} {d : List X1} {L : List Int} {on : Nat → Bool} {fs : List Xt} {g : X1 → List Int} {f : Nat → X1 → List Qs → Rd R (List Qs) T} {e : Nat → List Qs → T} (hf : ∀ k a s, f k a s = .next (s ++ [(a.1, g a)])) (hg : ∀ j, j < d.length → on j = true → g (nth d j) = []) :
    Xg f e d 0 [] = .brk (e d.length (d.map fun a => (a.1, g a))) ∧ EvS d L on fs 0 (d.map fun a => (a.1, g a)) := by
  refine ⟨by rw [forL_map (g := fun a => ((a.1, g a) : Qs)) hf]; simp, ?_, fun j _ hj => ?_, fun j hj hon => ?_⟩
  · rw [List.map_map]; rfl
  · by_cases hjl : j < d.length
    · have : nth (d.map fun a => ((a.1, g a) : Qs)) j = ((nth d j).1, g (nth d j)) := by simp [nth, List.getD, hjl]
      rw [this]; exact hg j hjl hj
    · have : nth (d.map fun a => ((a.1, g a) : Qs)) j = default := by simp [nth, List.getD, hjl]
      rw [this]; rfl
  · have : nth (d.map fun a => ((a.1, g a) : Qs)) j = ((nth d j).1, g (nth d j)) := by simp [nth, List.getD, hj]
    exact ⟨fun _ => false, by rw [this, hg j hj hon]; simp [sel]⟩
theorem strata_small {d : List X1} (h : ((Q5 d)).2 = true) : List.length ((Q5 d)).1 = List.length d ∧ List.length d ≤ 5 ∧ ∀ x, x ∈ ((Q5 d)).1 → 0 ≤ x ∧ x ≤ 5 := by
  have hS : Q5 d = ((Q5 d).1, true) := Prod.ext rfl h
  obtain ⟨hv, hlen, hs, h0⟩ := strata_ok hS
  have h5 := vdirs_len hv
  refine ⟨hlen, h5, fun x hx => ?_⟩
  obtain ⟨i, hi, rfl⟩ := mem_nth hx
  refine ⟨h0 i, ?_⟩
  have hb := strata_le hS i
  omega
open GoE (enc wide)
def implDirNames_f0 (_ : Nat) (a0 : X1) (s0 : (List ByteArray)) : Rd ((List ByteArray)) ((List ByteArray)) ((List ByteArray)) := (.next (s0 ++ [a0.1]))
def implDirNames_e0 (_ : Nat) (s0 : (List ByteArray)) : (List ByteArray) := s0
def implDirNames (d : (List X1)) : (List ByteArray) := (Out.on (Xg implDirNames_f0 implDirNames_e0 d 0 []) (fun y0 => y0))
theorem implDirNames_a (d : (List X1)) : ACalls Tryz.prog 99 [.h d] (.o 0 (implDirNames d)) := by
 refine en Qc Tryz.func99 fun w0 F0 hG => ?_
 refine sn Qc [0, 2] [] (p0) ?_
 refine tn Qc [0, 2, 3] [] (p0) ?_
 refine Qg ?_
 refine tu Qc [(2, .e 0), (3, .one (.slc (.own true 384) 1 [])), (7, .h d), (8, .i (d.length : Int)), (9, .i 0)] [0] [] [] (pl 1 d p0) ?_
 refine wT 7 0 .sh d (fun hw1 hl2 => ?_)
 refine blk (fun (k0 : Nat) (s0 : (List ByteArray)) => [(3, .o 147201 s0), (9, .i ((k0 : Nat) : Int))]) [3, 9] (fun k0 s0 => []) [] (fun (y0 : (List ByteArray)) => [(3, .o 147351 y0)]) [3, 7, 8, 9] (fun y0 => []) [] (fun (k0 : Nat) (s0 : (List ByteArray)) => (Xg implDirNames_f0 implDirNames_e0 d 0 []) = Xg implDirNames_f0 implDirNames_e0 (List.drop k0 d) k0 s0 ∧ List.length s0 ≤ k0) (fun (y0 : (List ByteArray)) => (Xg implDirNames_f0 implDirNames_e0 d 0 []) = .brk y0) d.length [] (X2 [(384, 147201)] (by kernel_rfl)) ⟨rfl, (by simp)⟩ (fun k0 s0 hk0 hI0 => ?_) (fun k0 s0 hk0 hI0 => ?_) (fun y0 hD0 => ?_)
 ·
  have hA0_0 := hI0.2
  obtain ⟨a0, hx0⟩ := Xq (l := d) (i := k0) hk0
  refine sn Qc [2, 3, 7, 8, 9, 10] [] (pe 0 (Q0 (decide_eq_true (p := ((k0 : Nat) : Int) < (d.length : Int)) (by omega))) p0) ?_
  refine Qg ?_
  refine ckT ?_
  refine Qo ?_
  refine Qg ?_
  refine Q6 ?_
  refine tn Qc [2, 3, 5, 7, 8, 9] [5] (pn 0 hx0 p0) ?_
  refine wT 3 0 (.own true 147201) s0 (fun hw3 hl4 => ?_)
  refine qu Qc [(3, .one (.slc (.own true 1088) 1 ((eL s0) ++ [[.s a0.1]])))] [3] [] [] (pa s0 [a0.1] p0) ?_
  refine eqn [(3, .o 1088 (s0 ++ [a0.1]))] [3] [] [] (by rw [show ((eL s0) ++ [[.s a0.1]]) = (eL (s0 ++ [a0.1])) from app_eL (rfl) (rfl)]; first | done | kernel_rfl) ?_
  refine rn Qc [2, 3, 7, 8, 9] [] (pe 0 (av_i (Qy k0 (by omega))) p0) ?_
  exact Exists.intro (s0 ++ [a0.1]) (And.intro (X2 [(1088, 147201)] (by kernel_rfl)) ⟨Q4 hx0 (rfl) hI0.1, by first | omega | (simp; omega) | simp⟩)
 ·
  have hA0_0 := hI0.2
  refine sn Qc [2, 3, 7, 8, 9, 10] [] (pe 0 (Q0 (decide_eq_false (p := ((k0 : Nat) : Int) < (d.length : Int)) (by omega))) p0) ?_
  refine Qg ?_
  refine ckF ?_
  refine Xc ?_
  exact Exists.intro _ (And.intro (X2 [(147201, 147351)] (by kernel_rfl)) (Xr hk0 (rfl) hI0.1))
 ·
  refine sn Qc [2] [] (p0) ?_
  refine Qp ?_
  exact Ye [] (congrArg (fun z => (.o 0 z : AV)) (show implDirNames d = _ from on_b hD0 (rfl)).symm)
def slicesIndex_string_f0 (v : ByteArray) (k0 : Nat) (a0 : ByteArray) (_ : Unit) : Rd (Int) (Unit) (Unit) := (bif (v.toList == a0.toList) then (.ret ((k0 : Nat) : Int)) else (.next ()))
def slicesIndex_string_e0 (_ : Nat) (_ : Unit) : Unit := ()
def slicesIndex_string (s_ : (List ByteArray)) (v : ByteArray) : Int := (Out.on (Xg (slicesIndex_string_f0 v) slicesIndex_string_e0 s_ 0 ()) (fun _ => -1))
theorem slicesIndex_string_a (s_ : (List ByteArray)) (v : ByteArray) : ACalls Tryz.prog 192 [.h s_, .s v] (.i (slicesIndex_string s_ v)) := by
 refine en Qc Tryz.func192 fun w0 F0 hG => ?_
 refine sn Qc [0, 1, 4] [] (p0) ?_
 refine Qg ?_
 refine tn Qc [0, 1, 4, 7, 8] [] (pl 1 s_ p0) ?_
 refine mz [(4, .i 0), (7, .i (s_.length : Int)), (8, .i 0)] [] [] [] ?_
 refine wT 0 0 .sh s_ (fun hw1 hl2 => ?_)
 refine blk (fun (k0 : Nat) (s0 : Unit) => [(8, .i ((k0 : Nat) : Int))]) [8] (fun k0 s0 => []) [] (fun (y0 : Unit) => []) [0, 1, 7, 8] (fun y0 => []) [] (fun (k0 : Nat) (s0 : Unit) => (Xg (slicesIndex_string_f0 v) slicesIndex_string_e0 s_ 0 ()) = Xg (slicesIndex_string_f0 v) slicesIndex_string_e0 (List.drop k0 s_) k0 s0) (fun (y0 : Unit) => (Xg (slicesIndex_string_f0 v) slicesIndex_string_e0 s_ 0 ()) = .brk y0) s_.length () (Qf (by kernel_rfl)) rfl (fun k0 s0 hk0 hI0 => ?_) (fun k0 s0 hk0 hI0 => ?_) (fun y0 hD0 => ?_)
 ·
  obtain ⟨a0, hx0⟩ := Xq (l := s_) (i := k0) hk0
  refine sn Qc [0, 1, 4, 7, 8, 9] [] (pe 0 (Q0 (decide_eq_true (p := ((k0 : Nat) : Int) < (s_.length : Int)) (by omega))) p0) ?_
  refine Qg ?_
  refine ckT ?_
  refine Qo ?_
  refine Qg ?_
  refine Q6 ?_
  refine tn Qc [0, 1, 4, 5, 7, 8] [] (p0) ?_
  refine tu Qc [(5, .i ((k0 : Nat) : Int)), (16, .b (v.toList == a0.toList))] [] [] [] (pn 3 hx0 p0) ?_
  refine ck (v.toList == a0.toList) (fun h3 => ?_) (fun h3 => ?_)
  ·
   refine sn Qc [0, 1, 4, 7, 8] [] (p0) ?_
   refine Qp ?_
   have hr4 : (Xg (slicesIndex_string_f0 v) slicesIndex_string_e0 s_ 0 ()) = .ret ((k0 : Nat) : Int) := Zw hx0 (Xm h3 (rfl)) hI0
   exact Ye [] (congrArg (fun z => (.i z : AV)) (show slicesIndex_string s_ v = _ from on_r hr4).symm)
  ·
   refine Qo ?_
   refine rn Qc [0, 1, 4, 7, 8] [] (pe 0 (av_i (Qy k0 (by omega))) p0) ?_
   exact Exists.intro _ (And.intro (Qf (by kernel_rfl)) (Q4 hx0 (Qz h3 (rfl)) hI0))
 ·
  refine sn Qc [0, 1, 4, 7, 8, 9] [] (pe 0 (Q0 (decide_eq_false (p := ((k0 : Nat) : Int) < (s_.length : Int)) (by omega))) p0) ?_
  refine Qg ?_
  refine ckF ?_
  refine Xc ?_
  exact Exists.intro _ (And.intro (Qf (by kernel_rfl)) (Xr hk0 (rfl) hI0))
 ·
  refine sn Qc [4] [] (p0) ?_
  refine Qp ?_
  exact Ye [] (congrArg (fun z => (.i z : AV)) (show slicesIndex_string s_ v = _ from on_b hD0 (rfl)).symm)
def Q7 (s_ : (List ByteArray)) (v : ByteArray) : Bool := decide ((slicesIndex_string s_ v) ≥ (0 : Int))
theorem slicesContains_string_a (s_ : (List ByteArray)) (v : ByteArray) : ACalls Tryz.prog 146 [.h s_, .s v] (.b (Q7 s_ v)) := by
 refine en Qc Tryz.func146 fun w0 F0 hG => ?_
 refine sn Qc [0, 1, 4] [] (p0) ?_
 refine tn Qc [4] [] (pc 2 (slicesIndex_string_a s_ v) p0) ?_
 refine Qp ?_
 exact Ye [] (congrArg (fun z => (.b z : AV)) (show Q7 s_ v = decide ((slicesIndex_string s_ v) ≥ (0 : Int)) from rfl).symm)
def slicesMax_int_f0 (x : (List Int)) (k0 : Nat) (s0 : Int) : Rd (Int) (Int) (Int) := (.next (max s0 (nth x (k0 + 1))))
def slicesMax_int_e0 (_ : Nat) (s0 : Int) : Int := s0
def slicesMax_int (x : (List Int)) : Int := (Out.on (forN (slicesMax_int_f0 x) slicesMax_int_e0 (x.length - 1) 0 (nth x 0)) (fun y0 => y0))
theorem slicesMax_int_a (x : (List Int)) (hp : 0 < x.length) : ACalls Tryz.prog 193 [.h x] (.i (slicesMax_int x)) := by
 refine en Qc Tryz.func193 fun w0 F0 hG => ?_
 refine sn Qc [0, 2] [] (p0) ?_
 refine Qg ?_
 refine tn Qc [0, 2, 7] [] (pl 1 x (pe 2 (show .b (decide ((x.length : Int) < (1 : Int))) = .b false from Q0 (decide_eq_false (by omega))) p0)) ?_
 refine ckF ?_
 refine Qo ?_
 refine wT 0 0 .sh x (fun hw2 hl3 => ?_)
 have hx1 : x[0]? = some (nth x 0) := Xv (by omega)
 refine tu Qc [(2, .i 0), (3, .i (nth x 0))] [] [] [] (pg 1 0 hx1 p0) ?_
 refine Qg ?_
 refine sn Qc [0, 2, 3, 4] [] (p0) ?_
 refine mz [(4, .i 1)] [] [] [] ?_
 refine blk (fun (k0 : Nat) (s0 : Int) => [(3, .i s0), (4, .i ((k0 + 1 : Nat) : Int))]) [3, 4] (fun k0 s0 => []) [] (fun (y0 : Int) => [(3, .i y0)]) [0, 3, 4] (fun y0 => []) [] (fun (k0 : Nat) (s0 : Int) => (forN (slicesMax_int_f0 x) slicesMax_int_e0 (x.length - 1) 0 (nth x 0)) = forN (slicesMax_int_f0 x) slicesMax_int_e0 ((x.length - 1) - k0) k0 s0) (fun (y0 : Int) => (forN (slicesMax_int_f0 x) slicesMax_int_e0 (x.length - 1) 0 (nth x 0)) = .brk y0) (x.length - 1) (nth x 0) (Qf (by kernel_rfl)) rfl (fun k0 s0 hk0 hI0 => ?_) (fun k0 s0 hk0 hI0 => ?_) (fun y0 hD0 => ?_)
 ·
  refine Qg ?_
  refine sn Qc [0, 2, 3, 4, 15] [] (pl 2 x (pe 3 (Q0 (decide_eq_true (p := ((k0 + 1 : Nat) : Int) < (x.length : Int)) (by omega))) p0)) ?_
  refine ckT ?_
  refine Qo ?_
  refine Qg ?_
  refine Q6 ?_
  have hx4 : x[(k0 + 1)]? = some (nth x (k0 + 1)) := Xv (by omega)
  refine qn Qc [0, 2, 3, 4] [] (pg 3 ((k0 + 1 : Nat) : Int) hx4 p0) ?_
  refine qu Qc [(3, .i (max s0 (nth x (k0 + 1)))), (4, .i ((k0 + 2 : Nat) : Int))] [3, 4] [] [] (pe 1 (show .i (IntKind.i64.wrap (((k0 + 1 : Nat) : Int) + 1)) = .i ((k0 + 2 : Nat) : Int) from av_i ((IntWalk.i64_in _ (by omega)).trans (by omega))) p0) ?_
  exact Exists.intro _ (And.intro (Qf (by kernel_rfl)) (forN_next hk0 (rfl) hI0))
 ·
  refine Qg ?_
  refine sn Qc [0, 2, 3, 4, 15] [] (pl 2 x (pe 3 (Q0 (decide_eq_false (p := ((k0 + 1 : Nat) : Int) < (x.length : Int)) (by omega))) p0)) ?_
  refine ckF ?_
  refine Xc ?_
  exact Exists.intro _ (And.intro (Qf (by kernel_rfl)) (forN_end hk0 (rfl) hI0))
 ·
  refine sn Qc [2] [] (p0) ?_
  refine Qp ?_
  exact Ye [] (congrArg (fun z => (.i z : AV)) (show slicesMax_int x = _ from on_b hD0 (rfl)).symm)
def implMaxStratum (d : (List X1)) : Int := (bif ((!(((Q5 d)).2)) || (((((Q5 d)).1).length : Int) == (0 : Int))) then -1 else (slicesMax_int (((Q5 d)).1)))
theorem implMaxStratum_a (d : (List X1)) : ACalls Tryz.prog 147 [.h d] (.i (implMaxStratum d)) := by
 refine en Qc Tryz.func147 fun w0 F0 hG => ?_
 refine sn Qc [0, 2] [] (p0) ?_
 refine tn Qc [2, 3, 4] [] (pc 1 (implStrata_a d) p0) ?_
 refine Qg ?_
 refine Qg ?_
 refine mz [(2, .i 0), (3, .o 448 (((Q5 d)).1)), (4, .b (((Q5 d)).2))] [0] [] [] ?_
 refine jn [(16, .b ((!(((Q5 d)).2)) || (((((Q5 d)).1).length : Int) == (0 : Int))))] [4] [] [] (!(((Q5 d)).2)) (fun h1 => ?_) (fun h1 => ?_) ?_
 ·
  have h1n : (((Q5 d)).2) = false := bnot_t h1
  refine rn Qc [2, 3, 16] [] (pf 0 h1n (pe 1 (show .b (!false) = .b true from rfl) p0)) ?_
  exact ⟨rfl, Qf (by rw [h1]; first | done | kernel_rfl)⟩
 ·
  have h1n : (((Q5 d)).2) = true := Jd h1
  refine rn Qc [2, 3, 16] [] (pt 0 h1n (pe 1 (show .b (!true) = .b false from rfl) (pl 4 (((Q5 d)).1) p0))) ?_
  exact ⟨rfl, Qf (by rw [h1]; first | done | kernel_rfl)⟩
 refine ck ((!(((Q5 d)).2)) || (((((Q5 d)).1).length : Int) == (0 : Int))) (fun h2 => ?_) (fun h2 => ?_)
 ·
  refine sn Qc [2, 3] [] (p0) ?_
  refine Qp ?_
  exact Ye [] (congrArg (fun z => (.i z : AV)) (show implMaxStratum d = _ from Xm h2 (rfl)).symm)
 ·
  have h2l : ((!(((Q5 d)).2))) = false := or_l h2
  have h2ln : (((Q5 d)).2) = true := Jd h2l
  have h2r : ((((((Q5 d)).1).length : Int) == (0 : Int))) = false := or_r h2
  have h2rd := Zd h2r
  refine Qo ?_
  refine sn Qc [2] [] (pc 1 (slicesMax_int_a (((Q5 d)).1) (by first | omega | (simp_all; omega))) p0) ?_
  refine Qp ?_
  exact Ye [] (congrArg (fun z => (.i z : AV)) (show implMaxStratum d = _ from Qz h2 (rfl)).symm)
def slicesEqual_int_f0 (s2_ : (List Int)) (k0 : Nat) (a0 : Int) (_ : Unit) : Rd (Bool) (Unit) (Unit) := (bif (a0 != (nth s2_ k0)) then (.ret false) else (.next ()))
def slicesEqual_int_e0 (_ : Nat) (_ : Unit) : Unit := ()
def Zy (s1_ : (List Int)) (s2_ : (List Int)) : Bool := (bif ((s1_.length : Int) != (s2_.length : Int)) then false else (Out.on (Xg (slicesEqual_int_f0 s2_) slicesEqual_int_e0 s1_ 0 ()) (fun _ => true)))
theorem slicesEqual_int_a (s1_ : (List Int)) (s2_ : (List Int)) : ACalls Tryz.prog 149 [.h s1_, .h s2_] (.b (Zy s1_ s2_)) := by
 refine en Qc Tryz.func149 fun w0 F0 hG => ?_
 refine sn Qc [0, 1, 4] [] (p0) ?_
 refine Qg ?_
 refine tn Qc [0, 1, 4, 10] [] (pl 1 s1_ (pl 3 s2_ p0)) ?_
 refine ck ((s1_.length : Int) != (s2_.length : Int)) (fun h1 => ?_) (fun h1 => ?_)
 ·
  refine tu Qc [(4, .b false)] [] [] [] (p0) ?_
  refine Qp ?_
  exact Ye [] (congrArg (fun z => (.b z : AV)) (show Zy s1_ s2_ = _ from Xm h1 (rfl)).symm)
 ·
  have h1d := eq_of_bne h1
  refine Qo ?_
  refine Qg ?_
  refine tu Qc [(4, .b false), (12, .i (s1_.length : Int)), (13, .i 0)] [] [] [] (pl 1 s1_ p0) ?_
  refine wT 0 0 .sh s1_ (fun hw2 hl3 => ?_)
  refine blk (fun (k0 : Nat) (s0 : Unit) => [(13, .i ((k0 : Nat) : Int))]) [13] (fun k0 s0 => []) [] (fun (y0 : Unit) => []) [0, 1, 12, 13] (fun y0 => []) [] (fun (k0 : Nat) (s0 : Unit) => (Xg (slicesEqual_int_f0 s2_) slicesEqual_int_e0 s1_ 0 ()) = Xg (slicesEqual_int_f0 s2_) slicesEqual_int_e0 (List.drop k0 s1_) k0 s0) (fun (y0 : Unit) => (Xg (slicesEqual_int_f0 s2_) slicesEqual_int_e0 s1_ 0 ()) = .brk y0) s1_.length () (Qf (by kernel_rfl)) rfl (fun k0 s0 hk0 hI0 => ?_) (fun k0 s0 hk0 hI0 => ?_) (fun y0 hD0 => ?_)
  ·
   obtain ⟨a0, hx0⟩ := Xq (l := s1_) (i := k0) hk0
   refine su Qc [(14, .b true)] [] [] [] (pe 0 (Q0 (decide_eq_true (p := ((k0 : Nat) : Int) < (s1_.length : Int)) (by omega))) p0) ?_
   refine Qg ?_
   refine ckT ?_
   refine Qo ?_
   refine Qg ?_
   refine Q6 ?_
   refine sn Qc [0, 1, 4, 5, 12, 13] [] (p0) ?_
   refine wT 1 0 .sh s2_ (fun hw5 hl6 => ?_)
   have hx4 : s2_[k0]? = some (nth s2_ k0) := Xv (by omega)
   refine tN Qc Z4 [0, 1, 4, 12, 13, 24] [] (pn 2 hx0 (pn 6 hx4 p0)) ?_
   refine ck (a0 != (nth s2_ k0)) (fun h7 => ?_) (fun h7 => ?_)
   ·
    refine tu Qc [] [14] [] [] (p0) ?_
    refine Qp ?_
    have hr8 : (Xg (slicesEqual_int_f0 s2_) slicesEqual_int_e0 s1_ 0 ()) = .ret false := Zw hx0 (Xm h7 (rfl)) hI0
    exact Ye [] (congrArg (fun z => (.b z : AV)) (show Zy s1_ s2_ = _ from Qz h1 (on_r hr8)).symm)
   ·
    have h7d := eq_of_bne h7
    refine Qo ?_
    refine qu Qc [(13, .i ((k0 + 1 : Nat) : Int))] [13, 14] [] [] (pe 0 (av_i (Qy k0 (by omega))) p0) ?_
    exact Exists.intro _ (And.intro (Qf (by kernel_rfl)) (Q4 hx0 (Qz h7 (rfl)) hI0))
  ·
   refine sn Qc [0, 1, 4, 12, 13, 14] [] (pe 0 (Q0 (decide_eq_false (p := ((k0 : Nat) : Int) < (s1_.length : Int)) (by omega))) p0) ?_
   refine Qg ?_
   refine ckF ?_
   refine Xc ?_
   exact Exists.intro _ (And.intro (Qf (by kernel_rfl)) (Xr hk0 (rfl) hI0))
  ·
   refine sn Qc [4] [] (p0) ?_
   refine Qp ?_
   exact Ye [] (congrArg (fun z => (.b z : AV)) (show Zy s1_ s2_ = _ from Qz h1 (on_b hD0 (rfl))).symm)
def implevaluated_f0 (r : (List Qs)) (names : (List ByteArray)) (_ : Nat) (a0 : X1) (s0 : (List Qs)) : Rd ((List Qs) × Int × Bool) ((List Qs)) ((List Qs)) := (bif (!(Q7 names a0.1)) then (.next (s0 ++ [(a0.1, (Q9 r a0.1))])) else (.next (s0 ++ [((a0.1, []) : Qs)])))
def implevaluated_e0 (_ : Nat) (s0 : (List Qs)) : (List Qs) := s0
def implevaluated_f3 (s_ : Yl) (d : (List X1)) (names : (List ByteArray)) (k1 : Nat) (k3 : Nat) (a3 : X1) (s3 : (List Qs) × Bool) : Rd (Rd (Rd ((List Qs) × Int × Bool) ((List Qs) × Int) ((List Qs) × Int)) ((List Qs) × Int × Bool) ((List Qs) × Int)) ((List Qs) × Bool) ((List Qs) × Bool) := (bif (((nth (((Q5 d)).1) k3) != ((k1 : Nat) : Int)) || (!(Q7 names a3.1))) then (.next (s3.1, s3.2)) else (bif (!(Zy (Ym s_ a3.2 s3.1) ((nth s3.1 k3).2))) then (.next (List.set s3.1 k3 ((nth s3.1 k3).1, (Ym s_ a3.2 s3.1)), true)) else (.next (s3.1, s3.2))))
def implevaluated_e3 (_ : Nat) (s3 : (List Qs) × Bool) : (List Qs) × Bool := (s3.1, s3.2)
def implevaluated_f2 (s_ : Yl) (d : (List X1)) (names : (List ByteArray)) (k1 : Nat) (s2 : (List Qs) × Int × Bool) : Rd (Rd ((List Qs) × Int × Bool) ((List Qs) × Int) ((List Qs) × Int)) ((List Qs) × Int × Bool) ((List Qs) × Int) := (bif s2.2.2 then (Out.on (Xg (implevaluated_f3 s_ d names k1) implevaluated_e3 d 0 (s2.1, false)) (fun y3 => (.next (y3.1, IntKind.i64.wrap (s2.2.1 + 1), y3.2)))) else (.brk (s2.1, s2.2.1)))
def implevaluated_f1 (s_ : Yl) (d : (List X1)) (names : (List ByteArray)) (k1 : Nat) (s1 : (List Qs) × Int) : Rd ((List Qs) × Int × Bool) ((List Qs) × Int) ((List Qs) × Int) := (Out.on (whlD (implevaluated_f2 s_ d names k1) (List.length d * List.length s_.2.1 + 2) (s1.1, s1.2, true)) (fun y2 => (.next (y2.1, y2.2))))
def implevaluated_e1 (_ : Nat) (s1 : (List Qs) × Int) : (List Qs) × Int := (s1.1, s1.2)
def Y1 (s_ : Yl) (d : (List X1)) (r : (List Qs)) (names : (List ByteArray)) : (List Qs) × Int × Bool := (bif ((!(((Q5 d)).2)) || (!(Xf s_))) then ([], 0, false) else (Out.on (Xg (implevaluated_f0 r names) implevaluated_e0 d 0 []) (fun y0 => (Out.on (forN (implevaluated_f1 s_ d names) implevaluated_e1 (Int.toNat ((implMaxStratum d) + 1)) 0 (y0, 0)) (fun y1 => (y1.1, y1.2, true))))))
theorem max_go {B : Int} {x : List Int} (hx : ∀ a, a ∈ x → a ≤ B) (hB : 0 ≤ B) : ∀ (n k : Nat) (s : Int), s ≤ B → ∃ t, forN (slicesMax_int_f0 x) slicesMax_int_e0 n k s = .brk t ∧ t ≤ B
  | 0, k, s, h => ⟨s, rfl, h⟩
  | n + 1, k, s, h => by
    obtain ⟨t, h1, h2⟩ := max_go hx hB n (k + 1) (max s (nth x (k + 1))) (by
      by_cases hk : k + 1 < x.length
      · have := hx _ (nth_mem hk); omega
      · rw [nth_out (by omega)]; omega)
    exact ⟨t, by simp only [forN, slicesMax_int_f0]; exact h1, h2⟩
theorem strata_factsI {d : List X1} (h : ((Q5 d)).2 = true) : List.length ((Q5 d)).1 = List.length d ∧ List.length d ≤ 5 ∧ implMaxStratum d ≤ 5 := by
 obtain ⟨h1, h2, h3⟩ := strata_small h
 refine ⟨h1, h2, ?_⟩
 unfold implMaxStratum
 rw [h]
 simp only [Bool.not_true, Bool.false_or]
 cases hl : (((((Q5 d)).1).length : Int) == (0 : Int)) with
 | true => simp only [cond_true]; omega
 | false =>
  simp only [cond_false]
  have hp : 0 < (((Q5 d)).1).length := by have := Zd hl; omega
  unfold slicesMax_int
  obtain ⟨t, e, ht⟩ := max_go (B := 5) (x := ((Q5 d)).1) (fun a ha => (h3 a ha).2) (by omega) ((((Q5 d)).1).length - 1) 0 (nth ((Q5 d)).1 0) (h3 _ (nth_mem hp)).2
  rw [e]; exact ht
theorem eqI_go (b : List Int) : ∀ (l : List Int) (k : Nat), l.length = (b.drop k).length → Out.on (Xg (slicesEqual_int_f0 b) slicesEqual_int_e0 l k ()) (fun _ => true) = decide (l = b.drop k)
  | [], k, h => by
    have : b.drop k = [] := List.eq_nil_of_length_eq_zero (by rw [← h]; rfl)
    rw [this]; rfl
  | a :: l, k, h => by
    have hk : k < b.length := by simp only [List.length_cons, List.length_drop] at h; omega
    have hd : b.drop k = nth b k :: b.drop (k + 1) := by
      rw [List.drop_eq_getElem_cons hk, show nth b k = b[k] by simp [nth, List.getD, hk]]
    rw [hd] at h ⊢
    simp only [Xg, slicesEqual_int_f0]
    by_cases e : a = nth b k
    · rw [show (a != nth b k) = false by simp [e], cond_false, eqI_go b l (k + 1) (by simpa using h)]
      simp [e]
    · rw [show (a != nth b k) = true by simp [e], cond_true]
      simp [e, Out.on]
theorem eqI_eq (a b : List Int) (h : a.length = b.length) : Zy a b = decide (a = b) := by
 unfold Zy
 rw [show ((a.length : Int) != (b.length : Int)) = false by simp [h], cond_false, eqI_go b a 0 (by simpa using h), List.drop_zero]
theorem eqI_dec (a b : List Int) : Zy a b = decide (a = b) := by
  by_cases h : a.length = b.length
  · exact eqI_eq a b h
  · have hb : ((a.length : Int) != (b.length : Int)) = true := by simpa using fun e : (a.length : Int) = (b.length : Int) => h (by omega)
    unfold Zy
    rw [hb, decide_eq_false (fun e => h (congrArg List.length e))]
    rfl
def onD (d : List X1) (names : List ByteArray) (j : Nat) : Bool := Q7 names (nth d j).1
theorem evaluated_step (s_ : Yl) (d : List X1) (names : List ByteArray) (k1 : Nat) : StepE s_ d (Q5 d).1 (onD d names) (k1 : Int) (implevaluated_f3 s_ d names k1) := by
 intro k a o c hk
 have ha : nth d k = a := nth_of hk
 unfold implevaluated_f3 actD onD
 rw [ha, eqI_dec]
 simp only [bne]
 cases (nth (Q5 d).1 k == (k1 : Int)) <;> cases Q7 names a.1 <;> rfl
section
variable {s_ : Yl} {d : List X1} {names : List ByteArray} {k1 : Nat} {o : List Qs} {p : Int}
theorem evaluated_run (hS : ((Q5 d)).2 = true) (h : EvS d ((Q5 d)).1 (onD d names) s_.2.1 (k1 : Int) o) : ∃ o' p', whl (implevaluated_f2 s_ d names k1) (List.length d * List.length s_.2.1 + 2) (o, p, true) = some (.brk (o', p')) ∧ EvS d ((Q5 d)).1 (onD d names) s_.2.1 ((k1 : Int) + 1) o' :=
 ev_run (f := implevaluated_f3 s_ d names k1) (e := implevaluated_e3) (evaluated_step s_ d names k1) (fun _ _ => rfl) (fun _ => rfl) (Prod.ext rfl hS) h p
theorem evaluated_w (hS : ((Q5 d)).2 = true) (h : EvS d ((Q5 d)).1 (onD d names) s_.2.1 (((k1 : Nat)) : Int) o) : (whl (implevaluated_f2 s_ d names k1) (List.length d * List.length s_.2.1 + 2) (o, p, true)).isSome = true := by
 obtain ⟨o', p', h1, _⟩ := evaluated_run (p := p) hS h
 rw [h1]; rfl
theorem evaluated_next {y : List Qs × Int} (hS : ((Q5 d)).2 = true) (h : EvS d ((Q5 d)).1 (onD d names) s_.2.1 (((k1 : Nat)) : Int) o) (hy : whlD (implevaluated_f2 s_ d names k1) (List.length d * List.length s_.2.1 + 2) (o, p, true) = .brk y) : EvS d ((Q5 d)).1 (onD d names) s_.2.1 ((((k1 + 1) : Nat)) : Int) y.1 := by
 obtain ⟨o', p', h1, h2⟩ := evaluated_run (p := p) hS h
 unfold whlD at hy
 rw [h1] at hy
 have e : (o', p') = y := by simpa using hy
 rw [← e, Int.natCast_add]; exact h2
def startG (r : List Qs) (names : List ByteArray) (a : X1) : List Int := bif (!(Q7 names a.1)) then (Q9 r a.1) else []
theorem evaluated_start {r : List Qs} (hy : Xg (implevaluated_f0 r names) implevaluated_e0 d 0 [] = .brk o) : EvS d ((Q5 d)).1 (onD d names) s_.2.1 (((0 : Nat)) : Int) o := by
 obtain ⟨h1, h2⟩ := ev_start (L := ((Q5 d)).1) (on := onD d names) (fs := s_.2.1) (g := startG r names) (f := implevaluated_f0 r names) (e := implevaluated_e0) (d := d) (fun k a s => by
  unfold implevaluated_f0 startG
  cases Q7 names a.1 <;> rfl) (fun j _ hj => by unfold onD at hj; unfold startG; rw [hj]; rfl)
 rw [h1] at hy
 have e : (d.map fun a => ((a.1, startG r names a) : Qs)) = o := Out.brk.inj hy
 rw [← e]; exact h2
end
theorem implevaluated_a (s_ : Yl) (d : (List X1)) (r : (List Qs)) (names : (List ByteArray)) : ACalls Tryz.prog 98 [.a [.h s_.1, .h s_.2.1, .i s_.2.2], .h d, .h r, .h names] (.tup [(false, [.o 0 (((Y1 s_ d r names)).1)]), (false, [.i (((Y1 s_ d r names)).2.1)]), (false, [.b (((Y1 s_ d r names)).2.2)])]) := by
 refine en Qc Tryz.func98 fun w0 F0 hG => ?_
 refine sn Qc [1, 2, 3, 4, 8, 9, 10] [4] (p0) ?_
 refine tn Qc [1, 2, 3, 4, 8, 9, 10, 11, 12] [4] (pc 1 (implStrata_a d) p0) ?_
 refine Qg ?_
 refine Qg ?_
 refine mz [(4, .p 4 0), (8, .e 0), (9, .i 0), (10, .b false), (11, .o 1600 (((Q5 d)).1)), (12, .b (((Q5 d)).2))] [0] [(4, [.h s_.1, .h s_.2.1, .i s_.2.2])] [] ?_
 refine jn [(34, .b ((!(((Q5 d)).2)) || (!(Xf s_))))] [12] [] [] (!(((Q5 d)).2)) (fun h1 => ?_) (fun h1 => ?_) ?_
 ·
  have h1n : (((Q5 d)).2) = false := bnot_t h1
  refine ru Qc [(34, .b true)] [12] [] [] (pf 0 h1n (pe 1 (show .b (!false) = .b true from rfl) p0)) ?_
  exact ⟨rfl, Qf (by rw [h1]; first | done | kernel_rfl)⟩
 ·
  have h1n : (((Q5 d)).2) = true := Jd h1
  have h1nsf := strata_factsI h1n
  refine rn Qc [1, 2, 3, 4, 8, 9, 10, 11, 34] [4] (pt 0 h1n (pe 1 (show .b (!true) = .b false from rfl) (pc 4 (implIsValidStore_a s_) p0))) ?_
  exact ⟨rfl, Qf (by rw [h1]; first | done | kernel_rfl)⟩
 refine ck ((!(((Q5 d)).2)) || (!(Xf s_))) (fun h2 => ?_) (fun h2 => ?_)
 ·
  refine su Qc [] [34] [] [] (p0) ?_
  refine opn [(false, 8, 0, true, 384000, 2)] ?_
  refine Qp ?_
  exact Ye [] (congrArg (fun z => (.tup [(false, [.o 0 z.1]), (false, [.i z.2.1]), (false, [.b z.2.2])] : AV)) (show Y1 s_ d r names = _ from Xm h2 (rfl)).symm)
 ·
  have h2l : ((!(((Q5 d)).2))) = false := or_l h2
  have h2ln : (((Q5 d)).2) = true := Jd h2l
  have h2lnsf := strata_factsI h2ln
  have h2r : ((!(Xf s_))) = false := or_r h2
  have h2rn : (Xf s_) = true := Jd h2r
  refine Qo ?_
  refine sn Qc [1, 2, 3, 4, 8, 9, 10, 11, 13] [4] (p0) ?_
  refine Qg ?_
  refine tn Qc [1, 2, 3, 4, 8, 9, 10, 11, 13, 36, 37, 38] [4] (pl 1 d p0) ?_
  refine mz [(13, .one (.slc (.own true 2240) 2 [])), (36, .h d), (37, .i (d.length : Int)), (38, .i 0)] [34] [] [] ?_
  refine wT 1 0 .sh d (fun hw3 hl4 => ?_)
  refine blk (fun (k0 : Nat) (s0 : (List Qs)) => [(13, .o 147208 s0), (38, .i ((k0 : Nat) : Int))]) [13, 38] (fun k0 s0 => []) [] (fun (y0 : (List Qs)) => [(13, .o 147358 y0)]) [2, 13, 36, 37, 38] (fun y0 => []) [] (fun (k0 : Nat) (s0 : (List Qs)) => (Xg (implevaluated_f0 r names) implevaluated_e0 d 0 []) = Xg (implevaluated_f0 r names) implevaluated_e0 (List.drop k0 d) k0 s0 ∧ List.length s0 ≤ k0) (fun (y0 : (List Qs)) => (Xg (implevaluated_f0 r names) implevaluated_e0 d 0 []) = .brk y0) d.length [] (X2 [(2240, 147208)] (by kernel_rfl)) ⟨rfl, (by simp)⟩ (fun k0 s0 hk0 hI0 => ?_) (fun k0 s0 hk0 hI0 => ?_) (fun y0 hD0 => ?_)
  ·
   have hA0_0 := hI0.2
   obtain ⟨a0, hx0⟩ := Xq (l := d) (i := k0) hk0
   refine su Qc [(39, .b true)] [] [] [] (pe 0 (Q0 (decide_eq_true (p := ((k0 : Nat) : Int) < (d.length : Int)) (by omega))) p0) ?_
   refine Qg ?_
   refine ckT ?_
   refine Qo ?_
   refine Qg ?_
   refine Q6 ?_
   refine su Qc [(15, .p 15 0)] [39] [(15, [.s a0.1, .h a0.2])] [] (pn 0 hx0 p0) ?_
   refine su Qc [(16, .p 16 0)] [] [(16, [.s a0.1, .e 1])] [] (p0) ?_
   refine Qg ?_
   refine su Qc [(49, .b (!(Q7 names a0.1)))] [] [] [] (pc 3 (slicesContains_string_a names a0.1) p0) ?_
   refine ck (!(Q7 names a0.1)) (fun h5 => ?_) (fun h5 => ?_)
   ·
    have h5n : (Q7 names a0.1) = false := bnot_t h5
    refine rn Qc [1, 2, 3, 4, 8, 9, 10, 11, 13, 16, 36, 37, 38] [4, 16] (pc 3 (implResultIDs_a r a0.1) p0) ?_
    refine wT 13 0 (.own true 147208) s0 (fun hw6 hl7 => ?_)
    refine qu Qc [(13, .one (.slc (.own true 3712) 2 ((eL s0) ++ [[.s a0.1, .h (Q9 r a0.1)]])))] [13, 15, 16, 49] [] [15, 16] (pa s0 [(a0.1, (Q9 r a0.1))] p0) ?_
    refine eqn [(13, .o 3712 (s0 ++ [(a0.1, (Q9 r a0.1))]))] [13] [] [] (by rw [show ((eL s0) ++ [[.s a0.1, .h (Q9 r a0.1)]]) = (eL (s0 ++ [(a0.1, (Q9 r a0.1))])) from app_eL (rfl) (rfl)]; first | done | kernel_rfl) ?_
    refine ru Qc [(38, .i ((k0 + 1 : Nat) : Int))] [38] [] [] (pe 0 (av_i (Qy k0 (by omega))) p0) ?_
    exact Exists.intro (s0 ++ [(a0.1, (Q9 r a0.1))]) (And.intro (X2 [(3712, 147208)] (by kernel_rfl)) ⟨Q4 hx0 (Xm h5 (rfl)) hI0.1, by first | omega | (simp; omega) | simp⟩)
   ·
    have h5n : (Q7 names a0.1) = true := Jd h5
    refine Qo ?_
    refine wT 13 0 (.own true 147208) s0 (fun hw8 hl9 => ?_)
    refine ru Qc [(13, .one (.slc (.own true 3712) 2 ((eL s0) ++ [[.s a0.1, .slc 1 []]])))] [13, 15, 16, 49] [] [15, 16] (pa s0 [((a0.1, []) : Qs)] p0) ?_
    refine eqn [(13, .o 3712 (s0 ++ [((a0.1, []) : Qs)]))] [13] [] [] (by rw [show ((eL s0) ++ [[.s a0.1, .slc 1 []]]) = (eL (s0 ++ [((a0.1, []) : Qs)])) from app_eL (rfl) (rfl)]; first | done | kernel_rfl) ?_
    refine ru Qc [(38, .i ((k0 + 1 : Nat) : Int))] [38] [] [] (pe 0 (av_i (Qy k0 (by omega))) p0) ?_
    exact Exists.intro (s0 ++ [((a0.1, []) : Qs)]) (And.intro (X2 [(3712, 147208)] (by kernel_rfl)) ⟨Q4 hx0 (Qz h5 (rfl)) hI0.1, by first | omega | (simp; omega) | simp⟩)
  ·
   have hA0_0 := hI0.2
   refine su Qc [(39, .b false)] [] [] [] (pe 0 (Q0 (decide_eq_false (p := ((k0 : Nat) : Int) < (d.length : Int)) (by omega))) p0) ?_
   refine Qg ?_
   refine ckF ?_
   refine Xc ?_
   exact Exists.intro _ (And.intro (X2 [(147208, 147358)] (by kernel_rfl)) (Xr hk0 (rfl) hI0.1))
  ·
   refine su Qc [(17, .i 0)] [] [] [] (p0) ?_
   refine Qg ?_
   refine su Qc [(18, .i 0)] [] [] [] (p0) ?_
   refine blk (fun (k1 : Nat) (s1 : (List Qs) × Int) => [(13, .o 147358 s1.1), (17, .i s1.2), (18, .i ((k1 : Nat) : Int))]) [13, 17, 18] (fun k1 s1 => []) [] (fun (y1 : (List Qs) × Int) => [(13, .o 147358 y1.1), (17, .i y1.2)]) [1, 3, 4, 11, 13, 17, 18] (fun y1 => []) [4] (fun (k1 : Nat) (s1 : (List Qs) × Int) => (forN (implevaluated_f1 s_ d names) implevaluated_e1 (Int.toNat ((implMaxStratum d) + 1)) 0 (y0, 0)) = forN (implevaluated_f1 s_ d names) implevaluated_e1 ((Int.toNat ((implMaxStratum d) + 1)) - k1) k1 s1 ∧ EvS d ((Q5 d)).1 (onD d names) s_.2.1 (((k1 : Nat)) : Int) s1.1 ∧ List.length s1.1 = List.length d) (fun (y1 : (List Qs) × Int) => (forN (implevaluated_f1 s_ d names) implevaluated_e1 (Int.toNat ((implMaxStratum d) + 1)) 0 (y0, 0)) = .brk y1) (Int.toNat ((implMaxStratum d) + 1)) (y0, 0) (Qf (by kernel_rfl)) ⟨rfl, (by first | exact evaluated_start hD0 | exact evaluated_start hD0.1 | exact evS_len (fs := s_.2.1) (evaluated_start hD0) | exact evS_len (fs := s_.2.1) (evaluated_start hD0.1)), (by first | exact evaluated_start hD0 | exact evaluated_start hD0.1 | exact evS_len (fs := s_.2.1) (evaluated_start hD0) | exact evS_len (fs := s_.2.1) (evaluated_start hD0.1))⟩ (fun k1 s1 hk1 hI1 => ?_) (fun k1 s1 hk1 hI1 => ?_) (fun y1 hD1 => ?_)
   ·
    have hA1_0 := hI1.2.1
    have hA1_1 := hI1.2.2
    refine Qg ?_
    refine su Qc [(63, .b true)] [] [] [] (pc 2 (implMaxStratum_a d) (pe 3 (Q0 (decide_eq_true (p := ((k1 : Nat) : Int) ≤ (implMaxStratum d)) (by omega))) p0)) ?_
    refine ckT ?_
    refine Qo ?_
    refine Qg ?_
    refine Q6 ?_
    refine su Qc [(19, .b true)] [63] [] [] (p0) ?_
    refine blw (fun (s2 : (List Qs) × Int × Bool) => [(13, .o 147358 s2.1), (17, .i s2.2.1), (19, .b s2.2.2)]) [13, 17, 19] (fun s2 => []) [] (fun (y2 : (List Qs) × Int) => [(13, .o 147358 y2.1), (17, .i y2.2)]) [13, 17, 19] (fun y2 => []) [] (fun (k2 : Nat) (s2 : (List Qs) × Int × Bool) => whl (implevaluated_f2 s_ d names k1) k2 s2 = some (whlD (implevaluated_f2 s_ d names k1) (List.length d * List.length s_.2.1 + 2) (s1.1, s1.2, true)) ∧ List.length s2.1 = List.length d) (fun (y2 : (List Qs) × Int) => (whlD (implevaluated_f2 s_ d names k1) (List.length d * List.length s_.2.1 + 2) (s1.1, s1.2, true)) = .brk y2) (List.length d * List.length s_.2.1 + 2) (s1.1, s1.2, true) (Qf (by kernel_rfl)) ⟨whl_some (evaluated_w (by assumption) (by assumption)), (by assumption)⟩ (fun _ h => whl_zero h.1) (fun k2 s2 hI2 => ?_) (fun y2 hD2 => ?_)
    ·
     have hA2_0 := hI2.2
     refine Qg ?_
     refine su Qc [(66, .b s2.2.2)] [] [] [] (p0) ?_
     refine ck s2.2.2 (fun h10 => ?_) (fun h10 => ?_)
     ·
      refine Qo ?_
      refine Q6 ?_
      refine su Qc [(19, .b false)] [19, 66] [] [] (p0) ?_
      refine sn Qc [1, 3, 4, 8, 9, 10, 11, 13, 17, 18, 19] [4] (p0) ?_
      refine tn Qc [1, 3, 4, 8, 9, 10, 11, 13, 17, 18, 19, 69, 70, 71] [4] (pl 1 d p0) ?_
      refine mz [(17, .i (IntKind.i64.wrap (s2.2.1 + 1))), (69, .h d), (70, .i (d.length : Int)), (71, .i 0)] [17] [] [] ?_
      refine blk (fun (k3 : Nat) (s3 : (List Qs) × Bool) => [(13, .o 147358 s3.1), (19, .b s3.2), (71, .i ((k3 : Nat) : Int))]) [13, 19, 71] (fun k3 s3 => []) [] (fun (y3 : (List Qs) × Bool) => [(13, .o 147358 y3.1), (19, .b y3.2)]) [13, 19, 69, 70, 71] (fun y3 => []) [] (fun (k3 : Nat) (s3 : (List Qs) × Bool) => (Xg (implevaluated_f3 s_ d names k1) implevaluated_e3 d 0 (s2.1, false)) = Xg (implevaluated_f3 s_ d names k1) implevaluated_e3 (List.drop k3 d) k3 s3 ∧ List.length s3.1 = List.length s2.1) (fun (y3 : (List Qs) × Bool) => (Xg (implevaluated_f3 s_ d names k1) implevaluated_e3 d 0 (s2.1, false)) = .brk y3 ∧ List.length y3.1 = List.length s2.1) d.length (s2.1, false) (Qf (by kernel_rfl)) ⟨rfl, (by simp)⟩ (fun k3 s3 hk3 hI3 => ?_) (fun k3 s3 hk3 hI3 => ?_) (fun y3 hD3 => ?_)
      ·
       have hA3_0 := hI3.2
       obtain ⟨a3, hx3⟩ := Xq (l := d) (i := k3) hk3
       refine su Qc [(72, .b true)] [] [] [] (pe 0 (Q0 (decide_eq_true (p := ((k3 : Nat) : Int) < (d.length : Int)) (by omega))) p0) ?_
       refine Qg ?_
       refine ckT ?_
       refine Qo ?_
       refine Qg ?_
       refine Q6 ?_
       refine sn Qc [1, 3, 4, 8, 9, 10, 11, 13, 17, 18, 19, 20, 21, 69, 70, 71] [4, 21] (pn 1 hx3 p0) ?_
       refine Qg ?_
       refine Qg ?_
       refine mz [(20, .i ((k3 : Nat) : Int)), (21, .p 21 0)] [72] [(21, [.s a3.1, .h a3.2])] [] ?_
       refine jn [(88, .b (((nth (((Q5 d)).1) k3) != ((k1 : Nat) : Int)) || (!(Q7 names a3.1))))] [] [] [] ((nth (((Q5 d)).1) k3) != ((k1 : Nat) : Int)) (fun h11 => ?_) (fun h11 => ?_) ?_
       ·
        have h11d := ne_of_bne h11
        refine wT 11 0 (.own true 1600) (((Q5 d)).1) (fun hw13 hl14 => ?_)
        have hx12 : (((Q5 d)).1)[k3]? = some (nth (((Q5 d)).1) k3) := Xv (by omega)
        refine ru Qc [(88, .b true)] [] [] [] (pN 2 hx12 (pt 5 h11 p0)) ?_
        exact ⟨rfl, Qf (by rw [h11]; first | done | kernel_rfl)⟩
       ·
        have h11d := eq_of_bne h11
        refine wT 11 0 (.own true 1600) (((Q5 d)).1) (fun hw16 hl17 => ?_)
        have hx15 : (((Q5 d)).1)[k3]? = some (nth (((Q5 d)).1) k3) := Xv (by omega)
        refine ru Qc [(88, .b (!(Q7 names a3.1)))] [] [] [] (pN 2 hx15 (pf 5 h11 (pc 10 (slicesContains_string_a names a3.1) p0))) ?_
        exact ⟨rfl, Qf (by rw [h11]; first | done | kernel_rfl)⟩
       refine ck (((nth (((Q5 d)).1) k3) != ((k1 : Nat) : Int)) || (!(Q7 names a3.1))) (fun h18 => ?_) (fun h18 => ?_)
       ·
        refine Xc ?_
        refine rn Qc [1, 3, 4, 8, 9, 10, 11, 13, 17, 18, 19, 69, 70, 71] [4] (pe 0 (av_i (Qy k3 (by omega))) p0) ?_
        exact Exists.intro (s3.1, s3.2) (And.intro (Qf (by kernel_rfl)) ⟨Q4 hx3 (Xm h18 (rfl)) hI3.1, (by first | omega | (simp only [List.length_set]; omega))⟩)
       ·
        have h18l : (((nth (((Q5 d)).1) k3) != ((k1 : Nat) : Int))) = false := or_l h18
        have h18ld := eq_of_bne h18l
        have h18r : ((!(Q7 names a3.1))) = false := or_r h18
        have h18rn : (Q7 names a3.1) = true := Jd h18r
        refine Qo ?_
        refine su Qc [(22, .o 5952 (Ym s_ a3.2 s3.1))] [21, 88] [] [21] (pc 4 (implSelectFiles_a s_ a3.2 s3.1) p0) ?_
        refine wT 13 0 (.own true 147358) s3.1 (fun hw20 hl21 => ?_)
        have hx19 : s3.1[k3]? = some (nth s3.1 k3) := Xv (by omega)
        refine sn Qc [1, 3, 4, 8, 9, 10, 11, 13, 17, 18, 19, 20, 22, 69, 70, 71, 101] [4] (pN 3 hx19 (pc 6 (slicesEqual_int_a (Ym s_ a3.2 s3.1) ((nth s3.1 k3).2)) p0)) ?_
        refine ck (!(Zy (Ym s_ a3.2 s3.1) ((nth s3.1 k3).2))) (fun h22 => ?_) (fun h22 => ?_)
        ·
         have h22n : (Zy (Ym s_ a3.2 s3.1) ((nth s3.1 k3).2)) = false := bnot_t h22
         refine tu Qc [(13, .one (.slc (.own true 147358) 2 (setRow (eL s3.1) k3 1 [.h (Ym s_ a3.2 s3.1)])))] [13, 20, 22] [] [] (pN 3 hx19 p0) ?_
         refine eqn [(13, .o 147358 (List.set s3.1 k3 ((nth s3.1 k3).1, (Ym s_ a3.2 s3.1))))] [13] [] [] (by rw [setRow_eL (y := ((nth s3.1 k3).1, (Ym s_ a3.2 s3.1))) hx19 rfl]; first | done | kernel_rfl) ?_
         refine ru Qc [(19, .b true)] [19] [] [] (p0) ?_
         refine ru Qc [(71, .i ((k3 + 1 : Nat) : Int))] [71] [] [] (pe 0 (av_i (Qy k3 (by omega))) p0) ?_
         exact Exists.intro (List.set s3.1 k3 ((nth s3.1 k3).1, (Ym s_ a3.2 s3.1)), true) (And.intro (Qf (by kernel_rfl)) ⟨Q4 hx3 (Qz h18 (Xm h22 (rfl))) hI3.1, (by first | omega | (simp only [List.length_set]; omega))⟩)
        ·
         have h22n : (Zy (Ym s_ a3.2 s3.1) ((nth s3.1 k3).2)) = true := Jd h22
         refine Qo ?_
         refine qu Qc [(71, .i ((k3 + 1 : Nat) : Int))] [20, 22, 71] [] [] (pe 0 (av_i (Qy k3 (by omega))) p0) ?_
         exact Exists.intro (s3.1, s3.2) (And.intro (Qf (by kernel_rfl)) ⟨Q4 hx3 (Qz h18 (Qz h22 (rfl))) hI3.1, (by first | omega | (simp only [List.length_set]; omega))⟩)
      ·
       have hA3_0 := hI3.2
       refine su Qc [(72, .b false)] [] [] [] (pe 0 (Q0 (decide_eq_false (p := ((k3 : Nat) : Int) < (d.length : Int)) (by omega))) p0) ?_
       refine Qg ?_
       refine ckF ?_
       refine Xc ?_
       exact Exists.intro (s3.1, s3.2) (And.intro (Qf (by kernel_rfl)) ⟨Xr hk3 (rfl) hI3.1, by first | omega | (simp only [List.length_set]; omega)⟩)
      ·
       have hD3_0 := hD3.2
       exact Exists.intro (y3.1, IntKind.i64.wrap (s2.2.1 + 1), y3.2) (And.intro (Qf (by kernel_rfl)) ⟨whl_next (Xm h10 (on_b hD3.1 (rfl))) hI2.1, (by first | omega | (simp only [List.length_set]; omega))⟩)
     ·
      refine Xc ?_
      exact Exists.intro _ (And.intro (Qf (by kernel_rfl)) (whl_brk (Qz h10 (rfl)) hI2.1))
    ·
     refine rn Qc [1, 3, 4, 8, 9, 10, 11, 13, 17, 18] [4] (pe 1 (av_i (Qy k1 (by omega))) p0) ?_
     exact Exists.intro (y2.1, y2.2) (And.intro (Qf (by kernel_rfl)) ⟨forN_next hk1 (on_b hD2 (rfl)) hI1.1, (by first | exact evaluated_next (by assumption) (by assumption) (by assumption) | exact evS_len (fs := s_.2.1) (evaluated_next (by assumption) (by assumption) (by assumption))), (by first | exact evaluated_next (by assumption) (by assumption) (by assumption) | exact evS_len (fs := s_.2.1) (evaluated_next (by assumption) (by assumption) (by assumption)))⟩)
   ·
    have hA1_0 := hI1.2.1
    have hA1_1 := hI1.2.2
    refine Qg ?_
    refine su Qc [(63, .b false)] [] [] [] (pc 2 (implMaxStratum_a d) (pe 3 (Q0 (decide_eq_false (p := ((k1 : Nat) : Int) ≤ (implMaxStratum d)) (by omega))) p0)) ?_
    refine ckF ?_
    refine Xc ?_
    exact Exists.intro _ (And.intro (Qf (by kernel_rfl)) (forN_end hk1 (rfl) hI1.1))
   ·
    refine sn Qc [8, 9, 10] [] (p0) ?_
    refine Qp ?_
    exact Ye [] (congrArg (fun z => (.tup [(false, [.o 0 z.1]), (false, [.i z.2.1]), (false, [.b z.2.2])] : AV)) (show Y1 s_ d r names = _ from Qz h2 (on_b hD0 (on_b hD1 (rfl)))).symm)
def Z3 (s_ : Yl) (d : (List X1)) : (List Qs) × Bool := (((Y1 s_ d [] (implDirNames d))).1, ((Y1 s_ d [] (implDirNames d))).2.2)
theorem implEvaluate_a (s_ : Yl) (d : (List X1)) : ACalls Tryz.prog 56 [.a [.h s_.1, .h s_.2.1, .i s_.2.2], .h d] (.tup [(false, [.o 0 (((Z3 s_ d)).1)]), (false, [.b (((Z3 s_ d)).2)])]) := by
 refine en Qc Tryz.func56 fun w0 F0 hG => ?_
 refine sn Qc [1, 2, 4, 5] [2] (p0) ?_
 refine tN Qc Z4 [4, 5, 6, 8] [] (pc 3 (implDirNames_a d) (pc 4 (acalls_args (.cons (ArgLe.rfl _) ( .cons (ArgLe.rfl _) ( .cons (ArgLe.nil 2) ( .cons (ArgLe.rfl _) (.nil))))) (implevaluated_a s_ d [] (implDirNames d))) p0)) ?_
 refine tu Qc [(4, .o 896 (((Y1 s_ d [] (implDirNames d))).1)), (5, .b (((Y1 s_ d [] (implDirNames d))).2.2))] [0, 1] [] [] (p0) ?_
 refine Qp ?_
 exact Ye [] (congrArg (fun z => (.tup [(false, [.o 0 z.1]), (false, [.b z.2])] : AV)) (show Z3 s_ d = (((Y1 s_ d [] (implDirNames d))).1, ((Y1 s_ d [] (implDirNames d))).2.2) from rfl).symm)
def specMaxStratum_f0 (_ : Nat) (a0 : Int) (s0 : Int) : Rd (Int) (Int) (Int) := (bif decide (a0 > s0) then (.next a0) else (.next s0))
def specMaxStratum_e0 (_ : Nat) (s0 : Int) : Int := s0
def specMaxStratum (d : (List X1)) : Int := (Out.on (Xg specMaxStratum_f0 specMaxStratum_e0 (((X0 d)).1) 0 (-1)) (fun y0 => y0))
theorem specMaxStratum_a (d : (List X1)) : ACalls Tryz.prog 134 [.h d] (.i (specMaxStratum d)) := by
 refine en Qc Tryz.func134 fun w0 F0 hG => ?_
 refine sn Qc [0, 2] [] (p0) ?_
 refine tn Qc [2, 3] [] (pc 1 (specStrata_a d) p0) ?_
 refine tu Qc [(2, .i 0), (3, .o 576 (((X0 d)).1)), (5, .i (-1))] [0] [] [] (p0) ?_
 refine Qg ?_
 refine sn Qc [2, 3, 5, 6] [] (p0) ?_
 refine mz [(6, .i 0)] [] [] [] ?_
 refine wT 3 0 (.own true 576) (((X0 d)).1) (fun hw1 hl2 => ?_)
 refine blk (fun (k0 : Nat) (s0 : Int) => [(5, .i s0), (6, .i ((k0 : Nat) : Int))]) [5, 6] (fun k0 s0 => []) [] (fun (y0 : Int) => [(5, .i y0)]) [3, 5, 6] (fun y0 => []) [] (fun (k0 : Nat) (s0 : Int) => (Xg specMaxStratum_f0 specMaxStratum_e0 (((X0 d)).1) 0 (-1)) = Xg specMaxStratum_f0 specMaxStratum_e0 (List.drop k0 (((X0 d)).1)) k0 s0) (fun (y0 : Int) => (Xg specMaxStratum_f0 specMaxStratum_e0 (((X0 d)).1) 0 (-1)) = .brk y0) ((((X0 d)).1).length) (-1) (Qf (by kernel_rfl)) rfl (fun k0 s0 hk0 hI0 => ?_) (fun k0 s0 hk0 hI0 => ?_) (fun y0 hD0 => ?_)
 ·
  obtain ⟨a0, hx0⟩ := Xq (l := ((X0 d)).1) (i := k0) hk0
  refine Qg ?_
  refine sn Qc [2, 3, 5, 6, 15] [] (pl 2 (((X0 d)).1) (pe 3 (Q0 (decide_eq_true (p := ((k0 : Nat) : Int) < ((((X0 d)).1).length : Int)) (by omega))) p0)) ?_
  refine ckT ?_
  refine Qo ?_
  refine Qg ?_
  refine Q6 ?_
  refine tn Qc [2, 3, 5, 6, 23] [] (pN 2 hx0 p0) ?_
  refine ck (decide (a0 > s0)) (fun h3 => ?_) (fun h3 => ?_)
  ·
   have h3d := of_decide_eq_true h3
   refine qu Qc [(5, .i a0)] [5] [] [] (pN 2 hx0 p0) ?_
   refine rn Qc [2, 3, 5, 6] [] (pe 1 (av_i (Qy k0 (by omega))) p0) ?_
   exact Exists.intro _ (And.intro (Qf (by kernel_rfl)) (Q4 hx0 (Xm h3 (rfl)) hI0))
  ·
   have h3d := of_decide_eq_false h3
   refine Qo ?_
   refine qu Qc [(6, .i ((k0 + 1 : Nat) : Int))] [6] [] [] (pe 1 (av_i (Qy k0 (by omega))) p0) ?_
   exact Exists.intro _ (And.intro (Qf (by kernel_rfl)) (Q4 hx0 (Qz h3 (rfl)) hI0))
 ·
  refine Qg ?_
  refine sn Qc [2, 3, 5, 6, 15] [] (pl 2 (((X0 d)).1) (pe 3 (Q0 (decide_eq_false (p := ((k0 : Nat) : Int) < ((((X0 d)).1).length : Int)) (by omega))) p0)) ?_
  refine ckF ?_
  refine Xc ?_
  exact Exists.intro _ (And.intro (Qf (by kernel_rfl)) (Xr hk0 (rfl) hI0))
 ·
  refine sn Qc [2] [] (p0) ?_
  refine Qp ?_
  exact Ye [] (congrArg (fun z => (.i z : AV)) (show specMaxStratum d = _ from on_b hD0 (rfl)).symm)
def specl15Run_f0 (_ : Nat) (a0 : X1) (s0 : (List Qs)) : Rd ((List Qs) × Int × Bool) ((List Qs)) ((List Qs)) := (.next (s0 ++ [((a0.1, []) : Qs)]))
def specl15Run_e0 (_ : Nat) (s0 : (List Qs)) : (List Qs) := s0
def specl15Run_f3 (s_ : Yl) (d : (List X1)) (k1 : Nat) (k3 : Nat) (a3 : X1) (s3 : (List Qs) × Bool) : Rd (Rd (Rd ((List Qs) × Int × Bool) ((List Qs) × Int) ((List Qs) × Int)) ((List Qs) × Int × Bool) ((List Qs) × Int)) ((List Qs) × Bool) ((List Qs) × Bool) := (bif ((nth (((X0 d)).1) k3) != ((k1 : Nat) : Int)) then (.next (s3.1, s3.2)) else (bif (!(specl07Ints (Zp s_ a3.2 s3.1) ((nth s3.1 k3).2))) then (.next (List.set s3.1 k3 ((nth s3.1 k3).1, (Zp s_ a3.2 s3.1)), true)) else (.next (s3.1, s3.2))))
def specl15Run_e3 (_ : Nat) (s3 : (List Qs) × Bool) : (List Qs) × Bool := (s3.1, s3.2)
def specl15Run_f2 (s_ : Yl) (d : (List X1)) (k1 : Nat) (s2 : (List Qs) × Int × Bool) : Rd (Rd ((List Qs) × Int × Bool) ((List Qs) × Int) ((List Qs) × Int)) ((List Qs) × Int × Bool) ((List Qs) × Int) := (bif s2.2.2 then (Out.on (Xg (specl15Run_f3 s_ d k1) specl15Run_e3 d 0 (s2.1, false)) (fun y3 => (.next (y3.1, IntKind.i64.wrap (s2.2.1 + 1), y3.2)))) else (.brk (s2.1, s2.2.1)))
def specl15Run_f1 (s_ : Yl) (d : (List X1)) (k1 : Nat) (s1 : (List Qs) × Int) : Rd ((List Qs) × Int × Bool) ((List Qs) × Int) ((List Qs) × Int) := (Out.on (whlD (specl15Run_f2 s_ d k1) (List.length d * List.length s_.2.1 + 2) (s1.1, s1.2, true)) (fun y2 => (.next (y2.1, y2.2))))
def specl15Run_e1 (_ : Nat) (s1 : (List Qs) × Int) : (List Qs) × Int := (s1.1, s1.2)
def specl15Run (s_ : Yl) (d : (List X1)) : (List Qs) × Int × Bool := (bif ((!(((X0 d)).2)) || (!(Zx s_))) then ([], 0, false) else (Out.on (Xg specl15Run_f0 specl15Run_e0 d 0 []) (fun y0 => (Out.on (forN (specl15Run_f1 s_ d) specl15Run_e1 (Int.toNat ((specMaxStratum d) + 1)) 0 (y0, 0)) (fun y1 => (y1.1, y1.2, true))))))
theorem maxS_go {B : Int} : ∀ (x : List Int) (k : Nat) (s : Int), (∀ a, a ∈ x → a ≤ B) → s ≤ B → ∃ t, Xg specMaxStratum_f0 specMaxStratum_e0 x k s = .brk t ∧ t ≤ B
 | [], k, s, _, h => ⟨s, rfl, h⟩
 | a :: x, k, s, hx, h => by
  simp only [Xg, specMaxStratum_f0]
  cases hc : decide (a > s) with
  | true => exact maxS_go x (k + 1) a (fun b hb => hx b (List.mem_cons_of_mem _ hb)) (hx a (List.mem_cons_self ..))
  | false => exact maxS_go x (k + 1) s (fun b hb => hx b (List.mem_cons_of_mem _ hb)) h
theorem strata_factsS {d : List X1} (h : ((X0 d)).2 = true) : List.length ((X0 d)).1 = List.length d ∧ List.length d ≤ 5 ∧ specMaxStratum d ≤ 5 := by
 have h' := h
 rw [strata_alike] at h'
 obtain ⟨h1, h2, h3⟩ := strata_small h'
 unfold specMaxStratum
 rw [strata_alike]
 obtain ⟨t, e, ht⟩ := maxS_go (B := 5) ((Q5 d)).1 0 (-1) (fun a ha => (h3 a ha).2) (by omega)
 refine ⟨h1, h2, ?_⟩
 rw [e]; exact ht
theorem l15Run_step (s_ : Yl) (d : List X1) (k1 : Nat) : StepE s_ d (Q5 d).1 (fun _ => true) (k1 : Int) (specl15Run_f3 s_ d k1) := by
 intro k a o c hk
 unfold specl15Run_f3 actD
 rw [ints_dec, strata_alike, ← select_eq]
 simp only [bne]
 cases (nth (Q5 d).1 k == (k1 : Int)) <;> rfl
section
variable {s_ : Yl} {d : List X1} {k1 : Nat} {o : List Qs} {p : Int}
theorem l15Run_run (hS : ((X0 d)).2 = true) (h : EvS d ((X0 d)).1 (fun _ => true) s_.2.1 (k1 : Int) o) : ∃ o' p', whl (specl15Run_f2 s_ d k1) (List.length d * List.length s_.2.1 + 2) (o, p, true) = some (.brk (o', p')) ∧ EvS d ((X0 d)).1 (fun _ => true) s_.2.1 ((k1 : Int) + 1) o' := by
 rw [strata_alike] at hS h ⊢
 exact ev_run (f := specl15Run_f3 s_ d k1) (e := specl15Run_e3) (l15Run_step s_ d k1) (fun _ _ => rfl) (fun _ => rfl) (Prod.ext rfl hS) h p
theorem l15Run_w (hS : ((X0 d)).2 = true) (h : EvS d ((X0 d)).1 (fun _ => true) s_.2.1 (((k1 : Nat)) : Int) o) : (whl (specl15Run_f2 s_ d k1) (List.length d * List.length s_.2.1 + 2) (o, p, true)).isSome = true := by
 obtain ⟨o', p', h1, _⟩ := l15Run_run (p := p) hS h
 rw [h1]; rfl
theorem l15Run_next {y : List Qs × Int} (hS : ((X0 d)).2 = true) (h : EvS d ((X0 d)).1 (fun _ => true) s_.2.1 (((k1 : Nat)) : Int) o) (hy : whlD (specl15Run_f2 s_ d k1) (List.length d * List.length s_.2.1 + 2) (o, p, true) = .brk y) : EvS d ((X0 d)).1 (fun _ => true) s_.2.1 ((((k1 + 1) : Nat)) : Int) y.1 := by
 obtain ⟨o', p', h1, h2⟩ := l15Run_run (p := p) hS h
 unfold whlD at hy
 rw [h1] at hy
 have e : (o', p') = y := by simpa using hy
 rw [← e, Int.natCast_add]; exact h2
theorem l15Run_start (hy : Xg specl15Run_f0 specl15Run_e0 d 0 [] = .brk o) : EvS d ((X0 d)).1 (fun _ => true) s_.2.1 (((0 : Nat)) : Int) o := by
 obtain ⟨h1, h2⟩ := ev_start (L := ((X0 d)).1) (on := fun _ => true) (fs := s_.2.1) (g := fun _ => []) (f := specl15Run_f0) (e := specl15Run_e0) (d := d) (fun k a s => rfl) (fun j _ hj => rfl)
 rw [h1] at hy
 have e : (d.map fun a => ((a.1, ([] : List Int)) : Qs)) = o := Out.brk.inj hy
 rw [← e]; exact h2
end
theorem specl15Run_a (s_ : Yl) (d : (List X1)) : ACalls Tryz.prog 84 [.a [.h s_.1, .h s_.2.1, .i s_.2.2], .h d] (.tup [(false, [.o 0 (((specl15Run s_ d)).1)]), (false, [.i (((specl15Run s_ d)).2.1)]), (false, [.b (((specl15Run s_ d)).2.2)])]) := by
 refine en Qc Tryz.func84 fun w0 F0 hG => ?_
 refine sn Qc [1, 2, 4, 5, 6] [2] (p0) ?_
 refine tn Qc [1, 2, 4, 5, 6, 7, 8] [2] (pc 1 (specStrata_a d) p0) ?_
 refine Qg ?_
 refine Qg ?_
 refine mz [(2, .p 2 0), (4, .e 0), (5, .i 0), (6, .b false), (7, .o 1152 (((X0 d)).1)), (8, .b (((X0 d)).2))] [0] [(2, [.h s_.1, .h s_.2.1, .i s_.2.2])] [] ?_
 refine jn [(27, .b ((!(((X0 d)).2)) || (!(Zx s_))))] [8] [] [] (!(((X0 d)).2)) (fun h1 => ?_) (fun h1 => ?_) ?_
 ·
  have h1n : (((X0 d)).2) = false := bnot_t h1
  refine ru Qc [(27, .b true)] [8] [] [] (pf 0 h1n (pe 1 (show .b (!false) = .b true from rfl) p0)) ?_
  exact ⟨rfl, Qf (by rw [h1]; first | done | kernel_rfl)⟩
 ·
  have h1n : (((X0 d)).2) = true := Jd h1
  have h1nsf := strata_factsS h1n
  refine rn Qc [1, 2, 4, 5, 6, 7, 27] [2] (pt 0 h1n (pe 1 (show .b (!true) = .b false from rfl) (pc 4 (specIsValidStore_a s_) p0))) ?_
  exact ⟨rfl, Qf (by rw [h1]; first | done | kernel_rfl)⟩
 refine ck ((!(((X0 d)).2)) || (!(Zx s_))) (fun h2 => ?_) (fun h2 => ?_)
 ·
  refine sn Qc [1, 2, 4, 5, 6, 7] [2] (p0) ?_
  refine Qp ?_
  exact Ye [] (congrArg (fun z => (.tup [(false, [.o 0 z.1]), (false, [.i z.2.1]), (false, [.b z.2.2])] : AV)) (show specl15Run s_ d = _ from Xm h2 (rfl)).symm)
 ·
  have h2l : ((!(((X0 d)).2))) = false := or_l h2
  have h2ln : (((X0 d)).2) = true := Jd h2l
  have h2lnsf := strata_factsS h2ln
  have h2r : ((!(Zx s_))) = false := or_r h2
  have h2rn : (Zx s_) = true := Jd h2r
  refine Qo ?_
  refine sn Qc [1, 2, 4, 5, 6, 7, 9] [2] (p0) ?_
  refine Qg ?_
  refine tn Qc [1, 2, 4, 5, 6, 7, 9, 10] [2] (p0) ?_
  refine mz [(9, .one (.slc (.own true 1856) 2 [])), (10, .i 0)] [27] [] [] ?_
  refine wT 1 0 .sh d (fun hw3 hl4 => ?_)
  refine blk (fun (k0 : Nat) (s0 : (List Qs)) => [(9, .o 147206 s0), (10, .i ((k0 : Nat) : Int))]) [9, 10] (fun k0 s0 => []) [] (fun (y0 : (List Qs)) => [(9, .o 147356 y0)]) [9, 10] (fun y0 => []) [] (fun (k0 : Nat) (s0 : (List Qs)) => (Xg specl15Run_f0 specl15Run_e0 d 0 []) = Xg specl15Run_f0 specl15Run_e0 (List.drop k0 d) k0 s0 ∧ List.length s0 ≤ k0) (fun (y0 : (List Qs)) => (Xg specl15Run_f0 specl15Run_e0 d 0 []) = .brk y0) d.length [] (X2 [(1856, 147206)] (by kernel_rfl)) ⟨rfl, (by simp)⟩ (fun k0 s0 hk0 hI0 => ?_) (fun k0 s0 hk0 hI0 => ?_) (fun y0 hD0 => ?_)
  ·
   have hA0_0 := hI0.2
   obtain ⟨a0, hx0⟩ := Xq (l := d) (i := k0) hk0
   refine Qg ?_
   refine su Qc [(33, .b true)] [] [] [] (pl 2 d (pe 3 (Q0 (decide_eq_true (p := ((k0 : Nat) : Int) < (d.length : Int)) (by omega))) p0)) ?_
   refine ckT ?_
   refine Qo ?_
   refine Qg ?_
   refine Q6 ?_
   refine wT 9 0 (.own true 147206) s0 (fun hw5 hl6 => ?_)
   refine ru Qc [(9, .one (.slc (.own true 2880) 2 ((eL s0) ++ [[.s a0.1, .slc 1 []]])))] [9, 33] [] [] (pn 3 hx0 (pa s0 [((a0.1, []) : Qs)] p0)) ?_
   refine eqn [(9, .o 2880 (s0 ++ [((a0.1, []) : Qs)]))] [9] [] [] (by rw [show ((eL s0) ++ [[.s a0.1, .slc 1 []]]) = (eL (s0 ++ [((a0.1, []) : Qs)])) from app_eL (rfl) (rfl)]; first | done | kernel_rfl) ?_
   refine rn Qc [1, 2, 4, 5, 6, 7, 9, 10] [2] (pe 1 (av_i (Qy k0 (by omega))) p0) ?_
   exact Exists.intro (s0 ++ [((a0.1, []) : Qs)]) (And.intro (X2 [(2880, 147206)] (by kernel_rfl)) ⟨Q4 hx0 (rfl) hI0.1, by first | omega | (simp; omega) | simp⟩)
  ·
   have hA0_0 := hI0.2
   refine Qg ?_
   refine su Qc [(33, .b false)] [] [] [] (pl 2 d (pe 3 (Q0 (decide_eq_false (p := ((k0 : Nat) : Int) < (d.length : Int)) (by omega))) p0)) ?_
   refine ckF ?_
   refine Xc ?_
   exact Exists.intro _ (And.intro (X2 [(147206, 147356)] (by kernel_rfl)) (Xr hk0 (rfl) hI0.1))
  ·
   refine su Qc [(11, .i 0)] [] [] [] (p0) ?_
   refine Qg ?_
   refine su Qc [(12, .i 0)] [] [] [] (p0) ?_
   refine blk (fun (k1 : Nat) (s1 : (List Qs) × Int) => [(9, .o 147356 s1.1), (11, .i s1.2), (12, .i ((k1 : Nat) : Int))]) [9, 11, 12] (fun k1 s1 => []) [] (fun (y1 : (List Qs) × Int) => [(9, .o 147356 y1.1), (11, .i y1.2)]) [1, 2, 7, 9, 11, 12] (fun y1 => []) [2] (fun (k1 : Nat) (s1 : (List Qs) × Int) => (forN (specl15Run_f1 s_ d) specl15Run_e1 (Int.toNat ((specMaxStratum d) + 1)) 0 (y0, 0)) = forN (specl15Run_f1 s_ d) specl15Run_e1 ((Int.toNat ((specMaxStratum d) + 1)) - k1) k1 s1 ∧ EvS d ((X0 d)).1 (fun _ => true) s_.2.1 (((k1 : Nat)) : Int) s1.1 ∧ List.length s1.1 = List.length d) (fun (y1 : (List Qs) × Int) => (forN (specl15Run_f1 s_ d) specl15Run_e1 (Int.toNat ((specMaxStratum d) + 1)) 0 (y0, 0)) = .brk y1) (Int.toNat ((specMaxStratum d) + 1)) (y0, 0) (Qf (by kernel_rfl)) ⟨rfl, (by first | exact l15Run_start hD0 | exact l15Run_start hD0.1 | exact evS_len (fs := s_.2.1) (l15Run_start hD0) | exact evS_len (fs := s_.2.1) (l15Run_start hD0.1)), (by first | exact l15Run_start hD0 | exact l15Run_start hD0.1 | exact evS_len (fs := s_.2.1) (l15Run_start hD0) | exact evS_len (fs := s_.2.1) (l15Run_start hD0.1))⟩ (fun k1 s1 hk1 hI1 => ?_) (fun k1 s1 hk1 hI1 => ?_) (fun y1 hD1 => ?_)
   ·
    have hA1_0 := hI1.2.1
    have hA1_1 := hI1.2.2
    refine Qg ?_
    refine su Qc [(49, .b true)] [] [] [] (pc 2 (specMaxStratum_a d) (pe 3 (Q0 (decide_eq_true (p := ((k1 : Nat) : Int) ≤ (specMaxStratum d)) (by omega))) p0)) ?_
    refine ckT ?_
    refine Qo ?_
    refine Qg ?_
    refine Q6 ?_
    refine su Qc [(13, .b true)] [49] [] [] (p0) ?_
    refine blw (fun (s2 : (List Qs) × Int × Bool) => [(9, .o 147356 s2.1), (11, .i s2.2.1), (13, .b s2.2.2)]) [9, 11, 13] (fun s2 => []) [] (fun (y2 : (List Qs) × Int) => [(9, .o 147356 y2.1), (11, .i y2.2)]) [9, 11, 13] (fun y2 => []) [] (fun (k2 : Nat) (s2 : (List Qs) × Int × Bool) => whl (specl15Run_f2 s_ d k1) k2 s2 = some (whlD (specl15Run_f2 s_ d k1) (List.length d * List.length s_.2.1 + 2) (s1.1, s1.2, true)) ∧ List.length s2.1 = List.length d) (fun (y2 : (List Qs) × Int) => (whlD (specl15Run_f2 s_ d k1) (List.length d * List.length s_.2.1 + 2) (s1.1, s1.2, true)) = .brk y2) (List.length d * List.length s_.2.1 + 2) (s1.1, s1.2, true) (Qf (by kernel_rfl)) ⟨whl_some (l15Run_w (by assumption) (by assumption)), (by assumption)⟩ (fun _ h => whl_zero h.1) (fun k2 s2 hI2 => ?_) (fun y2 hD2 => ?_)
    ·
     have hA2_0 := hI2.2
     refine Qg ?_
     refine su Qc [(52, .b s2.2.2)] [] [] [] (p0) ?_
     refine ck s2.2.2 (fun h7 => ?_) (fun h7 => ?_)
     ·
      refine Qo ?_
      refine Q6 ?_
      refine su Qc [(13, .b false)] [13, 52] [] [] (p0) ?_
      refine sn Qc [1, 2, 4, 5, 6, 7, 9, 11, 12, 13] [2] (p0) ?_
      refine tn Qc [1, 2, 4, 5, 6, 7, 9, 11, 12, 13, 14] [2] (p0) ?_
      refine mz [(11, .i (IntKind.i64.wrap (s2.2.1 + 1))), (14, .i 0)] [11] [] [] ?_
      refine blk (fun (k3 : Nat) (s3 : (List Qs) × Bool) => [(9, .o 147356 s3.1), (13, .b s3.2), (14, .i ((k3 : Nat) : Int))]) [9, 13, 14] (fun k3 s3 => []) [] (fun (y3 : (List Qs) × Bool) => [(9, .o 147356 y3.1), (13, .b y3.2)]) [9, 13, 14] (fun y3 => []) [] (fun (k3 : Nat) (s3 : (List Qs) × Bool) => (Xg (specl15Run_f3 s_ d k1) specl15Run_e3 d 0 (s2.1, false)) = Xg (specl15Run_f3 s_ d k1) specl15Run_e3 (List.drop k3 d) k3 s3 ∧ List.length s3.1 = List.length s2.1) (fun (y3 : (List Qs) × Bool) => (Xg (specl15Run_f3 s_ d k1) specl15Run_e3 d 0 (s2.1, false)) = .brk y3 ∧ List.length y3.1 = List.length s2.1) d.length (s2.1, false) (Qf (by kernel_rfl)) ⟨rfl, (by simp)⟩ (fun k3 s3 hk3 hI3 => ?_) (fun k3 s3 hk3 hI3 => ?_) (fun y3 hD3 => ?_)
      ·
       have hA3_0 := hI3.2
       obtain ⟨a3, hx3⟩ := Xq (l := d) (i := k3) hk3
       refine Qg ?_
       refine su Qc [(58, .b true)] [] [] [] (pl 2 d (pe 3 (Q0 (decide_eq_true (p := ((k3 : Nat) : Int) < (d.length : Int)) (by omega))) p0)) ?_
       refine ckT ?_
       refine Qo ?_
       refine Qg ?_
       refine Q6 ?_
       refine Qg ?_
       refine wT 7 0 (.own true 1152) (((X0 d)).1) (fun hw9 hl10 => ?_)
       have hx8 : (((X0 d)).1)[k3]? = some (nth (((X0 d)).1) k3) := Xv (by omega)
       refine sn Qc [1, 2, 4, 5, 6, 7, 9, 11, 12, 13, 14, 66] [2] (pN 2 hx8 p0) ?_
       refine ck ((nth (((X0 d)).1) k3) != ((k1 : Nat) : Int)) (fun h11 => ?_) (fun h11 => ?_)
       ·
        have h11d := ne_of_bne h11
        refine Xc ?_
        refine qn Qc [1, 2, 4, 5, 6, 7, 9, 11, 12, 13, 14] [2] (pe 1 (av_i (Qy k3 (by omega))) p0) ?_
        exact Exists.intro (s3.1, s3.2) (And.intro (Qf (by kernel_rfl)) ⟨Q4 hx3 (Xm h11 (rfl)) hI3.1, (by first | omega | (simp only [List.length_set]; omega))⟩)
       ·
        have h11d := eq_of_bne h11
        refine Qo ?_
        refine tN Qc Z4 [1, 2, 4, 5, 6, 7, 9, 11, 12, 13, 14, 15] [2] (pn 3 hx3 (pc 7 (specSelectFiles_a s_ a3.2 s3.1) p0)) ?_
        refine wT 9 0 (.own true 147356) s3.1 (fun hw13 hl14 => ?_)
        have hx12 : s3.1[k3]? = some (nth s3.1 k3) := Xv (by omega)
        refine tu Qc [(15, .o 4736 (Zp s_ a3.2 s3.1)), (82, .b (!(specl07Ints (Zp s_ a3.2 s3.1) ((nth s3.1 k3).2))))] [58] [] [] (pN 3 hx12 (pc 6 (specl07Ints_a (Zp s_ a3.2 s3.1) ((nth s3.1 k3).2)) p0)) ?_
        refine ck (!(specl07Ints (Zp s_ a3.2 s3.1) ((nth s3.1 k3).2))) (fun h15 => ?_) (fun h15 => ?_)
        ·
         have h15n : (specl07Ints (Zp s_ a3.2 s3.1) ((nth s3.1 k3).2)) = false := bnot_t h15
         refine su Qc [(9, .one (.slc (.own true 147356) 2 (setRow (eL s3.1) k3 1 [.h (Zp s_ a3.2 s3.1)])))] [9, 15, 82] [] [] (pN 3 hx12 p0) ?_
         refine eqn [(9, .o 147356 (List.set s3.1 k3 ((nth s3.1 k3).1, (Zp s_ a3.2 s3.1))))] [9] [] [] (by rw [setRow_eL (y := ((nth s3.1 k3).1, (Zp s_ a3.2 s3.1))) hx12 rfl]; first | done | kernel_rfl) ?_
         refine ru Qc [(13, .b true)] [13] [] [] (p0) ?_
         refine rn Qc [1, 2, 4, 5, 6, 7, 9, 11, 12, 13, 14] [2] (pe 1 (av_i (Qy k3 (by omega))) p0) ?_
         exact Exists.intro (List.set s3.1 k3 ((nth s3.1 k3).1, (Zp s_ a3.2 s3.1)), true) (And.intro (Qf (by kernel_rfl)) ⟨Q4 hx3 (Qz h11 (Xm h15 (rfl))) hI3.1, (by first | omega | (simp only [List.length_set]; omega))⟩)
        ·
         have h15n : (specl07Ints (Zp s_ a3.2 s3.1) ((nth s3.1 k3).2)) = true := Jd h15
         refine Qo ?_
         refine rn Qc [1, 2, 4, 5, 6, 7, 9, 11, 12, 13, 14] [2] (pe 1 (av_i (Qy k3 (by omega))) p0) ?_
         exact Exists.intro (s3.1, s3.2) (And.intro (Qf (by kernel_rfl)) ⟨Q4 hx3 (Qz h11 (Qz h15 (rfl))) hI3.1, (by first | omega | (simp only [List.length_set]; omega))⟩)
      ·
       have hA3_0 := hI3.2
       refine Qg ?_
       refine su Qc [(58, .b false)] [] [] [] (pl 2 d (pe 3 (Q0 (decide_eq_false (p := ((k3 : Nat) : Int) < (d.length : Int)) (by omega))) p0)) ?_
       refine ckF ?_
       refine Xc ?_
       exact Exists.intro (s3.1, s3.2) (And.intro (Qf (by kernel_rfl)) ⟨Xr hk3 (rfl) hI3.1, by first | omega | (simp only [List.length_set]; omega)⟩)
      ·
       have hD3_0 := hD3.2
       exact Exists.intro (y3.1, IntKind.i64.wrap (s2.2.1 + 1), y3.2) (And.intro (Qf (by kernel_rfl)) ⟨whl_next (Xm h7 (on_b hD3.1 (rfl))) hI2.1, (by first | omega | (simp only [List.length_set]; omega))⟩)
     ·
      refine Xc ?_
      exact Exists.intro _ (And.intro (Qf (by kernel_rfl)) (whl_brk (Qz h7 (rfl)) hI2.1))
    ·
     refine rn Qc [1, 2, 4, 5, 6, 7, 9, 11, 12] [2] (pe 1 (av_i (Qy k1 (by omega))) p0) ?_
     exact Exists.intro (y2.1, y2.2) (And.intro (Qf (by kernel_rfl)) ⟨forN_next hk1 (on_b hD2 (rfl)) hI1.1, (by first | exact l15Run_next (by assumption) (by assumption) (by assumption) | exact evS_len (fs := s_.2.1) (l15Run_next (by assumption) (by assumption) (by assumption))), (by first | exact l15Run_next (by assumption) (by assumption) (by assumption) | exact evS_len (fs := s_.2.1) (l15Run_next (by assumption) (by assumption) (by assumption)))⟩)
   ·
    have hA1_0 := hI1.2.1
    have hA1_1 := hI1.2.2
    refine Qg ?_
    refine su Qc [(49, .b false)] [] [] [] (pc 2 (specMaxStratum_a d) (pe 3 (Q0 (decide_eq_false (p := ((k1 : Nat) : Int) ≤ (specMaxStratum d)) (by omega))) p0)) ?_
    refine ckF ?_
    refine Xc ?_
    exact Exists.intro _ (And.intro (Qf (by kernel_rfl)) (forN_end hk1 (rfl) hI1.1))
   ·
    refine sn Qc [4, 5, 6] [] (p0) ?_
    refine Qp ?_
    exact Ye [] (congrArg (fun z => (.tup [(false, [.o 0 z.1]), (false, [.i z.2.1]), (false, [.b z.2.2])] : AV)) (show specl15Run s_ d = _ from Qz h2 (on_b hD0 (on_b hD1 (rfl)))).symm)
def specEvaluate (s_ : Yl) (d : (List X1)) : (List Qs) × Bool := (((specl15Run s_ d)).1, ((specl15Run s_ d)).2.2)
theorem specEvaluate_a (s_ : Yl) (d : (List X1)) : ACalls Tryz.prog 36 [.a [.h s_.1, .h s_.2.1, .i s_.2.2], .h d] (.tup [(false, [.o 0 (((specEvaluate s_ d)).1)]), (false, [.b (((specEvaluate s_ d)).2)])]) := by
 refine en Qc Tryz.func36 fun w0 F0 hG => ?_
 refine sn Qc [1, 2, 4, 5] [2] (p0) ?_
 refine tn Qc [4, 5, 6, 8] [] (pc 2 (specl15Run_a s_ d) p0) ?_
 refine tu Qc [(4, .o 768 (((specl15Run s_ d)).1)), (5, .b (((specl15Run s_ d)).2.2))] [0, 1] [] [] (p0) ?_
 refine Qp ?_
 exact Ye [] (congrArg (fun z => (.tup [(false, [.o 0 z.1]), (false, [.b z.2])] : AV)) (show specEvaluate s_ d = (((specl15Run s_ d)).1, ((specl15Run s_ d)).2.2) from rfl).symm)
end Go.Proofs.YtcnkkobgogmakaaGreat
namespace Go.Proofs.YtcnkkobgogmakaaGreat
open Go.RowKit
theorem contains_iff (v : ByteArray) (l : List ByteArray) : Q7 l v = true ↔ v ∈ l := by
  unfold Q7 slicesIndex_string
  have key : ∀ (l : List ByteArray) (k : Nat), (0 : Int) ≤ ((Xg (slicesIndex_string_f0 v) slicesIndex_string_e0 l k ()).on fun _ => -1) ↔ v ∈ l := by
    intro l
    induction l with
    | nil => intro k; simp [Xg, Out.on]
    | cons a l ih =>
      intro k
      simp only [Xg, slicesIndex_string_f0]
      have hab : (v.toList == a.toList) = decide (v = a) := toList_inj
      cases hc : (v.toList == a.toList) with
      | true =>
        obtain rfl : v = a := by rw [hc] at hab; exact of_decide_eq_true hab.symm
        simp [Out.on]
      | false =>
        have h : v ≠ a := by rw [hc] at hab; exact of_decide_eq_false hab.symm
        simp only [cond_false]
        refine (ih (k + 1)).trans ?_
        simp [h]
  exact decide_eq_true_iff.trans (key l 0)
theorem dirNames_eq (d : List X1) : implDirNames d = d.map (·.1) := by
  unfold implDirNames
  rw [forL_map (f := implDirNames_f0) (g := fun a : X1 => a.1) (fun _ _ _ => rfl)]
  simp [Out.on, implDirNames_e0]
theorem contains_dir {d : List X1} {i : Nat} {a : X1} (h : d[i]? = some a) : Q7 (implDirNames d) a.1 = true := by
  rw [contains_iff, dirNames_eq]
  exact List.mem_map.2 ⟨a, List.mem_of_getElem? h, rfl⟩
/-! ### the greatest stratum -/
/-! ### the evaluation -/
theorem evaluated_ok {s : Yl} {d : List X1} {names : List ByteArray} {r : List Qs} (h : (Y1 s d r names).2.2 = true) : List.length d ≤ 5 ∧ Xf s = true ∧ (Y1 s d r names).1.map (·.1) = d.map (·.1) ∧ ∀ j, j < d.length → onD d names j = true → ∃ p : Xt → Bool, (nth (Y1 s d r names).1 j).2 = sel s.2.1 (fun f => f.1) p := by
  unfold Y1 at h ⊢
  cases hc : ((!(((Q5 d)).2)) || (!(Xf s))) with
  | true => rw [hc] at h; simp at h
  | false =>
    have hs : ((Q5 d)).2 = true := Jd (or_l hc)
    have hv : Xf s = true := Jd (or_r hc)
    simp only [cond_false]
    obtain ⟨h1, h2⟩ := ev_start (L := ((Q5 d)).1) (on := onD d names) (fs := s.2.1) (g := startG r names) (f := implevaluated_f0 r names) (e := implevaluated_e0) (d := d) (fun k a s => by
      unfold implevaluated_f0 startG
      cases Q7 names a.1 <;> rfl) (fun j _ hj => by unfold onD at hj; unfold startG; rw [hj]; rfl)
    rw [h1]
    have key : ∀ (n k : Nat) (o : List Qs) (p : Int), EvS d ((Q5 d)).1 (onD d names) s.2.1 (((k : Nat)) : Int) o → ∃ o' p', forN (implevaluated_f1 s d names) implevaluated_e1 n k (o, p) = .brk (o', p') ∧ EvS d ((Q5 d)).1 (onD d names) s.2.1 (((k + n : Nat)) : Int) o' := by
      intro n
      induction n with
      | zero => intro k o p ho; exact ⟨o, p, rfl, ho⟩
      | succ n ih =>
        intro k o p ho
        obtain ⟨o1, p1, g1, g2⟩ := evaluated_run (p := p) hs ho
        obtain ⟨o2, p2, g3, g4⟩ := ih (k + 1) o1 p1 (by rw [Int.natCast_add]; exact g2)
        refine ⟨o2, p2, ?_, by rw [show k + (n + 1) = k + 1 + n by omega]; exact g4⟩
        simp only [forN]
        unfold implevaluated_f1 whlD
        rw [g1]
        exact g3
    obtain ⟨o, p, g1, g2⟩ := key (Int.toNat (implMaxStratum d + 1)) 0 _ 0 h2
    simp only [Out.on, implevaluated_e0]
    rw [g1]
    exact ⟨(strata_small hs).2.1, hv, g2.names, fun j hj hon => g2.some_ j hj hon⟩
theorem evaluate_ok {s : Yl} {d : List X1} (h : (Z3 s d).2 = true) : List.length d ≤ 5 ∧ Xf s = true ∧ (Z3 s d).1.map (·.1) = d.map (·.1) ∧ ∀ x, x ∈ (Z3 s d).1 → ∃ p : Xt → Bool, x.2 = sel s.2.1 (fun f => f.1) p := by
  unfold Z3 at h ⊢
  obtain ⟨h1, h2, h3, h4⟩ := evaluated_ok h
  refine ⟨h1, h2, h3, fun x hx => ?_⟩
  obtain ⟨i, hi⟩ := List.getElem?_of_mem hx
  have hlen : (Y1 s d [] (implDirNames d)).1.length = d.length := by have := congrArg List.length h3; simpa using this
  have hi' : i < (Y1 s d [] (implDirNames d)).1.length := (List.getElem?_eq_some_iff.1 hi).1
  have hil : i < d.length := by omega
  have := h4 i hil (by unfold onD; exact contains_dir (Xv hil))
  rw [nth_of hi] at this
  exact this
open GoE (enc wide)
def implCanRead (f : Xt) (user : Int) : Bool := ((implisUser user) && ((f.2.1 == user) || f.2.2.1))
theorem implCanRead_a (f : Xt) (user : Int) : ACalls Tryz.prog 171 [.a [.i f.1, .i f.2.1, .b f.2.2.1, .i f.2.2.2.1, .h f.2.2.2.2], .i user] (.b (implCanRead f user)) := by
 refine en Qc Tryz.func171 fun w0 F0 hG => ?_
 refine sn Qc [1, 2, 4] [2] (p0) ?_
 refine Qg ?_
 refine mz [(2, .p 2 0), (4, .b false)] [0] [(2, [.i f.1, .i f.2.1, .b f.2.2.1, .i f.2.2.2.1, .h f.2.2.2.2])] [] ?_
 refine jn [(4, .b ((implisUser user) && ((f.2.1 == user) || f.2.2.1)))] [1, 2, 4] [] [2] (implisUser user) (fun h1 => ?_) (fun h1 => ?_) ?_
 ·
  refine Xw (f.2.1 == user) (fun h2 => ?_) (fun h2 => ?_)
  ·
   refine rn Qc [4] [] (pc 1 (cb h1 (implisUser_a user)) (pt 6 h2 p0)) ?_
   exact ⟨rfl, Qf (by rw [h1, h2]; first | done | kernel_rfl)⟩
  ·
   refine rn Qc [4] [] (pc 1 (cb h1 (implisUser_a user)) (pf 6 h2 p0)) ?_
   exact ⟨rfl, Qf (by rw [h1, h2]; first | done | kernel_rfl)⟩
 ·
  refine rn Qc [4] [] (pc 1 (cb h1 (implisUser_a user)) p0) ?_
  exact ⟨rfl, Qf (by rw [h1]; first | done | kernel_rfl)⟩
 refine Qp ?_
 exact Ye [] (congrArg (fun z => (.b z : AV)) (show implCanRead f user = ((implisUser user) && ((f.2.1 == user) || f.2.2.1)) from rfl).symm)
def Qr (f : Xt) : Xt := f
theorem implcopyFile_a (f : Xt) : ACalls Tryz.prog 164 [.a [.i f.1, .i f.2.1, .b f.2.2.1, .i f.2.2.2.1, .h f.2.2.2.2]] (.a [.i ((Qr f).1), .i ((Qr f).2.1), .b ((Qr f).2.2.1), .i ((Qr f).2.2.2.1), .o 0 ((Qr f).2.2.2.2)]) := by
 refine en Qc Tryz.func164 fun w0 F0 hG => ?_
 refine sn Qc [1, 2] [1, 2] (p0) ?_
 refine tn Qc [1, 2] [1, 2] (pc 2 (cloneAttr_a f.2.2.2.2) p0) ?_
 refine tu Qc [(2, .p 2 0)] [0] [(2, [.i f.1, .i f.2.1, .b f.2.2.1, .i f.2.2.2.1, .o 320 f.2.2.2.2])] [] (p0) ?_
 refine Qp ?_
 exact Ye [] (congrArg (fun z => (.a [.i z.1, .i z.2.1, .b z.2.2.1, .i z.2.2.2.1, .o 0 z.2.2.2.2] : AV)) (show Qr f = f from rfl).symm)
def implfileAt_1 (f : Xt) (q0 : Int) : Bool := (f.1 == q0)
theorem implfileAt_1_a (f : Xt) (q0 : Int) : ACalls Tryz.prog 213 [.a [.i f.1, .i f.2.1, .b f.2.2.1, .i f.2.2.2.1, .h f.2.2.2.2], .one (.rptr .sh [.i q0])] (.b (implfileAt_1 f q0)) := by
 refine en Qc Tryz.func213 fun w0 F0 hG => ?_
 refine sn Qc [1, 2, 3] [2] (p0) ?_
 refine tn Qc [3] [] (p0) ?_
 refine Qp ?_
 exact Ye [] (congrArg (fun z => (.b z : AV)) (show implfileAt_1 f q0 = (f.1 == q0) from rfl).symm)
def X9 (c0 : Int) (k0 : Nat) (a0 : Xt) (_ : Unit) : Rd (Int) (Unit) (Unit) := (bif (implfileAt_1 a0 c0) then (.ret ((k0 : Nat) : Int)) else (.next ()))
def Yn (_ : Nat) (_ : Unit) : Unit := ()
def Zn (s_ : (List Xt)) (c0 : Int) : Int := (Out.on (Xg (X9 c0) Yn s_ 0 ()) (fun _ => -1))
theorem slicesIndexFunc_File_implfileAt_1_a (s_ : (List Xt)) (c0 : Int) : ACalls Tryz.prog 212 [.h s_, .one (.fnr 213 [[.i c0]])] (.i (Zn s_ c0)) := by
 refine en Qc Tryz.func212 fun w0 F0 hG => ?_
 refine sn Qc [0, 1, 4] [] (p0) ?_
 refine Qg ?_
 refine tn Qc [0, 1, 4, 7, 8] [] (pl 1 s_ p0) ?_
 refine mz [(4, .i 0), (7, .i (s_.length : Int)), (8, .i 0)] [] [] [] ?_
 refine wT 0 0 .sh s_ (fun hw1 hl2 => ?_)
 refine blk (fun (k0 : Nat) (s0 : Unit) => [(8, .i ((k0 : Nat) : Int))]) [8] (fun k0 s0 => []) [] (fun (y0 : Unit) => []) [0, 1, 7, 8] (fun y0 => []) [] (fun (k0 : Nat) (s0 : Unit) => (Xg (X9 c0) Yn s_ 0 ()) = Xg (X9 c0) Yn (List.drop k0 s_) k0 s0) (fun (y0 : Unit) => (Xg (X9 c0) Yn s_ 0 ()) = .brk y0) s_.length () (Qf (by kernel_rfl)) rfl (fun k0 s0 hk0 hI0 => ?_) (fun k0 s0 hk0 hI0 => ?_) (fun y0 hD0 => ?_)
 ·
  obtain ⟨a0, hx0⟩ := Xq (l := s_) (i := k0) hk0
  refine sn Qc [0, 1, 4, 7, 8, 9] [] (pe 0 (Q0 (decide_eq_true (p := ((k0 : Nat) : Int) < (s_.length : Int)) (by omega))) p0) ?_
  refine Qg ?_
  refine ckT ?_
  refine Qo ?_
  refine Qg ?_
  refine Q6 ?_
  refine tn Qc [0, 1, 4, 5, 7, 8] [] (p0) ?_
  refine tu Qc [(5, .i ((k0 : Nat) : Int)), (16, .b (implfileAt_1 a0 c0))] [] [] [] (pn 3 hx0 (pc 5 (implfileAt_1_a a0 c0) p0)) ?_
  refine ck (implfileAt_1 a0 c0) (fun h3 => ?_) (fun h3 => ?_)
  ·
   refine sn Qc [0, 1, 4, 7, 8] [] (p0) ?_
   refine Qp ?_
   have hr4 : (Xg (X9 c0) Yn s_ 0 ()) = .ret ((k0 : Nat) : Int) := Zw hx0 (Xm h3 (rfl)) hI0
   exact Ye [] (congrArg (fun z => (.i z : AV)) (show Zn s_ c0 = _ from on_r hr4).symm)
  ·
   refine Qo ?_
   refine rn Qc [0, 1, 4, 7, 8] [] (pe 0 (av_i (Qy k0 (by omega))) p0) ?_
   exact Exists.intro _ (And.intro (Qf (by kernel_rfl)) (Q4 hx0 (Qz h3 (rfl)) hI0))
 ·
  refine sn Qc [0, 1, 4, 7, 8, 9] [] (pe 0 (Q0 (decide_eq_false (p := ((k0 : Nat) : Int) < (s_.length : Int)) (by omega))) p0) ?_
  refine Qg ?_
  refine ckF ?_
  refine Xc ?_
  exact Exists.intro _ (And.intro (Qf (by kernel_rfl)) (Xr hk0 (rfl) hI0))
 ·
  refine sn Qc [4] [] (p0) ?_
  refine Qp ?_
  exact Ye [] (congrArg (fun z => (.i z : AV)) (show Zn s_ c0 = _ from on_b hD0 (rfl)).symm)
def Y9 (s_ : Yl) (id : Int) : Int := (Zn s_.2.1 id)
theorem implfileAt_a (s_ : Yl) (id : Int) : ACalls Tryz.prog 163 [.a [.h s_.1, .h s_.2.1, .i s_.2.2], .i id] (.i (Y9 s_ id)) := by
 refine en Qc Tryz.func163 fun w0 F0 hG => ?_
 refine sn Qc [2, 3, 4] [2, 3] (p0) ?_
 refine tn Qc [4] [] (pc 3 (slicesIndexFunc_File_implfileAt_1_a s_.2.1 id) p0) ?_
 refine Qp ?_
 exact Ye [] (congrArg (fun z => (.i z : AV)) (show Y9 s_ id = (Zn s_.2.1 id) from rfl).symm)
def implVisibleStore_f0 (user : Int) (_ : Nat) (a0 : Xt) (s0 : (List Xt)) : Rd (Yl) ((List Xt)) ((List Xt)) := (bif (implCanRead a0 user) then (.next (s0 ++ [(Qr a0)])) else (.next s0))
def implVisibleStore_e0 (_ : Nat) (s0 : (List Xt)) : (List Xt) := s0
def implVisibleStore_f1 (s_ : Yl) (k1 : Nat) (_ : Xt) (s1 : (List Xt)) : Rd (Yl) ((List Xt)) ((List Xt)) := (bif decide ((Y9 (s_.1, s1, s_.2.2) ((nth s1 k1).2.2.2.1)) < (0 : Int)) then (.next (List.set s1 k1 ((nth s1 k1).1, (nth s1 k1).2.1, (nth s1 k1).2.2.1, 0, (nth s1 k1).2.2.2.2))) else (.next s1))
def implVisibleStore_e1 (_ : Nat) (s1 : (List Xt)) : (List Xt) := s1
def Qd (s_ : Yl) (user : Int) : Yl := (Out.on (Xg (implVisibleStore_f0 user) implVisibleStore_e0 s_.2.1 0 []) (fun y0 => (Out.on (Xg (implVisibleStore_f1 s_) implVisibleStore_e1 y0 0 y0) (fun y1 => (s_.1, y1, s_.2.2)))))
theorem implVisibleStore_a (s_ : Yl) (user : Int) : ACalls Tryz.prog 125 [.a [.h s_.1, .h s_.2.1, .i s_.2.2], .i user] (.a [.o 0 ((Qd s_ user).1), .o 1 ((Qd s_ user).2.1), .i ((Qd s_ user).2.2)]) := by
 refine en Qc Tryz.func125 fun w0 F0 hG => ?_
 refine sn Qc [1, 2, 4] [2, 4] (p0) ?_
 refine tN Qc Z4 [1, 2, 4, 5] [2, 4, 5] (pc 2 (cloneField_a s_.1) p0) ?_
 refine Qg ?_
 refine tu Qc [(4, .p 4 0), (5, .p 5 0), (17, .h s_.2.1), (18, .i (s_.2.1.length : Int)), (19, .i 0)] [0] [(4, [.e 2, .e 5, .i 0]), (5, [.o 768 s_.1, .e 5, .i s_.2.2])] [] (pl 2 s_.2.1 p0) ?_
 refine wT 17 0 .sh s_.2.1 (fun hw1 hl2 => ?_)
 refine blk (fun (k0 : Nat) (s0 : (List Xt)) => [(19, .i ((k0 : Nat) : Int))]) [19] (fun k0 s0 => [(5, [.o 768 s_.1, .o 147210 s0, .i s_.2.2])]) [5] (fun (y0 : (List Xt)) => []) [1, 17, 18, 19] (fun y0 => [(5, [.o 768 s_.1, .o 147360 y0, .i s_.2.2])]) [5] (fun (k0 : Nat) (s0 : (List Xt)) => (Xg (implVisibleStore_f0 user) implVisibleStore_e0 s_.2.1 0 []) = Xg (implVisibleStore_f0 user) implVisibleStore_e0 (List.drop k0 s_.2.1) k0 s0 ∧ List.length s0 ≤ k0) (fun (y0 : (List Xt)) => (Xg (implVisibleStore_f0 user) implVisibleStore_e0 s_.2.1 0 []) = .brk y0) s_.2.1.length [] (weak_gf [(true, 5, 1, true, 320008, 5)] [] [] [(320008, 147210)] (by kernel_rfl)) ⟨rfl, (by simp)⟩ (fun k0 s0 hk0 hI0 => ?_) (fun k0 s0 hk0 hI0 => ?_) (fun y0 hD0 => ?_)
 ·
  have hA0_0 := hI0.2
  obtain ⟨a0, hx0⟩ := Xq (l := s_.2.1) (i := k0) hk0
  refine su Qc [(20, .b true)] [] [] [] (pe 0 (Q0 (decide_eq_true (p := ((k0 : Nat) : Int) < (s_.2.1.length : Int)) (by omega))) p0) ?_
  refine Qg ?_
  refine ckT ?_
  refine Qo ?_
  refine Qg ?_
  refine Q6 ?_
  refine sn Qc [1, 4, 5, 7, 17, 18, 19] [4, 5, 7] (pn 0 hx0 p0) ?_
  refine tn Qc [1, 4, 5, 7, 17, 18, 19, 25] [4, 5, 7] (pc 2 (implCanRead_a a0 user) p0) ?_
  refine ck (implCanRead a0 user) (fun h3 => ?_) (fun h3 => ?_)
  ·
   refine wB 5 1 (.own true 147210) s0 (fun hw4 hl5 => ?_)
   refine qU Qc Z4 [] [20] [(5, [.o 768 s_.1, .slc (.own true 1984) 5 ((eL s0) ++ [[.i ((Qr a0).1), .i ((Qr a0).2.1), .b ((Qr a0).2.2.1), .i ((Qr a0).2.2.2.1), .h ((Qr a0).2.2.2.2)]]), .i s_.2.2])] [5] (pc 3 (implcopyFile_a a0) (pa s0 [(Qr a0)] p0)) ?_
   refine eqn [] [] [(5, [.o 768 s_.1, .o 1984 (s0 ++ [(Qr a0)]), .i s_.2.2])] [5] (by rw [show ((eL s0) ++ [[.i ((Qr a0).1), .i ((Qr a0).2.1), .b ((Qr a0).2.2.1), .i ((Qr a0).2.2.2.1), .h ((Qr a0).2.2.2.2)]]) = (eL (s0 ++ [(Qr a0)])) from app_eL (rfl) (rfl)]; first | done | kernel_rfl) ?_
   refine rn Qc [1, 4, 5, 17, 18, 19] [4, 5] (pe 0 (av_i (Qy k0 (by omega))) p0) ?_
   exact Exists.intro (s0 ++ [(Qr a0)]) (And.intro (X2 [(1984, 147210)] (by kernel_rfl)) ⟨Q4 hx0 (Xm h3 (rfl)) hI0.1, by first | omega | (simp; omega) | simp⟩)
  ·
   refine Qo ?_
   refine qu Qc [(19, .i ((k0 + 1 : Nat) : Int))] [19, 20] [] [] (pe 0 (av_i (Qy k0 (by omega))) p0) ?_
   exact Exists.intro s0 (And.intro (Qf (by kernel_rfl)) ⟨Q4 hx0 (Qz h3 (rfl)) hI0.1, by first | omega | (simp; omega) | simp⟩)
 ·
  have hA0_0 := hI0.2
  refine su Qc [(20, .b false)] [] [] [] (pe 0 (Q0 (decide_eq_false (p := ((k0 : Nat) : Int) < (s_.2.1.length : Int)) (by omega))) p0) ?_
  refine Qg ?_
  refine ckF ?_
  refine Xc ?_
  exact Exists.intro _ (And.intro (X2 [(147210, 147360)] (by kernel_rfl)) (Xr hk0 (rfl) hI0.1))
 ·
  refine Qg ?_
  refine sn Qc [4, 5, 35, 36, 37] [4, 5] (pl 2 y0 p0) ?_
  refine mz [(35, .o 147360 y0), (36, .i (y0.length : Int)), (37, .i 0)] [] [] [] ?_
  refine wT 35 0 (.own true 147360) y0 (fun hw6 hl7 => ?_)
  refine blk (fun (k1 : Nat) (s1 : (List Xt)) => [(35, .o 147360 s1), (37, .i ((k1 : Nat) : Int))]) [35, 37] (fun k1 s1 => [(5, [.o 768 s_.1, .o 147360 s1, .i s_.2.2])]) [5] (fun (y1 : (List Xt)) => []) [35, 36, 37] (fun y1 => [(5, [.o 768 s_.1, .o 147360 y1, .i s_.2.2])]) [5] (fun (k1 : Nat) (s1 : (List Xt)) => (Xg (implVisibleStore_f1 s_) implVisibleStore_e1 y0 0 y0) = Xg (implVisibleStore_f1 s_) implVisibleStore_e1 (List.drop k1 y0) k1 s1 ∧ List.length s1 = List.length y0) (fun (y1 : (List Xt)) => (Xg (implVisibleStore_f1 s_) implVisibleStore_e1 y0 0 y0) = .brk y1) y0.length y0 (Qf (by kernel_rfl)) ⟨rfl, (by simp)⟩ (fun k1 s1 hk1 hI1 => ?_) (fun k1 s1 hk1 hI1 => ?_) (fun y1 hD1 => ?_)
  ·
   have hA1_0 := hI1.2
   obtain ⟨a1, hx1⟩ := Xq (l := y0) (i := k1) hk1
   refine su Qc [(38, .b true)] [] [] [] (pe 0 (Q0 (decide_eq_true (p := ((k1 : Nat) : Int) < (y0.length : Int)) (by omega))) p0) ?_
   refine Qg ?_
   refine ckT ?_
   refine Qo ?_
   refine Qg ?_
   refine Q6 ?_
   refine wT 35 0 (.own true 147360) s1 (fun hw9 hl10 => ?_)
   have hx8 : s1[k1]? = some (nth s1 k1) := Xv (by omega)
   refine sn Qc [4, 5, 8, 9, 35, 36, 37] [4, 5, 9] (pN 1 hx8 p0) ?_
   refine tn Qc [4, 5, 8, 35, 36, 37, 46] [4, 5] (pc 3 (implfileAt_a (s_.1, s1, s_.2.2) ((nth s1 k1).2.2.2.1)) p0) ?_
   refine ck (decide ((Y9 (s_.1, s1, s_.2.2) ((nth s1 k1).2.2.2.1)) < (0 : Int))) (fun h11 => ?_) (fun h11 => ?_)
   ·
    have h11d := of_decide_eq_true h11
    refine qu Qc [(35, .one (.slc (.own true 147360) 5 (setRow (eL s1) k1 3 [.i 0])))] [35, 38] [(5, [.o 768 s_.1, .slc (.own true 147360) 5 (setRow (eL s1) k1 3 [.i 0]), .i s_.2.2])] [5] (pN 3 hx8 p0) ?_
    refine eqn [(35, .o 147360 (List.set s1 k1 ((nth s1 k1).1, (nth s1 k1).2.1, (nth s1 k1).2.2.1, 0, (nth s1 k1).2.2.2.2)))] [35] [(5, [.o 768 s_.1, .o 147360 (List.set s1 k1 ((nth s1 k1).1, (nth s1 k1).2.1, (nth s1 k1).2.2.1, 0, (nth s1 k1).2.2.2.2)), .i s_.2.2])] [5] (by rw [setRow_eL (y := ((nth s1 k1).1, (nth s1 k1).2.1, (nth s1 k1).2.2.1, 0, (nth s1 k1).2.2.2.2)) hx8 rfl]; first | done | kernel_rfl) ?_
    refine rn Qc [4, 5, 35, 36, 37] [4, 5] (pe 0 (av_i (Qy k1 (by omega))) p0) ?_
    exact Exists.intro (List.set s1 k1 ((nth s1 k1).1, (nth s1 k1).2.1, (nth s1 k1).2.2.1, 0, (nth s1 k1).2.2.2.2)) (And.intro (Qf (by kernel_rfl)) ⟨Q4 hx1 (Xm h11 (rfl)) hI1.1, (by first | omega | (simp only [List.length_set]; omega))⟩)
   ·
    have h11d := of_decide_eq_false h11
    refine Qo ?_
    refine qu Qc [(37, .i ((k1 + 1 : Nat) : Int))] [37, 38] [] [] (pe 0 (av_i (Qy k1 (by omega))) p0) ?_
    exact Exists.intro s1 (And.intro (Qf (by kernel_rfl)) ⟨Q4 hx1 (Qz h11 (rfl)) hI1.1, (by first | omega | (simp only [List.length_set]; omega))⟩)
  ·
   have hA1_0 := hI1.2
   refine su Qc [(38, .b false)] [] [] [] (pe 0 (Q0 (decide_eq_false (p := ((k1 : Nat) : Int) < (y0.length : Int)) (by omega))) p0) ?_
   refine Qg ?_
   refine ckF ?_
   refine Xc ?_
   exact Exists.intro _ (And.intro (Qf (by kernel_rfl)) (Xr hk1 (rfl) hI1.1))
  ·
   refine sn Qc [4] [4] (p0) ?_
   refine Qp ?_
   exact Ye [] (congrArg (fun z => (.a [.o 0 z.1, .o 1 z.2.1, .i z.2.2] : AV)) (show Qd s_ user = _ from on_b hD0 (on_b hD1 (rfl))).symm)
def Qb (s_ : Yl) (d : (List X1)) (user : Int) : (List Qs) × Bool := (bif ((!(Xf s_)) || (!(implisUser user))) then ([], false) else (((Z3 (Qd s_ user) d)).1, ((Z3 (Qd s_ user) d)).2))
theorem implEvaluateForUser_a (s_ : Yl) (d : (List X1)) (user : Int) : ACalls Tryz.prog 117 [.a [.h s_.1, .h s_.2.1, .i s_.2.2], .h d, .i user] (.tup [(false, [.o 0 (((Qb s_ d user)).1)]), (false, [.b (((Qb s_ d user)).2)])]) := by
 refine en Qc Tryz.func117 fun w0 F0 hG => ?_
 refine sn Qc [1, 2, 3, 6, 7] [3] (p0) ?_
 refine Qg ?_
 refine Qg ?_
 refine mz [(3, .p 3 0), (6, .e 0), (7, .b false)] [0] [(3, [.h s_.1, .h s_.2.1, .i s_.2.2])] [] ?_
 refine jn [(15, .b ((!(Xf s_)) || (!(implisUser user))))] [] [] [] (!(Xf s_)) (fun h1 => ?_) (fun h1 => ?_) ?_
 ·
  have h1n : (Xf s_) = false := bnot_t h1
  refine rn Qc [1, 2, 3, 6, 7, 15] [3] (pc 1 (cb h1n (implIsValidStore_a s_)) (pe 2 (show .b (!false) = .b true from rfl) p0)) ?_
  exact ⟨rfl, Qf (by rw [h1]; first | done | kernel_rfl)⟩
 ·
  have h1n : (Xf s_) = true := Jd h1
  refine rn Qc [1, 2, 3, 6, 7, 15] [3] (pc 1 (cb h1n (implIsValidStore_a s_)) (pe 2 (show .b (!true) = .b false from rfl) (pc 5 (implisUser_a user) p0))) ?_
  exact ⟨rfl, Qf (by rw [h1]; first | done | kernel_rfl)⟩
 refine ck ((!(Xf s_)) || (!(implisUser user))) (fun h2 => ?_) (fun h2 => ?_)
 ·
  refine su Qc [] [15] [] [] (p0) ?_
  refine opn [(false, 6, 0, true, 384000, 2)] ?_
  refine Qp ?_
  exact Ye [] (congrArg (fun z => (.tup [(false, [.o 0 z.1]), (false, [.b z.2])] : AV)) (show Qb s_ d user = _ from Xm h2 (rfl)).symm)
 ·
  refine Qo ?_
  refine sn Qc [6, 7] [] (pc 2 (implVisibleStore_a s_ user) (pc 4 (implEvaluate_a (Qd s_ user) d) p0)) ?_
  refine Qp ?_
  exact Ye [] (congrArg (fun z => (.tup [(false, [.o 0 z.1]), (false, [.b z.2])] : AV)) (show Qb s_ d user = _ from Qz h2 (rfl)).symm)
def implListDir (s_ : Yl) (d : (List X1)) (user : Int) (name : ByteArray) : (List Int) := (Q9 (((Qb s_ d user)).1) name)
theorem implListDir_a (s_ : Yl) (d : (List X1)) (user : Int) (name : ByteArray) : ACalls Tryz.prog 77 [.a [.h s_.1, .h s_.2.1, .i s_.2.2], .h d, .i user, .s name] (.o 0 (implListDir s_ d user name)) := by
 refine en Qc Tryz.func77 fun w0 F0 hG => ?_
 refine sn Qc [1, 2, 3, 4, 8] [4] (p0) ?_
 refine tn Qc [3, 8, 9] [] (pc 3 (implEvaluateForUser_a s_ d user) p0) ?_
 refine tu Qc [(8, .o 1280 (Q9 (((Qb s_ d user)).1) name))] [0, 1, 2, 3] [] [] (pc 2 (implResultIDs_a (((Qb s_ d user)).1) name) p0) ?_
 refine Qp ?_
 exact Ye [] (congrArg (fun z => (.o 0 z : AV)) (show implListDir s_ d user name = (Q9 (((Qb s_ d user)).1) name) from rfl).symm)
def Q3 (f : Xt) : Xt := f
theorem specl04Copy_a (f : Xt) : ACalls Tryz.prog 53 [.a [.i f.1, .i f.2.1, .b f.2.2.1, .i f.2.2.2.1, .h f.2.2.2.2]] (.a [.i ((Q3 f).1), .i ((Q3 f).2.1), .b ((Q3 f).2.2.1), .i ((Q3 f).2.2.2.1), .o 0 ((Q3 f).2.2.2.2)]) := by
 refine en Qc Tryz.func53 fun w0 F0 hG => ?_
 refine sn Qc [1, 2] [1, 2] (p0) ?_
 refine wB 1 4 .sh f.2.2.2.2 (fun hw1 hl2 => ?_)
 refine tn Qc [1, 2] [1, 2] (po 3 (.flat) (px (ob_len (n := (([] : List (List PV)).length + ((eL f.2.2.2.2) : List (List PV)).length)) (len_of (rfl) (Zc f.2.2.2.2) (by first | omega | (simp only [List.length_cons, List.length_nil]; omega) | (simp; omega) | simp))) (px (ob_flat (flat_eL f.2.2.2.2)) p0))) ?_
 refine tu Qc [(2, .p 2 0)] [0] [(2, [.i f.1, .i f.2.1, .b f.2.2.1, .i f.2.2.2.1, .o 384 f.2.2.2.2])] [] (p0) ?_
 refine Qp ?_
 exact Ye [] (congrArg (fun z => (.a [.i z.1, .i z.2.1, .b z.2.2.1, .i z.2.2.2.1, .o 0 z.2.2.2.2] : AV)) (show Q3 f = f from rfl).symm)
def specl05Place_f0 (id : Int) (k0 : Nat) (a0 : Xt) (_ : Unit) : Rd (Int) (Unit) (Unit) := (bif (a0.1 == id) then (.ret ((k0 : Nat) : Int)) else (.next ()))
def specl05Place_e0 (_ : Nat) (_ : Unit) : Unit := ()
def specl05Place (s_ : Yl) (id : Int) : Int := (Out.on (Xg (specl05Place_f0 id) specl05Place_e0 s_.2.1 0 ()) (fun _ => -1))
theorem specl05Place_a (s_ : Yl) (id : Int) : ACalls Tryz.prog 100 [.a [.h s_.1, .h s_.2.1, .i s_.2.2], .i id] (.i (specl05Place s_ id)) := by
 refine en Qc Tryz.func100 fun w0 F0 hG => ?_
 refine sn Qc [1, 2, 4] [2] (p0) ?_
 refine Qg ?_
 refine tn Qc [1, 2, 4, 5] [2] (p0) ?_
 refine mz [(2, .p 2 0), (4, .i 0), (5, .i 0)] [0] [(2, [.h s_.1, .h s_.2.1, .i s_.2.2])] [] ?_
 refine wB 2 1 .sh s_.2.1 (fun hw1 hl2 => ?_)
 refine blk (fun (k0 : Nat) (s0 : Unit) => [(5, .i ((k0 : Nat) : Int))]) [5] (fun k0 s0 => []) [] (fun (y0 : Unit) => []) [1, 2, 5] (fun y0 => []) [2] (fun (k0 : Nat) (s0 : Unit) => (Xg (specl05Place_f0 id) specl05Place_e0 s_.2.1 0 ()) = Xg (specl05Place_f0 id) specl05Place_e0 (List.drop k0 s_.2.1) k0 s0) (fun (y0 : Unit) => (Xg (specl05Place_f0 id) specl05Place_e0 s_.2.1 0 ()) = .brk y0) s_.2.1.length () (Qf (by kernel_rfl)) rfl (fun k0 s0 hk0 hI0 => ?_) (fun k0 s0 hk0 hI0 => ?_) (fun y0 hD0 => ?_)
 ·
  obtain ⟨a0, hx0⟩ := Xq (l := s_.2.1) (i := k0) hk0
  refine Qg ?_
  refine sn Qc [1, 2, 4, 5, 10] [2] (pl 3 s_.2.1 (pe 4 (Q0 (decide_eq_true (p := ((k0 : Nat) : Int) < (s_.2.1.length : Int)) (by omega))) p0)) ?_
  refine ckT ?_
  refine Qo ?_
  refine Qg ?_
  refine Q6 ?_
  refine tn Qc [1, 2, 4, 5, 20] [2] (pn 3 hx0 p0) ?_
  refine ck (a0.1 == id) (fun h3 => ?_) (fun h3 => ?_)
  ·
   refine tu Qc [(4, .i ((k0 : Nat) : Int))] [4] [] [] (p0) ?_
   refine Qp ?_
   have hr4 : (Xg (specl05Place_f0 id) specl05Place_e0 s_.2.1 0 ()) = .ret ((k0 : Nat) : Int) := Zw hx0 (Xm h3 (rfl)) hI0
   exact Ye [] (congrArg (fun z => (.i z : AV)) (show specl05Place s_ id = _ from on_r hr4).symm)
  ·
   have h3d := Zd h3
   refine Qo ?_
   refine qu Qc [(5, .i ((k0 + 1 : Nat) : Int))] [5] [] [] (pe 1 (av_i (Qy k0 (by omega))) p0) ?_
   exact Exists.intro _ (And.intro (Qf (by kernel_rfl)) (Q4 hx0 (Qz h3 (rfl)) hI0))
 ·
  refine Qg ?_
  refine sn Qc [1, 2, 4, 5, 10] [2] (pl 3 s_.2.1 (pe 4 (Q0 (decide_eq_false (p := ((k0 : Nat) : Int) < (s_.2.1.length : Int)) (by omega))) p0)) ?_
  refine ckF ?_
  refine Xc ?_
  exact Exists.intro _ (And.intro (Qf (by kernel_rfl)) (Xr hk0 (rfl) hI0))
 ·
  refine sn Qc [4] [] (p0) ?_
  refine Qp ?_
  exact Ye [] (congrArg (fun z => (.i z : AV)) (show specl05Place s_ id = _ from on_b hD0 (rfl)).symm)
end Go.Proofs.YtcnkkobgogmakaaGreat
namespace Go.Proofs.YtcnkkobgogmakaaGreat
open Go.RowKit
theorem store12 {s : Yl} (h : Xf s = true) : s.2.1.length ≤ 12 := by
  unfold Xf at h
  cases hf : Xg (Y8 s) implIsValidStore_e0 s.2.1 0 () with
  | brk t =>
    rw [hf] at h
    simp only [Out.on, Bool.and_eq_true, decide_eq_true_eq] at h
    omega
  | ret r =>
    rw [hf] at h
    obtain rfl : r = true := h
    exfalso
    have key : ∀ (l : List Xt) k, Xg (Y8 s) implIsValidStore_e0 l k () ≠ .ret true := by
      intro l
      induction l with
      | nil => intro k h; simp [Xg] at h
      | cons a l ih =>
        intro k h
        simp only [Xg] at h
        unfold Y8 at h
        split at h
        · rename_i hf; exact ih _ h
        · cases h
        · rename_i r hf; cases h; revert hf; generalize (_ || _ : Bool) = c; cases c <;> simp
    exact key _ _ hf
end Go.Proofs.YtcnkkobgogmakaaGreat
namespace Go.Proofs.YtcnkkobgogmakaaGreat
open Go.RowKit
theorem fat_go (n : Int) : ∀ (l : List Xt) (k : Nat), Xg (X9 n) Yn l k () = .brk () ∨ ∃ i : Nat, i < l.length ∧ Xg (X9 n) Yn l k () = .ret (((k + i : Nat)) : Int)
  | [], _ => .inl rfl
  | a :: l, k => by
    simp only [Xg, X9]
    cases (implfileAt_1 a n) with
    | true => exact .inr ⟨0, by simp, rfl⟩
    | false =>
      simp only [cond_false]
      rcases fat_go n l (k + 1) with h | ⟨i, hi, h⟩
      · exact .inl h
      · exact .inr ⟨i + 1, by simpa using hi, by rw [h, show k + 1 + i = k + (i + 1) by omega]⟩
theorem fat_lt (s : Yl) (n : Int) : -1 ≤ Y9 s n ∧ Y9 s n < (List.length s.2.1 : Int) := by
  unfold Y9 Zn
  rcases fat_go n s.2.1 0 with h | ⟨i, hi, h⟩
  · rw [h]; simp only [Out.on]; omega
  · rw [h]; simp only [Out.on]; omega
theorem fat_ltS (s : Yl) (n : Int) : -1 ≤ specl05Place s n ∧ specl05Place s n < (List.length s.2.1 : Int) := fat_lt s n
end Go.Proofs.YtcnkkobgogmakaaGreat
namespace Go.Proofs.YtcnkkobgogmakaaGreat
theorem nodup_le {α : Type} [DecidableEq α] : ∀ {l N : List α}, l.Nodup → (∀ x, x ∈ l → x ∈ N) → l.length ≤ N.length
  | [], _, _, _ => Nat.zero_le _
  | a :: l, N, hn, hs => by
    have hn' := List.nodup_cons.1 hn
    have ha := hs a (List.mem_cons_self ..)
    have h := nodup_le (l := l) (N := N.erase a) hn'.2 fun x hx => (List.mem_erase_of_ne (fun e : x = a => hn'.1 (by rw [← e]; exact hx))).2 (hs x (List.mem_cons_of_mem _ hx))
    rw [List.length_erase_of_mem ha] at h
    have : 0 < N.length := List.length_pos_of_mem ha
    rw [List.length_cons]
    omega
def Fresh {α : Type} (N out out' : List α) : Prop := ∃ new : List α, out' = out ++ new ∧ new.Nodup ∧ ∀ x, x ∈ new → x ∉ out ∧ x ∈ N
theorem Fresh.refl {α : Type} (N out : List α) : Fresh N out out := ⟨[], by simp, List.nodup_nil, by simp⟩
theorem Fresh.one {α : Type} {N out : List α} {x : α} (h1 : x ∉ out) (h2 : x ∈ N) : Fresh N out (out ++ [x]) := ⟨[x], rfl, by simp, by simp [h1, h2]⟩
theorem Fresh.trans {α : Type} {N a b c : List α} (h : Fresh N a b) (k : Fresh N b c) : Fresh N a c := by
  obtain ⟨p, rfl, h1, h2⟩ := h
  obtain ⟨q, rfl, k1, k2⟩ := k
  refine ⟨p ++ q, by rw [List.append_assoc], List.nodup_append.2 ⟨h1, k1, fun x hx y hy e => ?_⟩, fun x hx => ?_⟩
  · subst e
    exact (k2 _ hy).1 (List.mem_append_right _ hx)
  · rcases List.mem_append.1 hx with hx | hx
    · exact h2 x hx
    · exact ⟨fun h => (k2 x hx).1 (List.mem_append_left _ h), (k2 x hx).2⟩
theorem fresh_len {α : Type} [DecidableEq α] {N a b : List α} (h : Fresh N a b) : b.length ≤ a.length + N.length := by
  obtain ⟨new, rfl, h1, h2⟩ := h
  have := nodup_le h1 fun x hx => (h2 x hx).2
  rw [List.length_append]
  omega
theorem work_go {α R T : Type} [DecidableEq α] {N names : List α} {f : List α × Int → Rd R (List α × Int) T}
    (hf : ∀ out i s', 0 ≤ i → out.length ≤ names.length + N.length → f (out, i) = .next s' → i < (out.length : Int) ∧ s'.2 = i + 1 ∧ Fresh N out s'.1) : ∀ (n : Nat) (out : List α) (i : Int), 0 ≤ i → Fresh N names out → (names.length : Int) + N.length ≤ i + n → (whl f (n + 1) (out, i)).isSome = true
  | n, out, i, h0, hF, hn => by
    simp only [whl]
    cases hc : f (out, i) with
    | brk t => rfl
    | ret r => rfl
    | next s' =>
      have hl := fresh_len hF
      obtain ⟨h1, h2, h3⟩ := hf out i s' h0 hl hc
      cases n with
      | zero => omega
      | succ n =>
        obtain ⟨o', i'⟩ := s'
        obtain rfl : i' = i + 1 := h2
        exact work_go hf n o' (i + 1) (by omega) (hF.trans h3) (by omega)
theorem work_some {α R T : Type} [DecidableEq α] {N names : List α} {f : List α × Int → Rd R (List α × Int) T}
    (hf : ∀ out i s', 0 ≤ i → out.length ≤ names.length + N.length → f (out, i) = .next s' → i < (out.length : Int) ∧ s'.2 = i + 1 ∧ Fresh N out s'.1) : (whl f (List.length names + List.length N + 1) (names, 0)).isSome = true :=
  work_go hf _ names 0 (Int.le_refl 0) (Fresh.refl N names) (by omega)
end Go.Proofs.YtcnkkobgogmakaaGreat
namespace Go.Proofs.YtcnkkobgogmakaaGreat
open Go.RowKit
theorem adj_pair {l : List ByteArray} (h : ∀ i, i + 1 < l.length → bl (nth l i) (nth l (i + 1)) = true) : ascS l := by
  have key : ∀ j i, i < j → j < l.length → bl (nth l i) (nth l j) = true := by
    intro j
    induction j with
    | zero => intro i hi; omega
    | succ j ih =>
      intro i hi hj
      by_cases e : i = j
      · subst e; exact h i hj
      · exact bl_trans (ih i (by omega) (by omega)) (h j hj)
  unfold ascS
  rw [List.pairwise_iff_getElem]
  intro i j hi hj hij
  have := key j i hij hj
  simpa [nth, List.getD, hi, hj] using this
theorem asc_nodup {l : List ByteArray} (h : ascS l) : l.Nodup := h.imp fun {a b} hab e => by
  subst e
  rw [bl_irr] at hab
  cases hab
theorem fk_mem (n : ByteArray) : ∀ (l : List FieldD) (k : Nat), Out.on (Xg (implFieldKind_f0 n) implFieldKind_e0 l k ()) (fun _ => 0) ≠ 0 → n ∈ l.map (·.1)
  | [], _, h => by simp [Xg, Out.on] at h
  | a :: l, k, h => by
    simp only [Xg, implFieldKind_f0] at h
    cases hc : (a.1.toList == n.toList) with
    | true =>
      rw [toList_inj] at hc
      have : a.1 = n := of_decide_eq_true hc
      rw [← this]; simp
    | false =>
      rw [hc] at h
      simp only [cond_false] at h
      exact List.mem_cons_of_mem _ (fk_mem n l (k + 1) h)
theorem schema5 {s : List FieldD} (h : implIsValidSchema s = true) : s.length ≤ 5 := by
  unfold implIsValidSchema at h
  cases hf : Xg (implIsValidSchema_f0 s) implIsValidSchema_e0 s 0 () with
  | brk t =>
    rw [hf] at h
    simp only [Out.on, decide_eq_true_eq] at h
    omega
  | ret r =>
    rw [hf] at h
    obtain rfl : r = true := h
    exfalso
    have key : ∀ (l : List FieldD) k, Xg (implIsValidSchema_f0 s) implIsValidSchema_e0 l k () ≠ .ret true := by
      intro l
      induction l with
      | nil => intro k h; simp [Xg] at h
      | cons a l ih =>
        intro k h
        simp only [Xg] at h
        unfold implIsValidSchema_f0 at h
        split at h
        · rename_i hf; exact ih _ h
        · cases h
        · rename_i r hf; cases h; revert hf; generalize (_ || _ : Bool) = c; cases c <;> simp
    exact key _ _ hf
theorem vfile_run {s : List FieldD} {f : Xt} (h : Y0 s f = true) : (∃ t, Xg (Z8 s f) implIsValidFile_e0 f.2.2.2.2 0 () = .brk t) ∧ implIsValidSchema s = true := by
  unfold Y0 at h
  cases hl : Xg (Z8 s f) implIsValidFile_e0 f.2.2.2.2 0 () with
  | brk t =>
    rw [hl] at h
    simp only [Out.on, Bool.and_eq_true] at h
    exact ⟨⟨t, rfl⟩, h.2.2.2⟩
  | ret r =>
    rw [hl] at h
    obtain rfl : r = true := h
    exfalso
    have key : ∀ (l : List Zk) k, Xg (Z8 s f) implIsValidFile_e0 l k () ≠ .ret true := by
      intro l
      induction l with
      | nil => intro k h; simp [Xg] at h
      | cons a l ih =>
        intro k h
        simp only [Xg] at h
        unfold Z8 at h
        split at h
        · rename_i hf; exact ih _ h
        · cases h
        · rename_i r hf; cases h; revert hf; generalize (bif decide (((k : Nat) : Int) > (0 : Int)) then _ else _ : Bool) = c; cases c <;> simp
    exact key _ _ hl
theorem vfile_attrs {s : List FieldD} {f : Xt} (h : Y0 s f = true) : List.length f.2.2.2.2 ≤ 5 := by
  obtain ⟨⟨t, hl⟩, hs⟩ := vfile_run h
  have hat : ∀ i a, f.2.2.2.2[i]? = some a → (0 < i → bl (nth f.2.2.2.2 (i - 1)).1 a.1 = true) ∧ implMatchesSchema s a.1 a.2 = true := fun i a hi => by
    have := forL_all (fun k a t => by unfold Z8; generalize (bif decide (((k : Nat) : Int) > (0 : Int)) then _ else _ : Bool) = c; cases c <;> simp) hl i a hi
    rw [Nat.zero_add] at this
    unfold Z8 at this
    cases hm : implMatchesSchema s a.1 a.2 with
    | false => rw [hm] at this; simp at this
    | true =>
      refine ⟨fun h0 => ?_, rfl⟩
      rw [hm, decide_eq_true (show ((i : Nat) : Int) > 0 by omega)] at this
      simp only [cond_true, Bool.not_true, Bool.or_false] at this
      rw [show Int.toNat (((i : Nat) : Int) - 1) = i - 1 by omega] at this
      cases hb : bl (nth f.2.2.2.2 (i - 1)).1 a.1 with
      | true => rfl
      | false =>
        unfold bl at hb
        rw [hb] at this
        simp at this
  have hasc : ascS (f.2.2.2.2.map (·.1)) := adj_pair fun i hi => by
    rw [List.length_map] at hi
    have := (hat (i + 1) _ (Xv hi)).1 (by omega)
    have e : ∀ j, j < f.2.2.2.2.length → nth (f.2.2.2.2.map (·.1)) j = (nth f.2.2.2.2 j).1 := fun j hj => by simp [nth, List.getD, hj]
    rw [e i (by omega), e (i + 1) hi]
    exact this
  have hsub : ∀ x, x ∈ f.2.2.2.2.map (·.1) → x ∈ s.map (·.1) := fun x hx => by
    obtain ⟨a, ha, rfl⟩ := List.mem_map.1 hx
    obtain ⟨i, hi⟩ := List.getElem?_of_mem ha
    have hm := (hat i a hi).2
    unfold implMatchesSchema at hm
    simp only [Bool.and_eq_true, bne_iff_ne, beq_iff_eq] at hm
    exact fk_mem a.1 s 0 fun e => hm.2.1 (hm.2.2.trans e)
  have := nodup_le (asc_nodup hasc) hsub
  rw [List.length_map, List.length_map] at this
  have := schema5 hs
  omega
theorem vstore_file {s : Yl} (h : Xf s = true) {f : Xt} (hf : f ∈ s.2.1) : Y0 s.1 f = true := by
  unfold Xf at h
  obtain ⟨i, hi⟩ := List.getElem?_of_mem hf
  cases hl : Xg (Y8 s) implIsValidStore_e0 s.2.1 0 () with
  | brk t =>
    have := forL_all (fun k a t => by unfold Y8; generalize (_ || _ : Bool) = c; cases c <;> simp) hl i f hi
    unfold Y8 at this
    cases hv : Y0 s.1 f with
    | true => rfl
    | false => rw [hv] at this; simp at this
  | ret r =>
    rw [hl] at h
    obtain rfl : r = true := h
    exfalso
    have key : ∀ (l : List Xt) k, Xg (Y8 s) implIsValidStore_e0 l k () ≠ .ret true := by
      intro l
      induction l with
      | nil => intro k h; simp [Xg] at h
      | cons a l ih =>
        intro k h
        simp only [Xg] at h
        unfold Y8 at h
        split at h
        · rename_i hf; exact ih _ h
        · cases h
        · rename_i r hf; cases h; revert hf; generalize (_ || _ : Bool) = c; cases c <;> simp
    exact key _ _ hl
theorem vstore_attrs {s : Yl} (h : Xf s = true) {f : Xt} (hf : f ∈ s.2.1) : List.length f.2.2.2.2 ≤ 5 := vfile_attrs (vstore_file h hf)
end Go.Proofs.YtcnkkobgogmakaaGreat
namespace Go.Proofs.YtcnkkobgogmakaaGreat
open Go.RowKit
def takenJ (G : Nat → Prop) (L : List Nat) : Inj := ⟨G, fun k => if k = 63 then L else [], fun _ => 0⟩
theorem atake_of {P : Program} {tt : List (Nat × TI)} (htt : ttOk P tt = true) {f : Nat} {fn : Func} {c : Code} (hf : P.funcs[f]? = some fn) (hb : fn.body = some c) (hok : FnOk P f) {n : Nat} {l l' : List (List PV)} {args : List AV}
    (hn : args.length + 1 ≤ fn.ntmps) (hk : ∀ x, x ∈ args → ∀ c, c ∈ x.cells → c.key = none ∧ c.bkeys = []) {t : Nat} (hr : fn.results.toList = [.tmp t])
    (h : ∀ w0 F0, GoodAt P w0 → AWP P fn.ntmps w0 F0 c (fun e s => (e = .ret ∨ e = .normal) ∧ ∃ k, get s.tm t = some (.one (.slc (.own false k) n l'))) (entry (.one (.slc (.own false 63) n l) :: args))) : ATake P f n l args true false l' := by
  refine ⟨hok, fun w F G L v vals hgood hFG hGF hGs hnd hLG hrow hargs => calls_of_wp hf hb ?_⟩
  have hlen := hargs.length
  have hGF := hGF rfl
  have hL0 : (takenJ G L).L 63 = L := by show (if 63 = 63 then L else []) = L; simp
  refine wp_mono (h ⟨w, fun b => b ∈ L, none⟩ G hgood (takenJ G L) _ w ?_) ?_
  · have hLk : ∀ k b, b ∈ (takenJ G L).L k → k = 63 ∧ b ∈ L := fun k b hm => by
      have hm : b ∈ (if k = 63 then L else []) := hm
      split at hm
      · rename_i e; exact ⟨e, hm⟩
      · simp at hm
    refine { below := Base.Keeps.refl _, nodef := rfl, size := ?_, fl := fun b hb => ⟨hGs b hb, .inl hb⟩, f0 := fun b hb => hb, nd := fun k => ?_, lo := fun k b hb => ⟨.inr (hLk k b hb).2, hLG b (hLk k b hb).2⟩, dj := fun k k' b hb hb' => (hLk k b hb).1.trans (hLk k' b hb').1.symm, bo := fun k c hc => by simp [entry, get] at hc, nb := .inl rfl, cb := (fun b hb => by cases hb), bi := fun k k' c c' hc => by simp [entry, get] at hc, tm := fun t v' hv => ?_ }
    · simp; omega
    · show (if k = 63 then L else [] : List Nat).Nodup
      split
      · exact hnd
      · exact List.nodup_nil
    · obtain ⟨_, ht⟩ := get_entry hv
      have hall : All2 (AR (takenJ G L) w) (v :: vals) (.one (.slc (.own false 63) n l) :: args) := by
        refine .cons ?_ ?_
        · show OwnTop G ((takenJ G L).L 63) w v n l
          rw [hL0]
          exact OwnTop.keep hrow (fun b hb => ⟨hFG b hb, rfl⟩) fun _ _ => rfl
        · have key : ∀ {vs : List Value} {ys : List AV}, All2 (AR (argJ G) w) vs ys → (∀ x, x ∈ ys → ∀ c, c ∈ x.cells → c.key = none ∧ c.bkeys = []) → All2 (AR (takenJ G L) w) vs ys := by
            intro vs ys ha
            induction ha with
            | nil => intro _; exact .nil
            | cons h1 _ ih =>
              intro hx
              refine .cons (h1.keep fun c hc => ?_) (ih fun x hm => hx x (List.mem_cons_of_mem _ hm))
              obtain ⟨e1, e2⟩ := hx _ (List.mem_cons_self ..) c hc
              exact ⟨fun b hb => ⟨hb, rfl⟩, (fun k hk => by rw [e1] at hk; cases hk), (fun k hk => by rw [e2] at hk; simp at hk)⟩
          exact key hargs hk
      obtain ⟨u, hu, hr⟩ := hall.get' ht
      have hlt : t < (v :: vals).length := (List.getElem?_eq_some_iff.1 hu).1
      have : ((v :: vals).toArray ++ Array.replicate (fn.ntmps - (v :: vals).toArray.size) undef).getD t undef = u := by
        rw [Array.getD_eq_getD_getElem?, Array.getElem?_append_left (by simpa using hlt)]
        simp at hu ⊢
        rw [hu]; rfl
      rw [this]
      exact hr
  · rintro e a' w' ⟨J', s', hR, he, k, hkk⟩
    have hres : ∃ u, (results fn a'.tmps).run P w' = .ok u w' ∧ AR J' w' u (.one (.slc (.own false k) n l')) := by
      obtain ⟨us, hrun, hall⟩ := resOf_ok (P := P) htt hR (rs := [.tmp t]) (vs := [.one (.slc (.own false k) n l')]) (by simp [resOf, hkk])
      rw [← hr] at hrun
      have hm : (fn.results.mapM (resRun a'.tmps)).run P w' = .ok us.toArray w' := by
        rw [Array.mapM_eq_mapM_toList]
        simp [hrun]
      have hgen : (results fn a'.tmps).run P w' = .ok (if h : us.toArray.size = 1 then us.toArray[0] else .tuple us.toArray) w' := by
        rw [results_eq]
        simp only [Sem.run_bind, hm, Result.andThen_ok, Sem.run_pure]
      cases hall with
      | cons h1 h2 =>
        cases h2
        exact ⟨_, by rw [hgen]; simp, h1⟩
    obtain ⟨u, h1, h2⟩ := hres
    have hT : TRet F L w n false l' (.returned u) w' := by
      refine ⟨u, rfl, fun m hm hmL => ⟨hR.below.os, hR.below.tape, hR.below.output, hR.below.size, fun j hj => hR.below.block j (by show j < w.heap.size; omega) fun hx => by have := hmL j hx; omega⟩, fun b hb hn => hR.below.block b hb hn, J'.L k, hR.nd k, fun b hb => ?_, ?_⟩
      · obtain ⟨h3, h4, _⟩ := hR.lo k b hb
        exact ⟨h4, h3⟩
      · have h2 : OwnTop J'.F (J'.L k) w' u n l' := h2
        refine OwnTop.keep h2 (fun b hb => ⟨?_, rfl⟩) fun _ _ => rfl
        obtain ⟨h3, h4⟩ := hR.fl b hb
        rcases h4 with h4 | h4 | h4
        · exact .inl (hGF b h4)
        · exact .inr ⟨.inl h4, h3, fun hm => (hR.lo k b hm).2.2 hb⟩
        · exact .inr ⟨.inr h4, h3, fun hm => (hR.lo k b hm).2.2 hb⟩
    rcases he with rfl | rfl
    · exact ⟨hR.nodef, u, h1, hT⟩
    · exact ⟨hR.nodef, u, h1, hT⟩
end Go.Proofs.YtcnkkobgogmakaaGreat
namespace Go.Proofs.YtcnkkobgogmakaaGreat
open Go.RowKit
theorem getD_put' {a : Act} {t u : Nat} {v : Value} (ht : t < a.tmps.size) : (a.put (some t) v).tmps.getD u undef = if u = t then v else a.tmps.getD u undef := by
  simp only [Act.put, Array.getD_eq_getD_getElem?, Array.getElem?_setIfInBounds]
  by_cases h : u = t
  · subst h; simp [ht]
  · simp [h, Ne.symm h]
theorem nbeq_false {a b : Nat} : Nat.beq a b = false ↔ ¬ a = b := by
  cases h : Nat.beq a b with
  | true => simp [Nat.eq_of_beq_eq_true h]
  | false => simp; exact Nat.ne_of_beq_eq_false h
theorem put_self {a : Act} {t : Nat} {v : Value} (h : a.tmps.getD t undef = v) (ht : t < a.tmps.size) : a.put (some t) v = a := by
  have e : a.tmps.setIfInBounds t v = a.tmps := by
    apply Array.ext
    · simp
    · intro i h1 h2
      rw [Array.getElem_setIfInBounds]
      split
      · rename_i e; subst e; rw [← h, Array.getD_eq_getD_getElem?, Array.getElem?_eq_getElem ht]; rfl
      · rfl
  show ({ a with tmps := a.tmps.setIfInBounds t v } : Act) = a
  rw [e]
theorem zeros_vc : ∀ {vs : List Value} {cs : List C}, zerosOk vs cs = true → ∃ ps : List PV, ps.length = vs.length ∧ ∀ (X : Nat → Prop) (w : World), VC X w vs ps
  | [], [], _ => ⟨[], rfl, fun _ _ => .nil⟩
  | [], _ :: _, h => by simp [zerosOk] at h
  | _ :: _, [], h => by simp [zerosOk] at h
  | v :: vs, c :: cs, h => by
    simp only [zerosOk, Bool.and_eq_true] at h
    obtain ⟨ps, h1, h2⟩ := zeros_vc h.2
    have hz := h.1
    unfold zeroOk at hz
    split at hz
    · rename_i k _ _ _
      simp only [Bool.and_eq_true, decide_eq_true_eq] at hz
      obtain ⟨⟨rfl, rfl⟩, rfl⟩ := hz
      exact ⟨.int k 0 :: ps, by simp [h1], fun X w => .cons (.int (by cases k <;> simp [InR, IntKind.min, IntKind.max, IntKind.bits, IntKind.signed])) (h2 X w)⟩
    · rename_i b _
      exact ⟨.bool b :: ps, by simp [h1], fun X w => .cons (.bool b) (h2 X w)⟩
    · rename_i s _
      have hs : s.size = 0 := by simp only [Bool.and_eq_true] at hz; exact Nat.eq_of_beq_eq_true hz.1
      exact ⟨.str s :: ps, by simp [h1], fun X w => .cons (.str (by rw [hs]; exact Nat.zero_le _)) (h2 X w)⟩
    · rename_i n
      exact ⟨.slc n [] :: ps, by simp [h1], fun X w => .cons (.emp none n (Nat.zero_le _)) (h2 X w)⟩
    · cases hz
theorem vr_zeros {X : Nat → Prop} {w : World} {n : Nat} {vs : List Value} {ps : List PV} (h : VC X w vs ps) (hn : ps.length = n) : ∀ m, VR X w n (List.replicate m vs).flatten (List.replicate m ps)
  | 0 => .nil n
  | m + 1 => by
    rw [List.replicate_succ, List.replicate_succ, List.flatten_cons]
    exact .cons h hn (vr_zeros h hn m)
theorem zero_cells {z : Array Value} {m : Nat} : (Builtin.zeroCells z m).toList = (List.replicate m z.toList).flatten := by
  have key : ∀ (l : List Value) (m : Nat), (List.range (m * l.length)).map (fun i => l[i % l.length]!) = (List.replicate m l).flatten := by
    intro l m
    induction m with
    | zero => simp
    | succ m ih =>
      rw [Nat.succ_mul, List.range_add, List.map_append, ih, List.replicate_succ', List.flatten_append]
      congr 1
      simp only [List.map_map, List.flatten_cons, List.flatten_nil, List.append_nil]
      apply List.ext_getElem
      · simp
      · intro i h1 h2
        simp only [List.length_map, List.length_range] at h1
        simp [Nat.mul_add_mod_self_right, Nat.mod_eq_of_lt h1, h2]
  rw [← key z.toList m]
  unfold Builtin.zeroCells
  rw [Array.toList_map, Array.toList_range]
  apply List.map_congr_left
  intro i _
  simp only [Array.length_toList, getElem!_def, Array.getElem?_toList]
theorem zero_one {vs : List Value} {cs : List C} (h : zerosOk vs cs = true) : ∀ v, v ∈ vs → v.oneCell' = true := by
  induction vs generalizing cs with
  | nil => intro v hv; simp at hv
  | cons v vs ih =>
    cases cs with
    | nil => simp [zerosOk] at h
    | cons c cs =>
      simp only [zerosOk, Bool.and_eq_true] at h
      intro u hu
      rcases List.mem_cons.1 hu with rfl | hu
      · have hz := h.1
        unfold zeroOk at hz
        split at hz <;> first | rfl | cases hz
      · exact ih h.2 u hu
section
variable {P : Program} {N : Nat} {w0 : Base} {F0 : Nat → Prop} {J : Inj} {a : Act} {w : World} {s : St} {Q : Exit → St → Prop}
theorem Rel.aside (h : Rel N w0 F0 J a w s) {d : Nat} (hd : d < N) (hn : get s.tm d = none) (v : Value) : Rel N w0 F0 J (a.put (some d) v) w s :=
  (h.pure (some d) (fun d' e => by cases e; exact hd) (.one .dead) v (fun _ => trivial)).less (fun t x hx => by
    show get (ins d _ s.tm) t = some x
    rw [get_ins, if_neg (fun e => by subst e; rw [hn] at hx; cases hx)]
    exact hx) (fun _ _ h => h)
theorem clear_run {tt : List (Nat × TI)} (htt : ttOk P tt = true) {sty ety z1 : Nat} {z2 : List C} {z3 : List LK} {ti : TI} (g1 : get tt sty = some ⟨.sli ety, z1, z2, z3⟩) (g2 : get tt ety = some ti)
    {g cap m i n : Nat} {cur : Array Value} {e : TypeId} (hn : ti.size = n) (hg : w.heap[g]? = some (.cells cur e (0, 0))) (hs : cur.size = cap * n) (hi : i < m) (hm : m ≤ cap) (ty : TypeId) :
    ∃ zs : List Value, ∃ ps : List PV, zs.length = n ∧ ps.length = n ∧ (∀ (X : Nat → Prop) (w : World), VC X w zs ps) ∧
      (Builtin.clear_ #[sty] ty #[.slice (some ⟨g, i * n, none⟩) (m - i) (cap - i)]).run P w = .ok (.tuple #[]) (w.setRow g (cur.toList.take (i * n) ++ (List.replicate (m - i) zs).flatten ++ cur.toList.drop (i * n + (m - i) * n)).toArray) := by
  obtain ⟨inf, z, hI, hsz, _, hz, hzs, hzo⟩ := (Y3 htt g2).info
  obtain ⟨ps, p1, p2⟩ := zeros_vc hzo
  have hu := (Y3 htt g1).sli
  have hzl : z.cells.toList.length = n := by simpa [hn] using hzs
  refine ⟨z.cells.toList, ps, hzl, by rw [p1, hzl], p2, ?_⟩
  obtain ⟨q, hq⟩ : ∃ q, m - i = q + 1 := ⟨m - i - 1, by omega⟩
  have hfl : ((List.replicate (m - i) z.cells.toList).flatten).length = (m - i) * n := by
    rw [List.length_flatten, List.map_replicate, hzl]; simp
  have h3 : i * n + (m - i) * n ≤ cap * n := by rw [← Nat.add_mul]; exact Nat.mul_le_mul_right n (by omega)
  have hst := run_storeCells_at P g (i * n) e ((List.replicate (m - i) z.cells.toList).flatten) 0 cur w hg (by rw [hfl, hs]; simpa using h3) (fun v hv => by
    obtain ⟨l, hl, hv⟩ := List.mem_flatten.1 hv
    rw [List.eq_of_mem_replicate hl] at hv
    exact zero_one hzo v hv)
  simp only [Nat.add_zero, hfl] at hst
  rw [hq] at hst ⊢
  simp [Builtin.clear_, run_underlying hu, zeroValue, typeInfo_run hI, hz, zero_cells, hst]
theorem awp_clear {tt : List (Nat × TI)} (htt : ttOk P tt = true) {id : Nat} {ops : Array Oper} {t0 t5 d1 d2 d3 sty ety z1 : Nat} {z2 : List C} {z3 : List LK} {ti : TI} {y1 y2 y3 y4 : TypeId} {q1 q2 q3 q4 : String} {f1 f2 f3 f4 : Array Edge}
    (hops : ops = #[⟨some d1, .move (.tmp t0), y1, q1, f1, none⟩, ⟨some d2, .move (.tmp t5), y2, q2, f2, none⟩, ⟨some d3, .slice sty (.tmp d1) (some (.tmp d2)) none none, y3, q3, f3, none⟩, ⟨none, .call { callee := .builtin .clear, args := #[.tmp d3], argTypes := #[sty] }, y4, q4, f4, none⟩])
    (hN : (Nat.blt d1 N && Nat.blt d2 N && Nat.blt d3 N && Nat.blt t0 N && !(Nat.beq d1 t0) && !(Nat.beq d1 t5) && !(Nat.beq d2 t0) && !(Nat.beq d2 t5) && !(Nat.beq d3 t0) && !(Nat.beq d3 t5) && !(Nat.beq d1 d2) && !(Nat.beq t0 t5)) = true)
    (g1 : get tt sty = some ⟨.sli ety, z1, z2, z3⟩) (g2 : get tt ety = some ti) {k n : Nat} {l : List (List PV)} (hk : get s.tm t0 = some (.one (.slc (.own false k) n l))) (hn : ti.size = n) {i : Int} (hi : get s.tm t5 = some (.one (.int .i64 i))) (h0 : 0 ≤ i) (hl : i < l.length)
    (hQ : ∀ l', l'.length = l.length → l'.take i.toNat = l.take i.toNat → Q .normal ⟨[(t0, .one (.slc (.own false (64 * t0)) n l')), (t5, .one (.int .i64 i))], []⟩) : AWP P N w0 F0 (.region id ops false) Q s := fun J a w hr => by
  simp only [Bool.and_eq_true, Nat.blt_eq, Bool.not_eq_true', nbeq_false] at hN
  obtain ⟨⟨⟨⟨⟨⟨⟨⟨⟨⟨⟨m1, m2⟩, m3⟩, m0⟩, n1⟩, n2⟩, n3⟩, n4⟩, n5⟩, n6⟩, n7⟩, n8⟩ := hN
  obtain ⟨j, rfl⟩ : ∃ j : Nat, i = (j : Int) := ⟨i.toNat, by omega⟩
  have hj : j < l.length := by omega
  have e0 : CR J w (a.tmps.getD t0 undef) (.slc (.own false k) n l) := hr.tm t0 _ hk
  have e5 : CR J w (a.tmps.getD t5 undef) (.int .i64 (j : Int)) := hr.tm t5 _ hi
  obtain ⟨e5, _⟩ := e5
  rcases (show OwnTop J.F (J.L k) w _ n l from e0) with ⟨e, _⟩ | ⟨g, cap, cur, e, hL, e0, hg, hs, hvr, hlc, hcap⟩
  · rw [e] at hj; simp at hj
  obtain ⟨zs, ps, hzl, hpl, hzv, hrun⟩ := clear_run (P := P) (w := w) htt g1 g2 hn hg hs hj hlc y4
  have hu := (Y3 htt g1).sli
  have hsz := sizeOf_run (P := P) (Y3 htt g2) w
  rw [hn] at hsz
  have hr5 : Rel N w0 F0 J a w ⟨[(t5, .one (.int .i64 (j : Int)))], []⟩ := hr.less (fun t v hv => by
    simp only [get] at hv
    split at hv
    · rename_i e; subst e; rw [hi]; exact hv
    · cases hv) (fun k c hc => by cases hc)
  have no : ∀ d, ¬ d = t5 → get (⟨[(t5, .one (.int .i64 (j : Int)))], []⟩ : St).tm d = none := fun d hd => by
    show (if t5 = d then _ else _) = none
    rw [if_neg (fun e => hd e.symm)]; rfl
  have s0 := hr.size
  have hr1 := (hr5.aside m1 (no _ n2) (.slice (some ⟨g, 0, none⟩) l.length cap)).aside m2 (no _ n4) (.int .i64 (j : Int))
  have hr3 := hr1.aside m3 (no _ n6) (.slice (some ⟨g, 0 + j * n, none⟩) (l.length - j) (cap - j))
  subst hops
  refine wp_region ?_
  show wpOps P _ (QX N w0 F0 Q) [0, 1, 2, 3] a w
  rw [wpOps_cons]; unfold wpOp
  simp only [List.getElem?_toArray, List.getElem?_cons_zero]
  rw [if_pos (by simp [Region.wanted])]
  refine .inl (wp_of_run (v := .slice (some ⟨g, 0, none⟩) l.length cap) (w' := w) (by simp [execOp, e0, Act.eval]) ?_)
  rw [wpOps_cons]; unfold wpOp
  simp only [List.getElem?_toArray, List.getElem?_cons_succ, List.getElem?_cons_zero]
  rw [if_pos (by simp [Region.wanted])]
  have e5' : (a.put (some d1) (.slice (some ⟨g, 0, none⟩) l.length cap)).tmps.getD t5 undef = .int .i64 (j : Int) := (getD_put' (by omega)).trans ((if_neg (fun e => n2 e.symm)).trans e5)
  refine .inl (wp_of_run (v := .int .i64 (j : Int)) (w' := w) (by simp [execOp, e5', Act.eval]) ?_)
  rw [wpOps_cons]; unfold wpOp
  simp only [List.getElem?_toArray, List.getElem?_cons_succ, List.getElem?_cons_zero]
  rw [if_pos (by simp [Region.wanted])]
  have hs1 : (a.put (some d1) (.slice (some ⟨g, 0, none⟩) l.length cap)).tmps.size = N := by simp [Act.put, s0]
  have ea : ((a.put (some d1) (.slice (some ⟨g, 0, none⟩) l.length cap)).put (some d2) (.int .i64 (j : Int))).eval (.tmp d1) = .slice (some ⟨g, 0, none⟩) l.length cap := (getD_put' (by omega)).trans ((if_neg n7).trans ((getD_put' (by omega)).trans (if_pos rfl)))
  have eb : ((a.put (some d1) (.slice (some ⟨g, 0, none⟩) l.length cap)).put (some d2) (.int .i64 (j : Int))).eval (.tmp d2) = .int .i64 (j : Int) := (getD_put' (by omega)).trans (if_pos rfl)
  have hsb : (Instr.sliceBounds true l.length cap (some (.int .i64 (j : Int))) none none).run P w = .ok (j, l.length, cap) w := by
    have e4 : ∀ c, (Instr.sliceBound (.int .i64 (j : Int)) l.length c).run P w = .ok j w := fun c => by
      have := bound_ok (P := P) (w := w) (k := .i64) (lo := (j : Int)) (code := c) (y := l.length) (by omega) (by omega)
      simpa using this
    unfold Instr.sliceBounds
    simp only [Sem.run_bind, Sem.run_pure, Result.andThen_ok]
    simp [e4]
  refine .inl (wp_of_run (v := .slice (some ⟨g, 0 + j * n, none⟩) (l.length - j) (cap - j)) (w' := w) (by
    have hca : cap ≠ j := by omega
    simp [execOp, ea, eb, Instr.sliceAt, run_underlying hu, Instr.slice, hsb, hsz, hca, Addr.add_lit]) ?_)
  rw [wpOps_cons]; unfold wpOp
  simp only [List.getElem?_toArray, List.getElem?_cons_succ, List.getElem?_cons_zero]
  rw [if_pos (by simp [Region.wanted])]
  generalize ha2 : ((a.put (some d1) (.slice (some ⟨g, 0, none⟩) l.length cap)).put (some d2) (.int .i64 (j : Int))) = a2 at *
  have s2 : a2.tmps.size = N := hr1.size
  have ec : (a2.put (some d3) (.slice (some ⟨g, 0 + j * n, none⟩) (l.length - j) (cap - j))).eval (.tmp d3) = .slice (some ⟨g, j * n, none⟩) (l.length - j) (cap - j) := (getD_put' (by omega)).trans ((if_pos rfl).trans (by simp))
  have ec := ec
  simp only [Nat.zero_add] at ec
  refine .inl (wp_of_run (v := .tuple #[]) (w' := w.setRow g (cur.toList.take (j * n) ++ (List.replicate (l.length - j) zs).flatten ++ cur.toList.drop (j * n + (l.length - j) * n)).toArray) (by
    simp [execOp, resolve, invoke, builtin, ec, hrun]) ?_)
  generalize ha3 : a2.put (some d3) (.slice (some ⟨g, 0 + j * n, none⟩) (l.length - j) (cap - j)) = a3 at *
  show QX N w0 F0 Q .normal a3 _
  have e03 : a3.tmps.getD t0 undef = .slice (some ⟨g, 0, none⟩) l.length cap := by
    rw [← ha3]
    refine (getD_put' (by omega)).trans ((if_neg (fun e => n5 e.symm)).trans ?_)
    rw [← ha2]
    exact (getD_put' (by omega)).trans ((if_neg (fun e => n3 e.symm)).trans ((getD_put' (by omega)).trans ((if_neg (fun e => n1 e.symm)).trans e0)))
  have hgk : g ∈ J.L k := by rw [hL]; exact List.mem_cons_self
  have hgF : ¬ J.F g := (hr.lo k g hgk).2.2
  generalize hw' : w.setRow g (cur.toList.take (j * n) ++ (List.replicate (l.length - j) zs).flatten ++ cur.toList.drop (j * n + (l.length - j) * n)).toArray = w'
  have hgw : w'.heap[g]? = some (.cells (cur.toList.take (j * n) ++ (List.replicate (l.length - j) zs).flatten ++ cur.toList.drop (j * n + (l.length - j) * n)).toArray e (0, 0)) := by rw [← hw']; exact setRow_heap w g cur _ e (0, 0) hg
  have hother : ∀ b, b ≠ g → w'.heap[b]? = w.heap[b]? := fun b hb => by rw [← hw']; exact setRow_other w g b _ hb
  have hsize : w'.heap.size = w.heap.size := by rw [← hw']; simp [World.setRow]
  have hbelow : w0.Keeps w' := by
    refine hr.below.step (by rw [← hw']; rfl) (by rw [← hw']; rfl) (by rw [← hw']; rfl) (by omega) fun b _ hnl => hother b fun e => ?_
    exact hnl (e ▸ (hr.lo k g hgk).1)
  have hfl : ((List.replicate (l.length - j) zs).flatten).length = (l.length - j) * n := by
    rw [List.length_flatten, List.map_replicate, hzl]; simp
  have hsum : j * n + (l.length - j) * n = l.length * n := by rw [← Nat.add_mul]; congr 1; omega
  have hle : l.length * n ≤ cap * n := Nat.mul_le_mul_right n hlc
  have hcl : cur.toList.length = cap * n := by simpa using hs
  have hjn : j * n ≤ cap * n := Nat.mul_le_mul_right n (by omega)
  have htl : (l.take j ++ List.replicate (l.length - j) ps).length = l.length := by simp; omega
  have hown : OwnTop (takeJ J w w' (64 * t0) k [] [g]).F [g] w' (.slice (some ⟨g, 0, none⟩) l.length cap) n (l.take j ++ List.replicate (l.length - j) ps) := by
    refine .inr ⟨g, cap, _, e, rfl, by rw [htl], hgw, ?_, ?_, by rw [htl]; exact hlc, by rw [htl]; exact hcap⟩
    · simp only [List.size_toArray, List.length_append, hfl, List.length_take, List.length_drop, hcl]
      omega
    · rw [htl]
      have : ((cur.toList.take (j * n) ++ (List.replicate (l.length - j) zs).flatten ++ cur.toList.drop (j * n + (l.length - j) * n)).toArray.toList.take (l.length * n)) = cur.toList.take (j * n) ++ (List.replicate (l.length - j) zs).flatten := by
        show ((_ : List Value) ++ _ ++ _).take _ = _
        have hln : (cur.toList.take (j * n) ++ (List.replicate (l.length - j) zs).flatten).length = l.length * n := by
          simp only [List.length_append, hfl, List.length_take, hcl]; omega
        rw [List.take_append_of_le_length (by omega), List.take_of_length_le (by omega)]
      rw [this]
      refine VR.append (vr_zeros (hzv _ _) hpl _) (VR.keep (X := J.F) (w := w) (fun b hb => ⟨.inl hb, hother b fun e => hgF (e ▸ hb)⟩) ?_)
      have h3 := hvr.take j
      rwa [List.take_take, Nat.min_eq_left (by omega)] at h3
  have hR := take_step hr3 (t := t0) (k := k) (n := n) m0 (frz := []) (L' := [g]) (by simp) (w' := w') (u := .slice (some ⟨g, 0, none⟩) l.length cap) (l' := l.take j ++ List.replicate (l.length - j) ps) (d := false) hbelow (by omega) (fun b hb hn => hother b fun e => hn (e ▸ hgk)) (by simp) (fun b hb => by
    obtain rfl := List.mem_singleton.1 hb
    exact ⟨by have := (hr.lo k b hgk).2.1; omega, .inr hgk⟩) (by
      show OwnTop _ ((takeJ J w w' (64 * t0) k [] [g]).L (64 * t0)) _ _ _ _
      rw [show (takeJ J w w' (64 * t0) k [] [g]).L (64 * t0) = [g] from if_pos rfl]
      exact hown)
  rw [put_self e03 (by rw [hr3.size]; exact m0)] at hR
  refine ⟨_, _, hR.less (s' := ⟨[(t0, .one (.slc (.own false (64 * t0)) n (l.take j ++ List.replicate (l.length - j) ps))), (t5, .one (.int .i64 (j : Int)))], []⟩) (fun t v hv => ?_) (fun k c hc => by cases hc), hQ _ htl (by simp [List.take_append, List.take_take]; omega)⟩
  show get (ins t0 _ [(t5, AV.one (.int .i64 (j : Int)))]) t = some v
  rw [get_ins]
  simp only [get] at hv ⊢
  exact hv
end
end Go.Proofs.YtcnkkobgogmakaaGreat
