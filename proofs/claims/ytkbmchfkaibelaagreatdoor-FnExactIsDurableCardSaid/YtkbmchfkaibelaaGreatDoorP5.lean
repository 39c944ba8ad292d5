/- Texts of this proof, put together by a program: Ste, Isa, Isb, Yn0, In, Nf, Ws0, Sp, Sq, By, Gb, Wsa, Wsb, Np, Wsc, Sw, Wsd, Wst, Wse, Wsf, Wsg, Wsh, Wsi, Wsj. -/
import Derived.Test.YtkbmchfkaibelaaGreatDoorP4
import Derived.KernelRfl
import Derived.Test.YtkbmchfkaibelaaGreatDoorProg
import Derived.Outline
import Derived.Laws.IdiomStrings
import Derived.Lib.ItoaNum
import Derived.Lib.ConvBytes
import Derived.Lib.SlBytesRow
import Derived.Lib.SmallJoins
import Derived.Lib.SplitLaws
import Derived.Lib.Fields
import Derived.Lib.Join
import Derived.Lib.Atoi
set_option linter.unusedVariables false
set_option linter.unusedSimpArgs false
namespace Go.Proofs.YtkbmchfkaibelaaGreatDoor
section
open Go.RowKit
def Low (b : Int) (L : List Int) : Prop := ∀ j, 0 ≤ nth L j ∧ nth L j ≤ b
theorem BM {b w : Int} {i : Nat} {L : List Int} {p : Nat} (hi : i < L.length) (hw : 0 ≤ w ∧ w ≤ 1) (h : Low b L) : Low (b + w) (Mj i L (p, w)) := fun j => by
  rw [Oy _ hi]
  have h1 := h j
  have h2 := h p
  have h3 := h i
  split
  · show 0 ≤ max (nth L i) (nth L p + w) ∧ max (nth L i) (nth L p + w) ≤ b + w; omega
  omega
theorem UT (d : List Zw) (k0 : Nat) : ∀ (l : List ByteArray) (k : Nat) (s : List Int) (b : Int), k0 < s.length → Low b s → Yt (Vt d k0) Wz l k s = .brk (Hd k0 (Ji d 0 l) s) ∧ Low b (Hd k0 (Ji d 0 l) s)
  | [], k, s, b, _, h => ⟨rfl, h⟩
  | a :: l, k, s, b, hk, h => by
    have hf : Vt d k0 k a s = (bif (decide (0 ≤ X3 d a) && decide (nth s k0 < nth s (Int.toNat (X3 d a)))) then .next (List.set s k0 (nth s (Int.toNat (X3 d a)))) else .next s) := rfl
    simp only [Yt, hf, Ji]
    by_cases h0 : 0 ≤ X3 d a
    · rw [if_pos h0, decide_eq_true h0, Bool.true_and]
      have hb : Low b (Mj k0 s (Int.toNat (X3 d a), 0)) := by have := BM (w := 0) (p := Int.toNat (X3 d a)) hk (by omega) h; simpa using this
      have hbk : Hd k0 ((Int.toNat (X3 d a), 0) :: Ji d 0 l) s = Hd k0 (Ji d 0 l) (Mj k0 s (Int.toNat (X3 d a), 0)) := rfl
      rw [hbk]
      have ih := UT d k0 l (k + 1) (Mj k0 s (Int.toNat (X3 d a), 0)) b (by rw [D5]; exact hk) hb
      by_cases h1 : nth s k0 < nth s (Int.toNat (X3 d a))
      · have e : Mj k0 s (Int.toNat (X3 d a), 0) = List.set s k0 (nth s (Int.toNat (X3 d a))) := by unfold Mj; simp [h1]
        rw [decide_eq_true h1, cond_true]
        rw [e] at ih ⊢; exact ih
      have e : Mj k0 s (Int.toNat (X3 d a), 0) = s := by unfold Mj; simp [h1]
      rw [decide_eq_false h1, cond_false]
      rw [e] at ih ⊢; exact ih
    rw [if_neg h0, decide_eq_false h0, Bool.false_and, cond_false]
    exact UT d k0 l (k + 1) s b hk h
theorem UU (d : List Zw) (k0 : Nat) : ∀ (l : List ByteArray) (k : Nat) (s : List Int) (b : Int), k0 < s.length → Low b s → b + l.length ≤ 1000000 → Yt (Vu d k0) Hz l k s = .brk (Hd k0 (Ji d 1 l) s) ∧ Low (b + l.length) (Hd k0 (Ji d 1 l) s)
  | [], k, s, b, _, h, _ => ⟨rfl, by show Low (b + ((0 : Nat) : Int)) s; simpa using h⟩
  | a :: l, k, s, b, hk, h, hb => by
    rw [List.length_cons] at hb ⊢
    have hf : Vu d k0 k a s = (bif (decide (0 ≤ X3 d a) && decide (nth s k0 < IntKind.i64.wrap (nth s (Int.toNat (X3 d a)) + 1))) then .next (List.set s k0 (IntKind.i64.wrap (nth s (Int.toNat (X3 d a)) + 1))) else .next s) := rfl
    simp only [Yt, hf, Ji]
    have hl : b + ((l.length + 1 : Nat) : Int) = b + 1 + (l.length : Int) := by omega
    have hw : IntKind.i64.wrap (nth s (Int.toNat (X3 d a)) + 1) = nth s (Int.toNat (X3 d a)) + 1 := IntWalk.i64_in _ (by have := h (Int.toNat (X3 d a)); omega)
    rw [hl] at hb ⊢
    by_cases h0 : 0 ≤ X3 d a
    · rw [if_pos h0, decide_eq_true h0, Bool.true_and, hw]
      have hlow := BM (w := 1) (p := Int.toNat (X3 d a)) hk (by omega) h
      have hbk : Hd k0 ((Int.toNat (X3 d a), 1) :: Ji d 1 l) s = Hd k0 (Ji d 1 l) (Mj k0 s (Int.toNat (X3 d a), 1)) := rfl
      rw [hbk]
      have ih := UU d k0 l (k + 1) (Mj k0 s (Int.toNat (X3 d a), 1)) (b + 1) (by rw [D5]; exact hk) hlow hb
      by_cases h1 : nth s k0 < nth s (Int.toNat (X3 d a)) + 1
      · have e : Mj k0 s (Int.toNat (X3 d a), 1) = List.set s k0 (nth s (Int.toNat (X3 d a)) + 1) := by unfold Mj; rw [if_pos h1]
        rw [decide_eq_true h1, cond_true]
        rw [e] at ih ⊢; exact ih
      have e : Mj k0 s (Int.toNat (X3 d a), 1) = s := by unfold Mj; rw [if_neg h1]
      rw [decide_eq_false h1, cond_false]
      rw [e] at ih ⊢; exact ih
    rw [if_neg h0, decide_eq_false h0, Bool.false_and, cond_false]
    exact UU d k0 l (k + 1) s (b + 1) hk (fun j => by have := h j; omega) hb
theorem Rv (q : List Qw) (b : Bool) : ∀ (l : List Bool) (k : Nat) (s : List ByteArray), ∃ t, Yt (K1 q b) Wf l k s = .brk t ∧ t.length ≤ s.length + l.length
  | [], k, s => ⟨s, rfl, by simp⟩
  | a :: l, k, s => by
    simp only [Yt, K1]
    cases (Kk (nth q k) && (a == b)) with
    | true =>
      obtain ⟨t, h1, h2⟩ := Rv q b l (k + 1) (s ++ [(nth q k).2.2.2.1])
      exact ⟨t, h1, by simp at h2 ⊢; omega⟩
    | false =>
      obtain ⟨t, h1, h2⟩ := Rv q b l (k + 1) s
      exact ⟨t, h1, by simp at h2 ⊢; omega⟩
theorem PS (q : List Qw) : List.length (Ye q) ≤ 9 := by
  cases hv : Qj q with
  | true => have := Ib q; have := (Ei hv).2; omega
  | false => unfold Ye; rw [hv]; simp
theorem Qen (q : List Qw) (b : Bool) : List.length (Ki q b) ≤ 9 := by
  unfold Ki
  obtain ⟨t, h1, h2⟩ := Rv q b (Ye q) 0 []
  rw [h1]
  have h3 := PS q
  have h4 := IJ (Fe t)
  rw [JO] at h4
  show (Rn (Fe t)).length ≤ 9
  simp at h2
  omega
theorem IZ (i : Nat) (E1 E2 : Jw) (L : List Int) : Hd i (E1 ++ E2) L = Hd i E2 (Hd i E1 L) := List.foldl_append
theorem Qbf {d : List Zw} {k : Nat} {a : Zw} {s : List Int} {b : Int} (hk : d[k]? = some a) (hs : s.length = d.length) (h : Low b s) (hb : b + 9 ≤ 1000000) : Ks d k a s = .next (Hd k (Jg d k) s) ∧ Low (b + 9) (Hd k (Jg d k) s) := by
  have hkl : k < d.length := (List.getElem?_eq_some_iff.1 hk).1
  have ha : nth d k = a := SR hk
  obtain ⟨h1, h2⟩ := UT d k (Xx a.2) 0 s b (by omega) h
  have h9 : (Xy a.2).length ≤ 9 := Qen a.2 true
  obtain ⟨h3, h4⟩ := UU d k (Xy a.2) 0 (Hd k (Ji d 0 (Xx a.2)) s) b (by rw [B5]; omega) h2 (by omega)
  have he : Jg d k = Ji d 0 (Xx a.2) ++ Ji d 1 (Xy a.2) := by unfold Jg; rw [if_pos hkl, ha]
  rw [he, IZ]
  refine ⟨?_, fun j => by have := h4 j; omega⟩
  unfold Ks
  rw [DK, DL, h1]
  simp only [Out.on]
  rw [h3]
theorem QC {d : List Zw} : ∀ (l : List Zw) (k : Nat) (s : List Int) (b : Int), d.drop k = l → s.length = d.length → Low b s → b + 9 * l.length ≤ 1000000 → Yt (Ks d) H0 l k s = .brk (Uz (Jg d) (List.range' k l.length) s) ∧ Low (b + 9 * l.length) (Uz (Jg d) (List.range' k l.length) s)
  | [], k, s, b, _, _, h, _ => ⟨rfl, by show Low (b + 9 * ((0 : Nat) : Int)) s; simpa using h⟩
  | a :: l, k, s, b, hl, hs, h, hb => by
    have hk : d[k]? = some a := by
      have := congrArg (·[0]?) hl
      simpa using this
    have hrest : d.drop (k + 1) = l := by rw [← List.drop_drop, hl]; rfl
    rw [List.length_cons] at hb ⊢
    obtain ⟨h1, h2⟩ := Qbf hk hs h (by omega)
    have e : b + 9 * ((l.length + 1 : Nat) : Int) = b + 9 + 9 * (l.length : Int) := by omega
    rw [e] at hb ⊢
    obtain ⟨h3, h4⟩ := QC l (k + 1) (Hd k (Jg d k) s) (b + 9) hrest (by rw [B5]; exact hs) h2 hb
    simp only [Yt, h1, List.range'_succ]
    exact ⟨h3, h4⟩
theorem QD {d : List Zw} {s : List Int} {b : Int} (hs : s.length = d.length) (h : Low b s) (hb : b + 9 * d.length ≤ 1000000) : Jz d s = Uz (Jg d) (List.range d.length) s ∧ Low (b + 9 * d.length) (Uz (Jg d) (List.range d.length) s) := by
  obtain ⟨h1, h2⟩ := QC d 0 s b rfl hs h hb
  have e1 : List.range' 0 d.length = List.range d.length := (List.range_eq_range' ..).symm
  rw [e1] at h1 h2
  refine ⟨?_, h2⟩
  unfold Jz
  rw [h1]
  rfl
theorem Rw {d : List Zw} (hd : d.length ≤ 5) : ∀ (n k m : Nat), m + n ≤ 1000 → Low (45 * m) (Wx (Jg d) d.length m) → Jn (Bo d) D6 n k (Wx (Jg d) d.length m) = .brk (Wx (Jg d) d.length (m + n)) ∧ Low (45 * (m + n)) (Wx (Jg d) d.length (m + n))
  | 0, k, m, _, h => ⟨rfl, by simpa using h⟩
  | n + 1, k, m, hm, h => by
    obtain ⟨h1, h2⟩ := QD (F2 (Jg d) d.length m) h (by omega)
    have e : Wx (Jg d) d.length (m + 1) = Uz (Jg d) (List.range d.length) (Wx (Jg d) d.length m) := rfl
    simp only [Jn, Bo, h1]
    rw [← e] at h2 ⊢
    have := Rw hd n (k + 1) (m + 1) (by omega) (fun j => by have := h2 j; omega)
    rw [show m + (n + 1) = m + 1 + n by omega]
    refine ⟨this.1, fun j => by have := this.2 j; omega⟩
theorem LA (b : List Int) : ∀ (l : List Int) (k : Nat), l.length = (b.drop k).length → Out.on (Yt (U2 b) Aw l k ()) (fun _ => true) = decide (l = b.drop k)
  | [], k, h => by
    have : b.drop k = [] := List.eq_nil_of_length_eq_zero (by rw [← h]; rfl)
    rw [this]; rfl
  | a :: l, k, h => by
    have hk : k < b.length := by simp only [List.length_cons, List.length_drop] at h; omega
    have hd : b.drop k = nth b k :: b.drop (k + 1) := by
      rw [List.drop_eq_getElem_cons hk, show nth b k = b[k] by simp [nth, List.getD, hk]]
    rw [hd] at h ⊢
    simp only [Yt, U2]
    by_cases e : a = nth b k
    · rw [show (a != nth b k) = false by simp [e], cond_false, LA b l (k + 1) (by simpa using h)]
      simp [e]
    rw [show (a != nth b k) = true by simp [e], cond_true]
    simp [e, Out.on]
theorem Qbg (a b : List Int) (h : a.length = b.length) : B8 a b = decide (a = b) := by
  unfold B8
  rw [show ((a.length : Int) != (b.length : Int)) = false by simp [h], cond_false, LA b a 0 (by simpa using h), List.drop_zero]
theorem KB (d : List Zw) : Wj d = Vv d := by
  unfold Wj Vv
  rw [← XY]
  cases hv : Zm d with
  | false => rfl
  | true =>
    have h5 := Lo hv
    obtain ⟨hn, _⟩ := Qdb ((XY d).symm.trans hv)
    simp only [Bool.not_true, cond_false]
    have hz : Wx (Jg d) d.length 0 = List.replicate (Int.toNat (d.length : Int)) (0 : Int) := by rw [Int.toNat_natCast]; rfl
    have hnn : d.length * d.length ≤ 25 := Nat.le_trans (Nat.mul_le_mul h5 h5) (by decide)
    obtain ⟨h1, h2⟩ := Rw (d := d) h5 (d.length * d.length + 2) 0 0 (by omega) (fun j => by rw [hz, Int.toNat_natCast, Ow]; omega)
    rw [hz, Nat.zero_add] at h1
    rw [Nat.zero_add] at h2
    rw [hn, show Int.toNat (((d.length * d.length + 1 : Nat) : Int) + 1) = d.length * d.length + 2 by omega, h1]
    simp only [Out.on]
    have hlen := F2 (Jg d) d.length (d.length * d.length + 2)
    obtain ⟨h3, _⟩ := QD (d := d) hlen h2 (by omega)
    rw [h3, Qbg _ _ (by rw [Ii])]
    have hw := Ru (d := d) (f := H1 d) (e := H2) (F := V7 d) (fun _ _ _ => rfl) (fun _ _ => rfl) (fun _ => rfl) (by omega) (d.length * d.length + 3) (List.replicate d.length 0) true (F3 _).1 (F3 _).2
    have hsome : (Sv (Jg d) d.length d.length (d.length * d.length + 3) (true, List.replicate d.length 0)).isSome = true := by
      have := N2 d h5
      rw [Int.toNat_natCast, hw, Option.isSome_map] at this
      exact this
    obtain ⟨r, hr⟩ := Option.isSome_iff_exists.1 hsome
    unfold JH
    rw [Int.toNat_natCast, hw, hr]
    obtain ⟨h6, h7⟩ := IS (E := Jg d) (n := d.length) (fun i e he => IW d i e he) hr
    by_cases hfix : Uz (Jg d) (List.range d.length) (Wx (Jg d) d.length (d.length * d.length + 2)) = Wx (Jg d) d.length (d.length * d.length + 2)
    · rw [h6 hfix, decide_eq_true hfix]
      rfl
    rw [h7 hfix, decide_eq_false hfix]
    rfl
open GoE (enc wide)
def Wg (name : ByteArray) (_ : Nat) (a0 : X6) (_ : Unit) : Rd (Int) (Unit) (Unit) := (bif (a0.1.toList == name.toList) then (.ret a0.2) else (.next ()))
def U9 (_ : Nat) (_ : Unit) : Unit := ()
def V8 (s_ : (List X6)) (name : ByteArray) : Int := (Out.on (Yt (Wg name) U9 s_ 0 ()) (fun _ => 0))
theorem Rx (s_ : (List X6)) (name : ByteArray) : ACalls Tryz.prog 214 [.h s_, .s name] (.i (V8 s_ name)) := by
 refine en Qa Tryz.func214 fun w0 F0 hG => ?_
 refine sn Qa [0, 1, 4] [] (p0) ?_
 refine Qc ?_
 refine tn Qa [1, 4, 7, 8, 9] [] (pl 1 s_ p0) ?_
 refine mz [(4, .i 0), (7, .h s_), (8, .i (s_.length : Int)), (9, .i 0)] [0] [] [] ?_
 refine wT 7 0 .sh s_ (fun hw1 hl2 => ?_)
 refine Su (Wg name) U9 s_ () (fun k0 _ => [(9, .i ((k0 : Nat) : Int))]) [9] (fun _ => []) [1, 7, 8, 9] wf0 (fun k0 s0 hk0 hI0 => ?_) (fun k0 s0 hk0 hI0 => ?_) (fun y0 hD0 => ?_)
 ·
  obtain ⟨a0, hx0⟩ := Yi (l := s_) (i := k0) hk0
  refine sn Qa [1, 4, 7, 8, 9, 10] [] (pe 0 (Qz (decide_eq_true (p := ((k0 : Nat) : Int) < (s_.length : Int)) (by omega))) p0) ?_
  refine Qc ?_
  refine ckT ?_
  refine Qf ?_
  refine Qc ?_
  refine Qy ?_
  refine tn Qa [1, 4, 6, 7, 8, 9] [6] (pn 0 hx0 p0) ?_
  refine tu Qa [(6, .p 6 0), (16, .b (a0.1.toList == name.toList))] [] [(6, [.s a0.1, .i a0.2])] [] (p0) ?_
  refine ck (a0.1.toList == name.toList) (fun h3 => ?_) (fun h3 => ?_)
  ·
   refine sn Qa [1, 4, 7, 8, 9] [] (p0) ?_
   refine Qe ?_
   have hr4 : (Yt (Wg name) U9 s_ 0 ()) = .ret a0.2 := Kh hx0 (Xi h3 (rfl)) hI0
   exact pi [] (N7 hr4)
  refine Qf ?_
  refine rn Qa [1, 4, 7, 8, 9] [] (pe 0 (Jr (Q1 k0 (by omega))) p0) ?_
  exact xw _ (Xl hx0 (Qk h3 (rfl)) hI0)
 ·
  refine sn Qa [1, 4, 7, 8, 9, 10] [] (pe 0 (Qz (decide_eq_false (p := ((k0 : Nat) : Int) < (s_.length : Int)) (by omega))) p0) ?_
  refine Qc ?_
  refine ckF ?_
  refine Xs ?_
  exact xw _ (Yn hk0 (rfl) hI0)
 refine sn Qa [4] [] (p0) ?_
 refine Qe ?_
 exact pi [] (V4 hD0 (rfl))
def Yy (s_ : (List X6)) (name : ByteArray) (v : Jf) : Bool := ((Qu v) && ((v.1 != (0 : Int)) && (v.1 == (V8 s_ name))))
theorem B9 (s_ : (List X6)) (name : ByteArray) (v : Jf) : ACalls Tryz.prog 183 [.h s_, .s name, .a [.i v.1, .i v.2.1, .s v.2.2]] (.b (Yy s_ name v)) := by
 refine en Qa Tryz.func183 fun w0 F0 hG => ?_
 refine sn Qa [0, 1, 5, 6] [5] (p0) ?_
 refine Qc ?_
 refine mz [(5, .p 5 0), (6, .b false)] [2] [(5, [.i v.1, .i v.2.1, .s v.2.2])] [] ?_
 refine jn [(6, .b ((Qu v) && ((v.1 != (0 : Int)) && (v.1 == (V8 s_ name)))))] [0, 1, 5, 6] [] [5] (Qu v) (fun h1 => ?_) (fun h1 => ?_) ?_
 ·
  refine Xr (v.1 != (0 : Int)) (fun h2 => ?_) (fun h2 => ?_)
  ·
   refine rN Qa Yp [6] [] (pc 1 (cb h1 (Zd v)) (pt 5 h2 (pc 12 (Rx s_ name) p0))) ?_
   exact ⟨rfl, Qd (by rw [h1, h2] <;> kernel_rfl)⟩
  refine rN Qa Yp [6] [] (pc 1 (cb h1 (Zd v)) (pf 5 h2 p0)) ?_
  exact ⟨rfl, Qd (by rw [h1, h2] <;> kernel_rfl)⟩
 ·
  refine rN Qa Yp [6] [] (pc 1 (cb h1 (Zd v)) p0) ?_
  exact ⟨rfl, Qd (by rw [h1] <;> kernel_rfl)⟩
 refine Qe ?_
 exact pb [] (show Yy s_ name v = ((Qu v) && ((v.1 != (0 : Int)) && (v.1 == (V8 s_ name)))) from rfl)
def Aj (n : Int) : Bool := (Q9 n 0 2)
theorem Fh (n : Int) : ACalls Tryz.prog 184 [.i n] (.b (Aj n)) := by
 refine en Qa Tryz.func184 fun w0 F0 hG => ?_
 refine sn Qa [0, 2] [] (p0) ?_
 refine tn Qa [2] [] (pc 1 (Zc n 0 2) p0) ?_
 refine Qe ?_
 exact pb [] (show Aj n = (Q9 n 0 2) from rfl)
def Kf (s_ : (List X6)) (k0 : Nat) (a0 : X6) (_ : Unit) : Rd (Bool) (Unit) (Unit) := (bif ((!(Qs a0.1)) || (bif (a0.2 != (1 : Int)) then ((a0.2 != (2 : Int)) || (decide (((k0 : Nat) : Int) > (0 : Int)) && (!(Op.bytesLess ((nth s_ (Int.toNat (((k0 : Nat) : Int) - 1))).1).toList a0.1.toList)))) else (decide (((k0 : Nat) : Int) > (0 : Int)) && (!(Op.bytesLess ((nth s_ (Int.toNat (((k0 : Nat) : Int) - 1))).1).toList a0.1.toList))))) then (.ret false) else (.next ()))
def Vo (_ : Nat) (_ : Unit) : Unit := ()
def Za (s_ : (List X6)) : Bool := (Out.on (Yt (Kf s_) Vo s_ 0 ()) (fun _ => decide ((s_.length : Int) ≤ (5 : Int))))
theorem V9 (s_ : (List X6)) : ACalls Tryz.prog 148 [.h s_] (.b (Za s_)) := by
 refine en Qa Tryz.func148 fun w0 F0 hG => ?_
 refine sn Qa [0, 2] [] (p0) ?_
 refine Qc ?_
 refine tn Qa [0, 2, 5, 6, 7] [] (pl 1 s_ p0) ?_
 refine mz [(2, .b false), (5, .h s_), (6, .i (s_.length : Int)), (7, .i 0)] [] [] [] ?_
 refine wT 0 0 .sh s_ (fun hw1 hl2 => ?_)
 refine Su (Kf s_) Vo s_ () (fun k0 _ => [(7, .i ((k0 : Nat) : Int))]) [7] (fun _ => []) [5, 6, 7] wf0 (fun k0 s0 hk0 hI0 => ?_) (fun k0 s0 hk0 hI0 => ?_) (fun y0 hD0 => ?_)
 ·
  obtain ⟨a0, hx0⟩ := Yi (l := s_) (i := k0) hk0
  refine sn Qa [0, 2, 5, 6, 7, 8] [] (pe 0 (Qz (decide_eq_true (p := ((k0 : Nat) : Int) < (s_.length : Int)) (by omega))) p0) ?_
  refine Qc ?_
  refine ckT ?_
  refine Qf ?_
  refine Qc ?_
  refine Qy ?_
  refine tn Qa [0, 2, 3, 4, 5, 6, 7] [4] (pn 1 hx0 p0) ?_
  refine Qc ?_
  refine mz [(3, .i ((k0 : Nat) : Int)), (4, .p 4 0)] [] [(4, [.s a0.1, .i a0.2])] [] ?_
  refine jn [(40, .b ((!(Qs a0.1)) || (bif (a0.2 != (1 : Int)) then ((a0.2 != (2 : Int)) || (decide (((k0 : Nat) : Int) > (0 : Int)) && (!(Op.bytesLess ((nth s_ (Int.toNat (((k0 : Nat) : Int) - 1))).1).toList a0.1.toList)))) else (decide (((k0 : Nat) : Int) > (0 : Int)) && (!(Op.bytesLess ((nth s_ (Int.toNat (((k0 : Nat) : Int) - 1))).1).toList a0.1.toList))))))] [3, 4] [] [4] (!(Qs a0.1)) (fun h3 => ?_) (fun h3 => ?_) ?_
  ·
   have h3n : (Qs a0.1) = false := Vz h3
   refine rN Qa Yp [0, 2, 5, 6, 7, 40] [] (pc 2 (cb h3n (Yb a0.1)) (pe 3 (show .b (!false) = .b true from rfl) p0)) ?_
   exact ⟨rfl, Qd (by rw [h3] <;> kernel_rfl)⟩
  ·
   have h3n : (Qs a0.1) = true := Jb h3
   refine Xr (a0.2 != (1 : Int)) (fun h4 => ?_) (fun h4 => ?_)
   ·
    have h4d := Rj h4
    refine Xr (a0.2 != (2 : Int)) (fun h5 => ?_) (fun h5 => ?_)
    ·
     refine rN Qa Yp [0, 2, 5, 6, 7, 40] [] (pc 2 (cb h3n (Yb a0.1)) (pe 3 (show .b (!true) = .b false from rfl) (pt 7 h4 (pt 11 h5 p0)))) ?_
     exact ⟨rfl, Qd (by rw [h3, h4, h5] <;> kernel_rfl)⟩
    have h5d := Hs h5
    refine Xr (decide (((k0 : Nat) : Int) > (0 : Int))) (fun h6 => ?_) (fun h6 => ?_)
    ·
     have h6d := of_decide_eq_true h6
     have hx7 := ng s_ (Int.toNat (((k0 : Nat) : Int) - 1))
     refine rN Qa Yp [0, 2, 5, 6, 7, 40] [] (pc 2 (cb h3n (Yb a0.1)) (pe 3 (show .b (!true) = .b false from rfl) (pt 7 h4 (pf 11 h5 (pt 16 h6 (pe 20 (Jr (IntWalk.i64_in (((k0 : Nat) : Int) - 1) (by omega))) (pg 21 (((k0 : Nat) : Int) - 1) hx7 p0))))))) ?_
     exact ⟨rfl, Qd (by rw [h3, h4, h5, h6] <;> kernel_rfl)⟩
    refine rN Qa Yp [0, 2, 5, 6, 7, 40] [] (pc 2 (cb h3n (Yb a0.1)) (pe 3 (show .b (!true) = .b false from rfl) (pt 7 h4 (pf 11 h5 (pf 16 h6 p0))))) ?_
    exact ⟨rfl, Qd (by rw [h3, h4, h5, h6] <;> kernel_rfl)⟩
   have h4d := Hs h4
   refine Xr (decide (((k0 : Nat) : Int) > (0 : Int))) (fun h8 => ?_) (fun h8 => ?_)
   ·
    have h8d := of_decide_eq_true h8
    have hx9 := ng s_ (Int.toNat (((k0 : Nat) : Int) - 1))
    refine rN Qa Yp [0, 2, 5, 6, 7, 40] [] (pc 2 (cb h3n (Yb a0.1)) (pe 3 (show .b (!true) = .b false from rfl) (pf 7 h4 (pt 16 h8 (pe 20 (Jr (IntWalk.i64_in (((k0 : Nat) : Int) - 1) (by omega))) (pg 21 (((k0 : Nat) : Int) - 1) hx9 p0)))))) ?_
    exact ⟨rfl, Qd (by rw [h3, h4, h8] <;> kernel_rfl)⟩
   refine rN Qa Yp [0, 2, 5, 6, 7, 40] [] (pc 2 (cb h3n (Yb a0.1)) (pe 3 (show .b (!true) = .b false from rfl) (pf 7 h4 (pf 16 h8 p0)))) ?_
   exact ⟨rfl, Qd (by rw [h3, h4, h8] <;> kernel_rfl)⟩
  refine ck ((!(Qs a0.1)) || (bif (a0.2 != (1 : Int)) then ((a0.2 != (2 : Int)) || (decide (((k0 : Nat) : Int) > (0 : Int)) && (!(Op.bytesLess ((nth s_ (Int.toNat (((k0 : Nat) : Int) - 1))).1).toList a0.1.toList)))) else (decide (((k0 : Nat) : Int) > (0 : Int)) && (!(Op.bytesLess ((nth s_ (Int.toNat (((k0 : Nat) : Int) - 1))).1).toList a0.1.toList))))) (fun h10 => ?_) (fun h10 => ?_)
  ·
   refine su Qa [] [40] [] [] (p0) ?_
   refine Qe ?_
   have hr11 : (Yt (Kf s_) Vo s_ 0 ()) = .ret false := Kh hx0 (Xi h10 (rfl)) hI0
   exact pb [] (N7 hr11)
  refine Qf ?_
  refine rn Qa [0, 2, 5, 6, 7] [] (pe 0 (Jr (Q1 k0 (by omega))) p0) ?_
  exact xw _ (Xl hx0 (Qk h10 (rfl)) hI0)
 ·
  refine sn Qa [0, 2, 5, 6, 7, 8] [] (pe 0 (Qz (decide_eq_false (p := ((k0 : Nat) : Int) < (s_.length : Int)) (by omega))) p0) ?_
  refine Qc ?_
  refine ckF ?_
  refine Xs ?_
  exact xw _ (Yn hk0 (rfl) hI0)
 refine sn Qa [2] [] (pl 1 s_ p0) ?_
 refine Qe ?_
 exact pb [] (V4 hD0 (rfl))
def Vb (s_ : (List X6)) (f : Zl) (k0 : Nat) (a0 : Kz) (_ : Unit) : Rd (Bool) (Unit) (Unit) := (bif (bif decide (((k0 : Nat) : Int) > (0 : Int)) then ((!(Op.bytesLess ((nth f.2.2.2.2 (Int.toNat (((k0 : Nat) : Int) - 1))).1).toList a0.1.toList)) || (!(Yy s_ a0.1 a0.2))) else (!(Yy s_ a0.1 a0.2))) then (.ret false) else (.next ()))
def Wq (_ : Nat) (_ : Unit) : Unit := ()
def Zn (s_ : (List X6)) (f : Zl) : Bool := (Out.on (Yt (Vb s_ f) Wq f.2.2.2.2 0 ()) (fun _ => ((Q9 f.1 1 60) && ((Aj f.2.1) && ((Q9 f.2.2.2.1 0 60) && (Za s_))))))
theorem Uq (s_ : (List X6)) (f : Zl) : ACalls Tryz.prog 147 [.h s_, .a [.i f.1, .i f.2.1, .b f.2.2.1, .i f.2.2.2.1, .h f.2.2.2.2]] (.b (Zn s_ f)) := by
 refine en Qa Tryz.func147 fun w0 F0 hG => ?_
 refine sn Qa [0, 3, 4] [3] (p0) ?_
 refine Qc ?_
 refine tn Qa [0, 3, 4, 8, 9, 10] [3] (pl 2 f.2.2.2.2 p0) ?_
 refine mz [(3, .p 3 0), (4, .b false), (8, .h f.2.2.2.2), (9, .i (f.2.2.2.2.length : Int)), (10, .i 0)] [1] [(3, [.i f.1, .i f.2.1, .b f.2.2.1, .i f.2.2.2.1, .h f.2.2.2.2])] [] ?_
 refine wT 8 0 .sh f.2.2.2.2 (fun hw1 hl2 => ?_)
 refine Su (Vb s_ f) Wq f.2.2.2.2 () (fun k0 _ => [(10, .i ((k0 : Nat) : Int))]) [10] (fun _ => []) [8, 9, 10] wf0 (fun k0 s0 hk0 hI0 => ?_) (fun k0 s0 hk0 hI0 => ?_) (fun y0 hD0 => ?_)
 ·
  obtain ⟨a0, hx0⟩ := Yi (l := f.2.2.2.2) (i := k0) hk0
  refine su Qa [(11, .b true)] [] [] [] (pe 0 (Qz (decide_eq_true (p := ((k0 : Nat) : Int) < (f.2.2.2.2.length : Int)) (by omega))) p0) ?_
  refine Qc ?_
  refine ckT ?_
  refine Qf ?_
  refine Qc ?_
  refine Qy ?_
  refine sn Qa [0, 3, 4, 5, 6, 8, 9, 10] [3, 6] (pn 1 hx0 p0) ?_
  refine Qc ?_
  refine mz [(5, .i ((k0 : Nat) : Int)), (6, .p 6 0)] [11] [(6, [.s a0.1, .i a0.2.1, .i a0.2.2.1, .s a0.2.2.2])] [] ?_
  refine jn [(37, .b (bif decide (((k0 : Nat) : Int) > (0 : Int)) then ((!(Op.bytesLess ((nth f.2.2.2.2 (Int.toNat (((k0 : Nat) : Int) - 1))).1).toList a0.1.toList)) || (!(Yy s_ a0.1 a0.2))) else (!(Yy s_ a0.1 a0.2))))] [5, 6] [] [6] (decide (((k0 : Nat) : Int) > (0 : Int))) (fun h3 => ?_) (fun h3 => ?_) ?_
  ·
   have h3d := of_decide_eq_true h3
   refine Xr (!(Op.bytesLess ((nth f.2.2.2.2 (Int.toNat (((k0 : Nat) : Int) - 1))).1).toList a0.1.toList)) (fun h4 => ?_) (fun h4 => ?_)
   ·
    have hx5 := ng f.2.2.2.2 (Int.toNat (((k0 : Nat) : Int) - 1))
    refine rN Qa Yp [0, 3, 4, 8, 9, 10, 37] [3] (pt 1 h3 (pe 6 (Jr (IntWalk.i64_in (((k0 : Nat) : Int) - 1) (by omega))) (pg 7 (((k0 : Nat) : Int) - 1) hx5 (pt 12 h4 p0)))) ?_
    exact ⟨rfl, Qd (by rw [h3, h4] <;> kernel_rfl)⟩
   have hx6 := ng f.2.2.2.2 (Int.toNat (((k0 : Nat) : Int) - 1))
   refine rN Qa Yp [0, 3, 4, 8, 9, 10, 37] [3] (pt 1 h3 (pe 6 (Jr (IntWalk.i64_in (((k0 : Nat) : Int) - 1) (by omega))) (pg 7 (((k0 : Nat) : Int) - 1) hx6 (pf 12 h4 (pc 20 (B9 s_ a0.1 a0.2) p0))))) ?_
   exact ⟨rfl, Qd (by rw [h3, h4] <;> kernel_rfl)⟩
  ·
   refine rN Qa Yp [0, 3, 4, 8, 9, 10, 37] [3] (pf 1 h3 (pc 20 (B9 s_ a0.1 a0.2) p0)) ?_
   exact ⟨rfl, Qd (by rw [h3] <;> kernel_rfl)⟩
  refine ck (bif decide (((k0 : Nat) : Int) > (0 : Int)) then ((!(Op.bytesLess ((nth f.2.2.2.2 (Int.toNat (((k0 : Nat) : Int) - 1))).1).toList a0.1.toList)) || (!(Yy s_ a0.1 a0.2))) else (!(Yy s_ a0.1 a0.2))) (fun h7 => ?_) (fun h7 => ?_)
  ·
   refine su Qa [] [37] [] [] (p0) ?_
   refine Qe ?_
   have hr8 : (Yt (Vb s_ f) Wq f.2.2.2.2 0 ()) = .ret false := Kh hx0 (Xi h7 (rfl)) hI0
   exact pb [] (N7 hr8)
  refine Qf ?_
  refine rn Qa [0, 3, 4, 8, 9, 10] [3] (pe 0 (Jr (Q1 k0 (by omega))) p0) ?_
  exact xw _ (Xl hx0 (Qk h7 (rfl)) hI0)
 ·
  refine su Qa [(11, .b false)] [] [] [] (pe 0 (Qz (decide_eq_false (p := ((k0 : Nat) : Int) < (f.2.2.2.2.length : Int)) (by omega))) p0) ?_
  refine Qc ?_
  refine ckF ?_
  refine Xs ?_
  exact xw _ (Yn hk0 (rfl) hI0)
 refine Qc ?_
 refine jn [(4, .b ((Q9 f.1 1 60) && ((Aj f.2.1) && ((Q9 f.2.2.2.1 0 60) && (Za s_)))))] [0, 3, 4] [] [3] (Q9 f.1 1 60) (fun h9 => ?_) (fun h9 => ?_) ?_
 ·
  refine Xr (Aj f.2.1) (fun h10 => ?_) (fun h10 => ?_)
  ·
   refine Xr (Q9 f.2.2.2.1 0 60) (fun h11 => ?_) (fun h11 => ?_)
   ·
    refine rn Qa [4] [] (pc 2 (cb h9 (Zc f.1 1 60)) (pc 6 (cb h10 (Fh f.2.1)) (pc 11 (cb h11 (Zc f.2.2.2.1 0 60)) (pc 15 (V9 s_) p0)))) ?_
    exact ⟨rfl, Qd (by rw [h9, h10, h11] <;> kernel_rfl)⟩
   refine rn Qa [4] [] (pc 2 (cb h9 (Zc f.1 1 60)) (pc 6 (cb h10 (Fh f.2.1)) (pc 11 (cb h11 (Zc f.2.2.2.1 0 60)) p0))) ?_
   exact ⟨rfl, Qd (by rw [h9, h10, h11] <;> kernel_rfl)⟩
  refine rn Qa [4] [] (pc 2 (cb h9 (Zc f.1 1 60)) (pc 6 (cb h10 (Fh f.2.1)) p0)) ?_
  exact ⟨rfl, Qd (by rw [h9, h10] <;> kernel_rfl)⟩
 ·
  refine rn Qa [4] [] (pc 2 (cb h9 (Zc f.1 1 60)) p0) ?_
  exact ⟨rfl, Qd (by rw [h9] <;> kernel_rfl)⟩
 refine Qe ?_
 exact pb [] (V4 hD0 (rfl))
def Kt (s_ : V0) (k0 : Nat) (a0 : Zl) (_ : Unit) : Rd (Bool) (Unit) (Unit) := (bif ((!(Zn s_.1 a0)) || (decide (a0.1 ≥ s_.2.2) || (decide (((k0 : Nat) : Int) > (0 : Int)) && decide ((nth s_.2.1 (Int.toNat (((k0 : Nat) : Int) - 1))).1 ≥ a0.1)))) then (.ret false) else (.next ()))
def Wa (_ : Nat) (_ : Unit) : Unit := ()
def Z0 (s_ : V0) : Bool := (Out.on (Yt (Kt s_) Wa s_.2.1 0 ()) (fun _ => ((Za s_.1) && (decide ((s_.2.1.length : Int) ≤ (12 : Int)) && (Q9 s_.2.2 1 61)))))
theorem Ct (s_ : V0) : ACalls Tryz.prog 113 [.a [.h s_.1, .h s_.2.1, .i s_.2.2]] (.b (Z0 s_)) := by
 refine en Qa Tryz.func113 fun w0 F0 hG => ?_
 refine sn Qa [1, 2] [1] (p0) ?_
 refine Qc ?_
 refine tn Qa [1, 2, 6, 7, 8] [1] (pl 2 s_.2.1 p0) ?_
 refine mz [(1, .p 1 0), (2, .b false), (6, .h s_.2.1), (7, .i (s_.2.1.length : Int)), (8, .i 0)] [0] [(1, [.h s_.1, .h s_.2.1, .i s_.2.2])] [] ?_
 refine wT 6 0 .sh s_.2.1 (fun hw1 hl2 => ?_)
 refine Su (Kt s_) Wa s_.2.1 () (fun k0 _ => [(8, .i ((k0 : Nat) : Int))]) [8] (fun _ => []) [6, 7, 8] wf0 (fun k0 s0 hk0 hI0 => ?_) (fun k0 s0 hk0 hI0 => ?_) (fun y0 hD0 => ?_)
 ·
  obtain ⟨a0, hx0⟩ := Yi (l := s_.2.1) (i := k0) hk0
  refine sn Qa [1, 2, 6, 7, 8, 9] [1] (pe 0 (Qz (decide_eq_true (p := ((k0 : Nat) : Int) < (s_.2.1.length : Int)) (by omega))) p0) ?_
  refine Qc ?_
  refine ckT ?_
  refine Qf ?_
  refine Qc ?_
  refine Qy ?_
  refine tn Qa [1, 2, 3, 4, 6, 7, 8] [1, 4] (pn 1 hx0 p0) ?_
  refine Qc ?_
  refine mz [(3, .i ((k0 : Nat) : Int)), (4, .p 4 0)] [] [(4, [.i a0.1, .i a0.2.1, .b a0.2.2.1, .i a0.2.2.2.1, .h a0.2.2.2.2])] [] ?_
  refine jn [(40, .b ((!(Zn s_.1 a0)) || (decide (a0.1 ≥ s_.2.2) || (decide (((k0 : Nat) : Int) > (0 : Int)) && decide ((nth s_.2.1 (Int.toNat (((k0 : Nat) : Int) - 1))).1 ≥ a0.1)))))] [3, 4] [] [4] (!(Zn s_.1 a0)) (fun h3 => ?_) (fun h3 => ?_) ?_
  ·
   have h3n : (Zn s_.1 a0) = false := Vz h3
   refine rN Qa Yp [1, 2, 6, 7, 8, 40] [1] (pc 3 (cb h3n (Uq s_.1 a0)) (pe 4 (show .b (!false) = .b true from rfl) p0)) ?_
   exact ⟨rfl, Qd (by rw [h3] <;> kernel_rfl)⟩
  ·
   have h3n : (Zn s_.1 a0) = true := Jb h3
   refine Xr (decide (a0.1 ≥ s_.2.2)) (fun h4 => ?_) (fun h4 => ?_)
   ·
    refine rN Qa Yp [1, 2, 6, 7, 8, 40] [1] (pc 3 (cb h3n (Uq s_.1 a0)) (pe 4 (show .b (!true) = .b false from rfl) (pt 10 h4 p0))) ?_
    exact ⟨rfl, Qd (by rw [h3, h4] <;> kernel_rfl)⟩
   have h4d := of_decide_eq_false h4
   refine Xr (decide (((k0 : Nat) : Int) > (0 : Int))) (fun h5 => ?_) (fun h5 => ?_)
   ·
    have h5d := of_decide_eq_true h5
    have hx6 := ng s_.2.1 (Int.toNat (((k0 : Nat) : Int) - 1))
    refine rN Qa Yp [1, 2, 6, 7, 8, 40] [1] (pc 3 (cb h3n (Uq s_.1 a0)) (pe 4 (show .b (!true) = .b false from rfl) (pf 10 h4 (pt 14 h5 (pe 19 (Jr (IntWalk.i64_in (((k0 : Nat) : Int) - 1) (by omega))) (pg 20 (((k0 : Nat) : Int) - 1) hx6 p0)))))) ?_
    exact ⟨rfl, Qd (by rw [h3, h4, h5] <;> kernel_rfl)⟩
   refine rN Qa Yp [1, 2, 6, 7, 8, 40] [1] (pc 3 (cb h3n (Uq s_.1 a0)) (pe 4 (show .b (!true) = .b false from rfl) (pf 10 h4 (pf 14 h5 p0)))) ?_
   exact ⟨rfl, Qd (by rw [h3, h4, h5] <;> kernel_rfl)⟩
  refine ck ((!(Zn s_.1 a0)) || (decide (a0.1 ≥ s_.2.2) || (decide (((k0 : Nat) : Int) > (0 : Int)) && decide ((nth s_.2.1 (Int.toNat (((k0 : Nat) : Int) - 1))).1 ≥ a0.1)))) (fun h7 => ?_) (fun h7 => ?_)
  ·
   refine su Qa [] [40] [] [] (p0) ?_
   refine Qe ?_
   have hr8 : (Yt (Kt s_) Wa s_.2.1 0 ()) = .ret false := Kh hx0 (Xi h7 (rfl)) hI0
   exact pb [] (N7 hr8)
  have h7r : ((decide (a0.1 ≥ s_.2.2) || (decide (((k0 : Nat) : Int) > (0 : Int)) && decide ((nth s_.2.1 (Int.toNat (((k0 : Nat) : Int) - 1))).1 ≥ a0.1)))) = false := UF h7
  have h7rl : (decide (a0.1 ≥ s_.2.2)) = false := UE h7r
  have h7rld := of_decide_eq_false h7rl
  refine Qf ?_
  refine rn Qa [1, 2, 6, 7, 8] [1] (pe 0 (Jr (Q1 k0 (by omega))) p0) ?_
  exact xw _ (Xl hx0 (Qk h7 (rfl)) hI0)
 ·
  refine sn Qa [1, 2, 6, 7, 8, 9] [1] (pe 0 (Qz (decide_eq_false (p := ((k0 : Nat) : Int) < (s_.2.1.length : Int)) (by omega))) p0) ?_
  refine Qc ?_
  refine ckF ?_
  refine Xs ?_
  exact xw _ (Yn hk0 (rfl) hI0)
 refine Qc ?_
 refine jn [(2, .b ((Za s_.1) && (decide ((s_.2.1.length : Int) ≤ (12 : Int)) && (Q9 s_.2.2 1 61))))] [1, 2] [] [1] (Za s_.1) (fun h9 => ?_) (fun h9 => ?_) ?_
 ·
  refine Xr (decide ((s_.2.1.length : Int) ≤ (12 : Int))) (fun h10 => ?_) (fun h10 => ?_)
  ·
   refine rn Qa [2] [] (pc 2 (cb h9 (V9 s_.1)) (pl 6 s_.2.1 (pt 7 h10 (pc 12 (Zc s_.2.2 1 61) p0)))) ?_
   exact ⟨rfl, Qd (by rw [h9, h10] <;> kernel_rfl)⟩
  refine rn Qa [2] [] (pc 2 (cb h9 (V9 s_.1)) (pl 6 s_.2.1 (pf 7 h10 p0))) ?_
  exact ⟨rfl, Qd (by rw [h9, h10] <;> kernel_rfl)⟩
 ·
  refine rn Qa [2] [] (pc 2 (cb h9 (V9 s_.1)) p0) ?_
  exact ⟨rfl, Qd (by rw [h9] <;> kernel_rfl)⟩
 refine Qe ?_
 exact pb [] (V4 hD0 (rfl))
def Bc (name : ByteArray) (_ : Nat) (a0 : X6) (_ : Unit) : Rd (Int) (Unit) (Unit) := (bif (a0.1.toList == name.toList) then (.ret a0.2) else (.next ()))
def Bd (_ : Nat) (_ : Unit) : Unit := ()
def H3 (s_ : (List X6)) (name : ByteArray) : Int := (Out.on (Yt (Bc name) Bd s_ 0 ()) (fun _ => 0))
theorem Ry (s_ : (List X6)) (name : ByteArray) : ACalls Tryz.prog 198 [.h s_, .s name] (.i (H3 s_ name)) := by
 refine en Qa Tryz.func198 fun w0 F0 hG => ?_
 refine sn Qa [0, 1, 4] [] (p0) ?_
 refine Qc ?_
 refine tn Qa [0, 1, 4, 5] [] (p0) ?_
 refine mz [(4, .i 0), (5, .i 0)] [] [] [] ?_
 refine wT 0 0 .sh s_ (fun hw1 hl2 => ?_)
 refine Su (Bc name) Bd s_ () (fun k0 _ => [(5, .i ((k0 : Nat) : Int))]) [5] (fun _ => []) [0, 1, 5] wf0 (fun k0 s0 hk0 hI0 => ?_) (fun k0 s0 hk0 hI0 => ?_) (fun y0 hD0 => ?_)
 ·
  obtain ⟨a0, hx0⟩ := Yi (l := s_) (i := k0) hk0
  refine Qc ?_
  refine sn Qa [0, 1, 4, 5, 9] [] (pl 2 s_ (pe 3 (Qz (decide_eq_true (p := ((k0 : Nat) : Int) < (s_.length : Int)) (by omega))) p0)) ?_
  refine ckT ?_
  refine Qf ?_
  refine Qc ?_
  refine Qy ?_
  refine tn Qa [0, 1, 4, 5, 18] [] (pn 2 hx0 p0) ?_
  refine ck (a0.1.toList == name.toList) (fun h3 => ?_) (fun h3 => ?_)
  ·
   refine tu Qa [(4, .i a0.2)] [4] [] [] (pn 2 hx0 p0) ?_
   refine Qe ?_
   have hr4 : (Yt (Bc name) Bd s_ 0 ()) = .ret a0.2 := Kh hx0 (Xi h3 (rfl)) hI0
   exact pi [] (N7 hr4)
  refine Qf ?_
  refine qu Qa [(5, .i ((k0 + 1 : Nat) : Int))] [5] [] [] (pe 1 (Jr (Q1 k0 (by omega))) p0) ?_
  exact xw _ (Xl hx0 (Qk h3 (rfl)) hI0)
 ·
  refine Qc ?_
  refine sn Qa [0, 1, 4, 5, 9] [] (pl 2 s_ (pe 3 (Qz (decide_eq_false (p := ((k0 : Nat) : Int) < (s_.length : Int)) (by omega))) p0)) ?_
  refine ckF ?_
  refine Xs ?_
  exact xw _ (Yn hk0 (rfl) hI0)
 refine sn Qa [4] [] (p0) ?_
 refine Qe ?_
 exact pi [] (V4 hD0 (rfl))
def Zq (s_ : (List X6)) (name : ByteArray) (v : Jf) : Bool := ((Xg v) && ((v.1 != (0 : Int)) && (v.1 == (H3 s_ name))))
theorem He (s_ : (List X6)) (name : ByteArray) (v : Jf) : ACalls Tryz.prog 169 [.h s_, .s name, .a [.i v.1, .i v.2.1, .s v.2.2]] (.b (Zq s_ name v)) := by
 refine en Qa Tryz.func169 fun w0 F0 hG => ?_
 refine sn Qa [0, 1, 5, 6] [5] (p0) ?_
 refine Qc ?_
 refine mz [(5, .p 5 0), (6, .b false)] [2] [(5, [.i v.1, .i v.2.1, .s v.2.2])] [] ?_
 refine jn [(6, .b ((Xg v) && ((v.1 != (0 : Int)) && (v.1 == (H3 s_ name)))))] [0, 1, 5, 6] [] [5] (Xg v) (fun h1 => ?_) (fun h1 => ?_) ?_
 ·
  refine Xr (v.1 != (0 : Int)) (fun h2 => ?_) (fun h2 => ?_)
  ·
   refine rN Qa Yp [6] [] (pc 1 (cb h1 (Ya v)) (pt 5 h2 (pc 12 (Ry s_ name) p0))) ?_
   exact ⟨rfl, Qd (by rw [h1, h2] <;> kernel_rfl)⟩
  refine rN Qa Yp [6] [] (pc 1 (cb h1 (Ya v)) (pf 5 h2 p0)) ?_
  exact ⟨rfl, Qd (by rw [h1, h2] <;> kernel_rfl)⟩
 ·
  refine rN Qa Yp [6] [] (pc 1 (cb h1 (Ya v)) p0) ?_
  exact ⟨rfl, Qd (by rw [h1] <;> kernel_rfl)⟩
 refine Qe ?_
 exact pb [] (show Zq s_ name v = ((Xg v) && ((v.1 != (0 : Int)) && (v.1 == (H3 s_ name)))) from rfl)
def Kg (s_ : (List X6)) (k0 : Nat) (a0 : X6) (_ : Unit) : Rd (Bool) (Unit) (Unit) := (bif ((!(Xb a0.1)) || ((!(Xf a0.2 1 2)) || (decide (((k0 : Nat) : Int) > (0 : Int)) && (!(Op.bytesLess ((nth s_ (Int.toNat (((k0 : Nat) : Int) - 1))).1).toList a0.1.toList))))) then (.ret false) else (.next ()))
def Vp (_ : Nat) (_ : Unit) : Unit := ()
def Z2 (s_ : (List X6)) : Bool := (Out.on (Yt (Kg s_) Vp s_ 0 ()) (fun _ => decide ((s_.length : Int) ≤ (5 : Int))))
theorem Jd (s_ : (List X6)) : ACalls Tryz.prog 133 [.h s_] (.b (Z2 s_)) := by
 refine en Qa Tryz.func133 fun w0 F0 hG => ?_
 refine sn Qa [0, 2] [] (p0) ?_
 refine Qc ?_
 refine tn Qa [0, 2, 3] [] (p0) ?_
 refine mz [(2, .b false), (3, .i 0)] [] [] [] ?_
 refine wT 0 0 .sh s_ (fun hw1 hl2 => ?_)
 refine Su (Kg s_) Vp s_ () (fun k0 _ => [(3, .i ((k0 : Nat) : Int))]) [3] (fun _ => []) [3] wf0 (fun k0 s0 hk0 hI0 => ?_) (fun k0 s0 hk0 hI0 => ?_) (fun y0 hD0 => ?_)
 ·
  obtain ⟨a0, hx0⟩ := Yi (l := s_) (i := k0) hk0
  refine Qc ?_
  refine sn Qa [0, 2, 3, 7] [] (pl 2 s_ (pe 3 (Qz (decide_eq_true (p := ((k0 : Nat) : Int) < (s_.length : Int)) (by omega))) p0)) ?_
  refine ckT ?_
  refine Qf ?_
  refine Qc ?_
  refine Qy ?_
  refine Qc ?_
  refine mz [(7, .b true)] [] [] [] ?_
  refine jn [(43, .b ((!(Xb a0.1)) || ((!(Xf a0.2 1 2)) || (decide (((k0 : Nat) : Int) > (0 : Int)) && (!(Op.bytesLess ((nth s_ (Int.toNat (((k0 : Nat) : Int) - 1))).1).toList a0.1.toList))))))] [7] [] [] (!(Xb a0.1)) (fun h3 => ?_) (fun h3 => ?_) ?_
  ·
   have h3n : (Xb a0.1) = false := Vz h3
   refine rN Qa Yp [0, 2, 3, 43] [] (pn 2 hx0 (pc 5 (cb h3n (Xt a0.1)) (pe 6 (show .b (!false) = .b true from rfl) p0))) ?_
   exact ⟨rfl, Qd (by rw [h3] <;> kernel_rfl)⟩
  ·
   have h3n : (Xb a0.1) = true := Jb h3
   refine Xr (!(Xf a0.2 1 2)) (fun h4 => ?_) (fun h4 => ?_)
   ·
    have h4n : (Xf a0.2 1 2) = false := Vz h4
    refine rN Qa Yp [0, 2, 3, 43] [] (pn 2 hx0 (pc 5 (cb h3n (Xt a0.1)) (pe 6 (show .b (!true) = .b false from rfl) (pn 10 hx0 (pc 13 (cb h4n (Y5 a0.2 1 2)) (pe 14 (show .b (!false) = .b true from rfl) p0)))))) ?_
    exact ⟨rfl, Qd (by rw [h3, h4] <;> kernel_rfl)⟩
   have h4n : (Xf a0.2 1 2) = true := Jb h4
   refine Xr (decide (((k0 : Nat) : Int) > (0 : Int))) (fun h5 => ?_) (fun h5 => ?_)
   ·
    have h5d := of_decide_eq_true h5
    have hx6 := ng s_ (Int.toNat (((k0 : Nat) : Int) - 1))
    refine rN Qa Yp [0, 2, 3, 43] [] (pn 2 hx0 (pc 5 (cb h3n (Xt a0.1)) (pe 6 (show .b (!true) = .b false from rfl) (pn 10 hx0 (pc 13 (cb h4n (Y5 a0.2 1 2)) (pe 14 (show .b (!true) = .b false from rfl) (pt 18 h5 (pe 22 (Jr (IntWalk.i64_in (((k0 : Nat) : Int) - 1) (by omega))) (pg 23 (((k0 : Nat) : Int) - 1) hx6 (pn 28 hx0 p0)))))))))) ?_
    exact ⟨rfl, Qd (by rw [h3, h4, h5] <;> kernel_rfl)⟩
   refine rN Qa Yp [0, 2, 3, 43] [] (pn 2 hx0 (pc 5 (cb h3n (Xt a0.1)) (pe 6 (show .b (!true) = .b false from rfl) (pn 10 hx0 (pc 13 (cb h4n (Y5 a0.2 1 2)) (pe 14 (show .b (!true) = .b false from rfl) (pf 18 h5 p0))))))) ?_
   exact ⟨rfl, Qd (by rw [h3, h4, h5] <;> kernel_rfl)⟩
  refine ck ((!(Xb a0.1)) || ((!(Xf a0.2 1 2)) || (decide (((k0 : Nat) : Int) > (0 : Int)) && (!(Op.bytesLess ((nth s_ (Int.toNat (((k0 : Nat) : Int) - 1))).1).toList a0.1.toList))))) (fun h7 => ?_) (fun h7 => ?_)
  ·
   refine sn Qa [0, 2, 3] [] (p0) ?_
   refine Qe ?_
   have hr8 : (Yt (Kg s_) Vp s_ 0 ()) = .ret false := Kh hx0 (Xi h7 (rfl)) hI0
   exact pb [] (N7 hr8)
  refine Qf ?_
  refine rn Qa [0, 2, 3] [] (pe 1 (Jr (Q1 k0 (by omega))) p0) ?_
  exact xw _ (Xl hx0 (Qk h7 (rfl)) hI0)
 ·
  refine Qc ?_
  refine sn Qa [0, 2, 3, 7] [] (pl 2 s_ (pe 3 (Qz (decide_eq_false (p := ((k0 : Nat) : Int) < (s_.length : Int)) (by omega))) p0)) ?_
  refine ckF ?_
  refine Xs ?_
  exact xw _ (Yn hk0 (rfl) hI0)
 refine sn Qa [2] [] (pl 1 s_ p0) ?_
 refine Qe ?_
 exact pb [] (V4 hD0 (rfl))
def Vc (s_ : (List X6)) (f : Zl) (k0 : Nat) (a0 : Kz) (_ : Unit) : Rd (Bool) (Unit) (Unit) := (bif ((!(Zq s_ a0.1 a0.2)) || (decide (((k0 : Nat) : Int) > (0 : Int)) && (!(Op.bytesLess ((nth f.2.2.2.2 (Int.toNat (((k0 : Nat) : Int) - 1))).1).toList a0.1.toList)))) then (.ret false) else (.next ()))
def Wr (_ : Nat) (_ : Unit) : Unit := ()
def Jj (s_ : (List X6)) (f : Zl) : Bool := (Out.on (Yt (Vc s_ f) Wr f.2.2.2.2 0 ()) (fun _ => ((Z2 s_) && ((Xf f.1 1 60) && ((Xf f.2.1 0 2) && (Xf f.2.2.2.1 0 60))))))
theorem Ur (s_ : (List X6)) (f : Zl) : ACalls Tryz.prog 132 [.h s_, .a [.i f.1, .i f.2.1, .b f.2.2.1, .i f.2.2.2.1, .h f.2.2.2.2]] (.b (Jj s_ f)) := by
 refine en Qa Tryz.func132 fun w0 F0 hG => ?_
 refine sn Qa [0, 3, 4] [3] (p0) ?_
 refine Qc ?_
 refine tn Qa [0, 3, 4, 5] [3] (p0) ?_
 refine mz [(3, .p 3 0), (4, .b false), (5, .i 0)] [1] [(3, [.i f.1, .i f.2.1, .b f.2.2.1, .i f.2.2.2.1, .h f.2.2.2.2])] [] ?_
 refine wB 3 4 .sh f.2.2.2.2 (fun hw1 hl2 => ?_)
 refine Su (Vc s_ f) Wr f.2.2.2.2 () (fun k0 _ => [(5, .i ((k0 : Nat) : Int))]) [5] (fun _ => []) [5] wf0 (fun k0 s0 hk0 hI0 => ?_) (fun k0 s0 hk0 hI0 => ?_) (fun y0 hD0 => ?_)
 ·
  obtain ⟨a0, hx0⟩ := Yi (l := f.2.2.2.2) (i := k0) hk0
  refine Qc ?_
  refine sn Qa [0, 3, 4, 5, 10] [3] (pl 3 f.2.2.2.2 (pe 4 (Qz (decide_eq_true (p := ((k0 : Nat) : Int) < (f.2.2.2.2.length : Int)) (by omega))) p0)) ?_
  refine ckT ?_
  refine Qf ?_
  refine Qc ?_
  refine Qy ?_
  refine Qc ?_
  refine mz [(10, .b true)] [] [] [] ?_
  refine jn [(47, .b ((!(Zq s_ a0.1 a0.2)) || (decide (((k0 : Nat) : Int) > (0 : Int)) && (!(Op.bytesLess ((nth f.2.2.2.2 (Int.toNat (((k0 : Nat) : Int) - 1))).1).toList a0.1.toList)))))] [10] [] [] (!(Zq s_ a0.1 a0.2)) (fun h3 => ?_) (fun h3 => ?_) ?_
  ·
   have h3n : (Zq s_ a0.1 a0.2) = false := Vz h3
   refine rN Qa Yp [0, 3, 4, 5, 47] [3] (pn 4 hx0 (pn 10 hx0 (pc 13 (cb h3n (He s_ a0.1 a0.2)) (pe 14 (show .b (!false) = .b true from rfl) p0)))) ?_
   exact ⟨rfl, Qd (by rw [h3] <;> kernel_rfl)⟩
  ·
   have h3n : (Zq s_ a0.1 a0.2) = true := Jb h3
   refine Xr (decide (((k0 : Nat) : Int) > (0 : Int))) (fun h4 => ?_) (fun h4 => ?_)
   ·
    have h4d := of_decide_eq_true h4
    have hx5 := ng f.2.2.2.2 (Int.toNat (((k0 : Nat) : Int) - 1))
    refine rN Qa Yp [0, 3, 4, 5, 47] [3] (pn 4 hx0 (pn 10 hx0 (pc 13 (cb h3n (He s_ a0.1 a0.2)) (pe 14 (show .b (!true) = .b false from rfl) (pt 17 h4 (pe 22 (Jr (IntWalk.i64_in (((k0 : Nat) : Int) - 1) (by omega))) (pg 23 (((k0 : Nat) : Int) - 1) hx5 (pn 29 hx0 p0)))))))) ?_
    exact ⟨rfl, Qd (by rw [h3, h4] <;> kernel_rfl)⟩
   refine rN Qa Yp [0, 3, 4, 5, 47] [3] (pn 4 hx0 (pn 10 hx0 (pc 13 (cb h3n (He s_ a0.1 a0.2)) (pe 14 (show .b (!true) = .b false from rfl) (pf 17 h4 p0))))) ?_
   exact ⟨rfl, Qd (by rw [h3, h4] <;> kernel_rfl)⟩
  refine ck ((!(Zq s_ a0.1 a0.2)) || (decide (((k0 : Nat) : Int) > (0 : Int)) && (!(Op.bytesLess ((nth f.2.2.2.2 (Int.toNat (((k0 : Nat) : Int) - 1))).1).toList a0.1.toList)))) (fun h6 => ?_) (fun h6 => ?_)
  ·
   refine su Qa [] [47] [] [] (p0) ?_
   refine Qe ?_
   have hr7 : (Yt (Vc s_ f) Wr f.2.2.2.2 0 ()) = .ret false := Kh hx0 (Xi h6 (rfl)) hI0
   exact pb [] (N7 hr7)
  refine Qf ?_
  refine rn Qa [0, 3, 4, 5] [3] (pe 1 (Jr (Q1 k0 (by omega))) p0) ?_
  exact xw _ (Xl hx0 (Qk h6 (rfl)) hI0)
 ·
  refine Qc ?_
  refine sn Qa [0, 3, 4, 5, 10] [3] (pl 3 f.2.2.2.2 (pe 4 (Qz (decide_eq_false (p := ((k0 : Nat) : Int) < (f.2.2.2.2.length : Int)) (by omega))) p0)) ?_
  refine ckF ?_
  refine Xs ?_
  exact xw _ (Yn hk0 (rfl) hI0)
 refine Qc ?_
 refine jn [(4, .b ((Z2 s_) && ((Xf f.1 1 60) && ((Xf f.2.1 0 2) && (Xf f.2.2.2.1 0 60)))))] [0, 3, 4] [] [3] (Z2 s_) (fun h8 => ?_) (fun h8 => ?_) ?_
 ·
  refine Xr (Xf f.1 1 60) (fun h9 => ?_) (fun h9 => ?_)
  ·
   refine Xr (Xf f.2.1 0 2) (fun h10 => ?_) (fun h10 => ?_)
   ·
    refine rn Qa [4] [] (pc 1 (cb h8 (Jd s_)) (pc 5 (cb h9 (Y5 f.1 1 60)) (pc 10 (cb h10 (Y5 f.2.1 0 2)) (pc 15 (Y5 f.2.2.2.1 0 60) p0)))) ?_
    exact ⟨rfl, Qd (by rw [h8, h9, h10] <;> kernel_rfl)⟩
   refine rn Qa [4] [] (pc 1 (cb h8 (Jd s_)) (pc 5 (cb h9 (Y5 f.1 1 60)) (pc 10 (cb h10 (Y5 f.2.1 0 2)) p0))) ?_
   exact ⟨rfl, Qd (by rw [h8, h9, h10] <;> kernel_rfl)⟩
  refine rn Qa [4] [] (pc 1 (cb h8 (Jd s_)) (pc 5 (cb h9 (Y5 f.1 1 60)) p0)) ?_
  exact ⟨rfl, Qd (by rw [h8, h9] <;> kernel_rfl)⟩
 ·
  refine rn Qa [4] [] (pc 1 (cb h8 (Jd s_)) p0) ?_
  exact ⟨rfl, Qd (by rw [h8] <;> kernel_rfl)⟩
 refine Qe ?_
 exact pb [] (V4 hD0 (rfl))
def Ku (s_ : V0) (k0 : Nat) (a0 : Zl) (_ : Unit) : Rd (Bool) (Unit) (Unit) := (bif ((!(Jj s_.1 a0)) || (decide (a0.1 ≥ s_.2.2) || (decide (((k0 : Nat) : Int) > (0 : Int)) && decide ((nth s_.2.1 (Int.toNat (((k0 : Nat) : Int) - 1))).1 ≥ a0.1)))) then (.ret false) else (.next ()))
def Wb (_ : Nat) (_ : Unit) : Unit := ()
def Kb (s_ : V0) : Bool := (Out.on (Yt (Ku s_) Wb s_.2.1 0 ()) (fun _ => ((Z2 s_.1) && (decide ((s_.2.1.length : Int) ≤ (12 : Int)) && (Xf s_.2.2 1 61)))))
theorem Cu (s_ : V0) : ACalls Tryz.prog 97 [.a [.h s_.1, .h s_.2.1, .i s_.2.2]] (.b (Kb s_)) := by
 refine en Qa Tryz.func97 fun w0 F0 hG => ?_
 refine sn Qa [1, 2] [1] (p0) ?_
 refine Qc ?_
 refine tn Qa [1, 2, 3] [1] (p0) ?_
 refine mz [(1, .p 1 0), (2, .b false), (3, .i 0)] [0] [(1, [.h s_.1, .h s_.2.1, .i s_.2.2])] [] ?_
 refine wB 1 1 .sh s_.2.1 (fun hw1 hl2 => ?_)
 refine Su (Ku s_) Wb s_.2.1 () (fun k0 _ => [(3, .i ((k0 : Nat) : Int))]) [3] (fun _ => []) [3] wf0 (fun k0 s0 hk0 hI0 => ?_) (fun k0 s0 hk0 hI0 => ?_) (fun y0 hD0 => ?_)
 ·
  obtain ⟨a0, hx0⟩ := Yi (l := s_.2.1) (i := k0) hk0
  refine Qc ?_
  refine sn Qa [1, 2, 3, 8] [1] (pl 3 s_.2.1 (pe 4 (Qz (decide_eq_true (p := ((k0 : Nat) : Int) < (s_.2.1.length : Int)) (by omega))) p0)) ?_
  refine ckT ?_
  refine Qf ?_
  refine Qc ?_
  refine Qy ?_
  refine Qc ?_
  refine mz [(8, .b true)] [] [] [] ?_
  refine jn [(50, .b ((!(Jj s_.1 a0)) || (decide (a0.1 ≥ s_.2.2) || (decide (((k0 : Nat) : Int) > (0 : Int)) && decide ((nth s_.2.1 (Int.toNat (((k0 : Nat) : Int) - 1))).1 ≥ a0.1)))))] [8] [] [] (!(Jj s_.1 a0)) (fun h3 => ?_) (fun h3 => ?_) ?_
  ·
   have h3n : (Jj s_.1 a0) = false := Vz h3
   refine rN Qa Yp [1, 2, 3, 50] [1] (pn 5 hx0 (pc 7 (cb h3n (Ur s_.1 a0)) (pe 8 (show .b (!false) = .b true from rfl) p0))) ?_
   exact ⟨rfl, Qd (by rw [h3] <;> kernel_rfl)⟩
  ·
   have h3n : (Jj s_.1 a0) = true := Jb h3
   refine Xr (decide (a0.1 ≥ s_.2.2)) (fun h4 => ?_) (fun h4 => ?_)
   ·
    refine rN Qa Yp [1, 2, 3, 50] [1] (pn 5 hx0 (pc 7 (cb h3n (Ur s_.1 a0)) (pe 8 (show .b (!true) = .b false from rfl) (pn 13 hx0 (pt 18 h4 p0))))) ?_
    exact ⟨rfl, Qd (by rw [h3, h4] <;> kernel_rfl)⟩
   have h4d := of_decide_eq_false h4
   refine Xr (decide (((k0 : Nat) : Int) > (0 : Int))) (fun h5 => ?_) (fun h5 => ?_)
   ·
    have h5d := of_decide_eq_true h5
    have hx6 := ng s_.2.1 (Int.toNat (((k0 : Nat) : Int) - 1))
    refine rN Qa Yp [1, 2, 3, 50] [1] (pn 5 hx0 (pc 7 (cb h3n (Ur s_.1 a0)) (pe 8 (show .b (!true) = .b false from rfl) (pn 13 hx0 (pf 18 h4 (pt 22 h5 (pe 27 (Jr (IntWalk.i64_in (((k0 : Nat) : Int) - 1) (by omega))) (pg 28 (((k0 : Nat) : Int) - 1) hx6 (pn 34 hx0 p0))))))))) ?_
    exact ⟨rfl, Qd (by rw [h3, h4, h5] <;> kernel_rfl)⟩
   refine rN Qa Yp [1, 2, 3, 50] [1] (pn 5 hx0 (pc 7 (cb h3n (Ur s_.1 a0)) (pe 8 (show .b (!true) = .b false from rfl) (pn 13 hx0 (pf 18 h4 (pf 22 h5 p0)))))) ?_
   exact ⟨rfl, Qd (by rw [h3, h4, h5] <;> kernel_rfl)⟩
  refine ck ((!(Jj s_.1 a0)) || (decide (a0.1 ≥ s_.2.2) || (decide (((k0 : Nat) : Int) > (0 : Int)) && decide ((nth s_.2.1 (Int.toNat (((k0 : Nat) : Int) - 1))).1 ≥ a0.1)))) (fun h7 => ?_) (fun h7 => ?_)
  ·
   refine su Qa [] [50] [] [] (p0) ?_
   refine Qe ?_
   have hr8 : (Yt (Ku s_) Wb s_.2.1 0 ()) = .ret false := Kh hx0 (Xi h7 (rfl)) hI0
   exact pb [] (N7 hr8)
  have h7r : ((decide (a0.1 ≥ s_.2.2) || (decide (((k0 : Nat) : Int) > (0 : Int)) && decide ((nth s_.2.1 (Int.toNat (((k0 : Nat) : Int) - 1))).1 ≥ a0.1)))) = false := UF h7
  have h7rl : (decide (a0.1 ≥ s_.2.2)) = false := UE h7r
  have h7rld := of_decide_eq_false h7rl
  refine Qf ?_
  refine rn Qa [1, 2, 3] [1] (pe 1 (Jr (Q1 k0 (by omega))) p0) ?_
  exact xw _ (Xl hx0 (Qk h7 (rfl)) hI0)
 ·
  refine Qc ?_
  refine sn Qa [1, 2, 3, 8] [1] (pl 3 s_.2.1 (pe 4 (Qz (decide_eq_false (p := ((k0 : Nat) : Int) < (s_.2.1.length : Int)) (by omega))) p0)) ?_
  refine ckF ?_
  refine Xs ?_
  exact xw _ (Yn hk0 (rfl) hI0)
 refine Qc ?_
 refine jn [(2, .b ((Z2 s_.1) && (decide ((s_.2.1.length : Int) ≤ (12 : Int)) && (Xf s_.2.2 1 61))))] [1, 2] [] [1] (Z2 s_.1) (fun h9 => ?_) (fun h9 => ?_) ?_
 ·
  refine Xr (decide ((s_.2.1.length : Int) ≤ (12 : Int))) (fun h10 => ?_) (fun h10 => ?_)
  ·
   refine rn Qa [2] [] (pc 2 (cb h9 (Jd s_.1)) (pl 6 s_.2.1 (pt 7 h10 (pc 12 (Y5 s_.2.2 1 61) p0)))) ?_
   exact ⟨rfl, Qd (by rw [h9, h10] <;> kernel_rfl)⟩
  refine rn Qa [2] [] (pc 2 (cb h9 (Jd s_.1)) (pl 6 s_.2.1 (pf 7 h10 p0))) ?_
  exact ⟨rfl, Qd (by rw [h9, h10] <;> kernel_rfl)⟩
 ·
  refine rn Qa [2] [] (pc 2 (cb h9 (Jd s_.1)) p0) ?_
  exact ⟨rfl, Qd (by rw [h9] <;> kernel_rfl)⟩
 refine Qe ?_
 exact pb [] (V4 hD0 (rfl))
theorem Qbh (s : List X6) (n : ByteArray) : H3 s n = V8 s n := rfl
theorem Sw (s : List X6) (n : ByteArray) (v : Jf) : Zq s n v = Yy s n v := by
  unfold Zq Yy
  rw [IC, Qbh]
theorem KC (s : List X6) : Z2 s = Za s := by
  unfold Z2 Za
  rw [Fx (f := Kg s) (g := Kf s) (e := Vp) (e' := Vo) (fun k a u => by
    unfold Kg Kf
    rw [Ov]
    have h : (!(Xf a.2 1 2)) = ((a.2 != 1) && (a.2 != 2)) := by
      unfold Xf
      rw [Bool.eq_iff_iff]; simp; omega
    rw [h]
    generalize (!(Op.bytesLess ((nth s (Int.toNat (((k : Nat) : Int) - 1))).1).toList a.1.toList)) = x
    cases Xb a.1 <;> cases (a.2 != (1 : Int)) <;> cases (a.2 != (2 : Int)) <;> cases decide (((k : Nat) : Int) > (0 : Int)) <;> cases x <;> rfl) (fun _ _ => rfl)]
theorem Qbi (s : List X6) (f : Zl) : Jj s f = Zn s f := by
  unfold Jj Zn
  rw [Fx (f := Vc s f) (g := Vb s f) (e := Wr) (e' := Wq) (fun k a u => by
    unfold Vc Vb
    rw [Sw]
    generalize (!(Op.bytesLess ((nth f.2.2.2.2 (Int.toNat (((k : Nat) : Int) - 1))).1).toList a.1.toList)) = x
    cases Yy s a.1 a.2 <;> cases decide (((k : Nat) : Int) > (0 : Int)) <;> cases x <;> rfl) (fun _ _ => rfl), KC]
  congr 1
  funext y
  unfold Aj
  simp only [← Rl]
  cases Za s <;> cases Q9 f.1 1 60 <;> cases Q9 f.2.1 0 2 <;> cases Q9 f.2.2.2.1 0 60 <;> rfl
theorem PT (s : V0) : Kb s = Z0 s := by
  unfold Kb Z0
  rw [Fx (f := Ku s) (g := Kt s) (e := Wb) (e' := Wa) (fun k a u => by
    unfold Ku Kt
    rw [Qbi]) (fun _ _ => rfl), KC]
  rfl
theorem YB {n : ByteArray} (h : Qs n = true) : n.size = 1 := by
  unfold Qs at h
  simp only [Bool.and_eq_true, beq_iff_eq] at h
  omega
theorem Qdc {n : ByteArray} (h : Xb n = true) : n.size = 1 := YB ((Ov n).trans h)
theorem M8 {s : Int} {c : Int} (h0 : 0 ≤ s) (h1 : s ≤ 65520) (c0 : 0 ≤ c) (c1 : c ≤ 255) : 0 ≤ Int.tmod (IntKind.i64.wrap (IntKind.i64.wrap (33 * s) + IntKind.i64.wrap c)) 65521 ∧ Int.tmod (IntKind.i64.wrap (IntKind.i64.wrap (33 * s) + IntKind.i64.wrap c)) 65521 ≤ 65520 := by
  rw [IntWalk.i64_in (33 * s) (by omega), IntWalk.i64_in c (by omega), IntWalk.i64_in (33 * s + c) (by omega)]
  rw [Int.tmod_eq_emod_of_nonneg (by omega)]
  omega
theorem UV {s : Int} {c : Int} (h0 : 0 ≤ s) (h1 : s ≤ 65520) (c0 : 0 ≤ c) (c1 : c ≤ 255) : 0 ≤ Int.tmod (IntKind.i64.wrap (IntKind.i64.wrap (s * 33) + IntKind.i64.wrap c)) 65521 ∧ Int.tmod (IntKind.i64.wrap (IntKind.i64.wrap (s * 33) + IntKind.i64.wrap c)) 65521 ≤ 65520 := by
  rw [Int.mul_comm s 33]
  exact M8 h0 h1 c0 c1
theorem Lp (s : ByteArray) (i : Int) : 0 ≤ Yw s i ∧ Yw s i ≤ 255 := by
  unfold Yw
  have := (s.data.toList.getD i.toNat 0).toNat_lt
  omega
open GoD (rd own)
def inR (n lo hi : Int) : Bool := decide (lo ≤ n) && decide (n ≤ hi)
theorem Pa {n lo hi : Int} (h1 : lo ≤ n) (h2 : n ≤ hi) : inR n lo hi = true := by simp [inR, h1, h2]
theorem Qdd {n lo hi : Int} (h : ¬ lo ≤ n) : inR n lo hi = false := by simp [inR, h]
theorem Qde {n lo hi : Int} (h : ¬ n ≤ hi) : inR n lo hi = false := by simp [inR, h]
theorem PU (w : World) (n lo hi : Int) : Calls Tryz.prog 144 #[.int .i64 n, .int .i64 lo, .int .i64 hi] w (Ret w (.bool (inR n lo hi))) := by
  by_cases h1 : lo ≤ n
  · by_cases h2 : n ≤ hi
    · rw [Pa h1 h2]
      go_enter Tryz.func144, Tryz.ntmps144
      go_wp2
      go_ret
      exact ⟨rfl, Below.refl _ _⟩
    rw [Qde h2]
    go_enter Tryz.func144, Tryz.ntmps144
    go_wp2
    go_ret
    exact ⟨rfl, Below.refl _ _⟩
  rw [Qdd h1]
  go_enter Tryz.func144, Tryz.ntmps144
  go_wp2
  go_ret
  exact ⟨rfl, Below.refl _ _⟩
theorem YC (w : World) (n lo hi : Int) (r : Bool) (h : inR n lo hi = r) : Calls Tryz.prog 144 #[.int .i64 n, .int .i64 lo, .int .i64 hi] w (Ret w (.bool r)) := h ▸ PU w n lo hi
end
section
open Go.RowKit
open GoD (rd own)
theorem PW (w : World) (k : Nat) (os : Array Obj) : Below w.heap.size w (Go.Sort.grow (w.drewN k) os) :=
  ⟨rfl, rfl, rfl, by rw [Go.Sort.size_grow]; exact Nat.le_add_right _ _, fun j hj => by
    unfold Go.Sort.grow
    rw [Array.getElem?_append, if_pos (by exact hj)]
    rfl⟩
theorem PX (w : World) (d : Nat) (hd : d < 10) : Calls Tryz.prog 100 #[.int .i64 d] w (Ret w (.int .u8 (48 + (d : Int)))) := by
  have h1 : (d : Int) < 10 := by omega
  have h2 : IntKind.i64.wrap (48 + (d : Int)) = 48 + (d : Int) := by rw [IntKind.wrap_i64]; omega
  go_enter Tryz.func100, Tryz.ntmps100
  go_wp2
  go_ret
  exact ⟨rfl, Below.refl _ _⟩
def tabOk (w : World) : Prop := Lib.TabIs Tryz.prog w "internal/strconv.uint64pow10" .u64 Lib.pow10Tab
theorem Qeo : Tryz.prog.globalNamed "internal/strconv.uint64pow10" = some 3 := by kernel_rfl
theorem tabOk.keep {w w' : World} (h : tabOk w) (hb : Below w.heap.size w w') : tabOk w' := Go.Joins.tab_stays Qeo h hb (Nat.le_refl _)
def Qq (n : Int) : ByteArray := ⟨(Lib.itoa n).toArray⟩
theorem Ca (w : World) (n : Int) (hn : I64 n) (ht : tabOk w) : Calls Tryz.prog 77 #[.int .i64 n] w (Ret w (.string (Qq n))) := by
  have hcon := Sh.strconv_Itoa n hn.1 hn.2 w ht
  rw [show (⟨(Lib.itoa n).toArray⟩ : ByteArray) = Qq n from rfl] at hcon
  generalize Qq n = s at *
  clear ht hn
  go_enter Tryz.func77, Tryz.ntmps77
  go_wp2_with (go_at_call 116; refine hcon.mono ?_; rintro e w' ⟨rfl, k, os, rfl⟩; have hb := PW w k os; generalize Go.Sort.grow (w.drewN k) os = w9 at *)
  go_ret
  exact ⟨rfl, hb⟩
theorem UW : ∀ (k u : Nat), u < 10 ^ (k + 1) → (Lib.decDigits u).length ≤ k + 1
  | 0, u, h => by rw [Lib.decDigits, dif_pos (by simpa using h)]; simp
  | k + 1, u, h => by
    rw [Lib.decDigits]
    split
    · simp
    have := UW k (u / 10) (by rw [Nat.pow_succ] at h; omega)
    simp only [List.length_append, List.length_singleton]
    omega
theorem KD {n : Int} (h : inR n 0 1000000000 = true) : (Qq n).size ≤ 10 := by
  unfold inR at h
  simp only [Bool.and_eq_true, decide_eq_true_eq] at h
  have h1 := UW 9 n.toNat (by omega)
  unfold Qq Lib.itoa
  rw [if_neg (by omega)]
  show (Lib.decDigits n.toNat).toArray.size ≤ 10
  simp only [List.size_toArray]
  omega
theorem Pb {n : Nat} (h : ¬ n < 10) : Lib.decDigits n = Lib.decDigits (n / 10) ++ [UInt8.ofNat (48 + n % 10)] := by rw [Lib.decDigits, dif_neg h]
theorem Fi {n : Nat} (h : n < 10) : Lib.decDigits n = [UInt8.ofNat (48 + n)] := by rw [Lib.decDigits, dif_pos h]
def Il (n : Nat) : List UInt8 := if n = 0 then [] else Lib.decDigits n
theorem LB {n : Nat} (h : n ≠ 0) (t : List UInt8) : Il (n / 10) ++ (UInt8.ofNat (48 + n % 10) :: t) = Il n ++ t := by
  unfold Il
  rw [if_neg h]
  by_cases h10 : n < 10
  · rw [if_pos (by omega), Fi h10, show n % 10 = n by omega]; rfl
  rw [if_neg (by omega), Pb h10]; simp
theorem PY (d : Nat) (hd : d < 10) (s : ByteArray) : (⟨#[UInt8.ofNat (48 + d)]⟩ : ByteArray) ++ s = ⟨(UInt8.ofNat (48 + d) :: s.data.toList).toArray⟩ := by
  apply ByteArray.ext
  rw [ByteArray.data_append]
  apply Array.toList_inj.1
  simp
set_option maxRecDepth 20000 in
theorem Rz (w : World) (n : Int) (hn : I64 n) (hr : inR n 0 1000000000 = true) : Calls Tryz.prog 63 #[.int .i64 n] w (Ret w (.string (Qq n))) := by
  unfold inR at hr
  simp only [Bool.and_eq_true, decide_eq_true_eq] at hr
  obtain ⟨m, rfl⟩ : ∃ m : Nat, n = m := ⟨n.toNat, by omega⟩
  have hm : m < 2000000000 := by omega
  clear hr hn
  have hnum : Qq (m : Int) = ⟨(Lib.decDigits m).toArray⟩ := by
    unfold Qq Lib.itoa
    rw [if_neg (by omega)]
    rfl
  generalize Qq (m : Int) = res at *
  have HRES := Lib.hid hnum; clear hnum
  by_cases h0 : m = 0
  · subst h0
    have hr : res = ⟨#[48]⟩ := by rw [HRES.out, Fi (by omega)]; rfl
    subst hr
    clear HRES
    go_enter Tryz.func63, Tryz.ntmps63
    go_wp2
    go_ret
    exact ⟨rfl, Below.refl _ _⟩
  have hm0 : ¬ ((m : Int) = 0) := by omega
  have hm1 : ¬ ((m : Int) < 0) := by omega
  go_enter Tryz.func63, Tryz.ntmps63
  go_wp2
  go_loopw [0, 4] (fun i s wr => ∃ (k : Nat) (t : ByteArray), k < 2000000000 ∧ i = .int .i64 k ∧ s = .string t ∧ t.size ≤ 2000000000 - k ∧ Below w.heap.size w wr ∧ Hid (Il k ++ t.data.toList = Lib.decDigits m)) (fun i _ _ => (intOf i).toNat)
  case atStart => exact ⟨m, ⟨#[]⟩, hm, rfl, rfl, by simp [ByteArray.size], Below.refl _ _, Lib.hid (by unfold Il; rw [if_neg h0]; simp)⟩
  case round =>
    obtain ⟨k, t, hk, rfl, rfl, hts, hB, hd⟩ := hrel
    by_cases hk0 : k = 0
    · subst hk0
      have hrt : res = t := by
        have h1 := hd.out
        unfold Il at h1
        rw [if_pos rfl, List.nil_append] at h1
        rw [HRES.out, ← h1]
      subst hrt
      clear HRES hd
      go_wp2
      go_ret
      exact ⟨rfl, hB⟩
    have hk1 : ¬ ((k : Int) = 0) := by omega
    have hd10 : k % 10 < 10 := Nat.mod_lt _ (by decide)
    have hd0 : ¬ ((k : Int) % 10 < 0) := by omega
    have hcv : ∀ g : World, (convert 171 9 (.slice (some ⟨g.heap.size, 0, none⟩) 1 1)).run Tryz.prog (g.alloc (.cells #[.int .u8 (48 + (k : Int) % 10)] 5)) = .ok (.string ⟨#[UInt8.ofNat (48 + k % 10)]⟩) (g.alloc (.cells #[.int .u8 (48 + (k : Int) % 10)] 5)) := fun g => by
      have h := Lib.run_convert_whole (P := Tryz.prog) (g.alloc (.cells #[.int .u8 (48 + (k : Int) % 10)] 5)) 171 5 9 Tryz.underlying171 Tryz.underlying5 Tryz.underlying9 g.heap.size 0 ⟨#[UInt8.ofNat (48 + k % 10)]⟩ (fun i hi => by
        have hi0 : i = 0 := by have : i < 1 := hi; omega
        subst hi0
        have he : (48 + (k : Int) % 10) = ((UInt8.ofNat (48 + k % 10)).toNat : Int) := by rw [UInt8.toNat_ofNat']; omega
        show (g.alloc _).cell? ⟨g.heap.size, 0 + 0, none⟩ = some (.int .u8 ((UInt8.ofNat (48 + k % 10)).toNat : Int))
        rw [← he]
        simp [go_sem]) 1
      exact h
    go_wp2_with (go_at_call 100; have hfg := (fun w1 => PX w1 (k % 10) hd10); rw [show (((k % 10 : Nat)) : Int) = (k : Int) % 10 by omega] at hfg; refine Fr (w := w) (hfg _) (by go_grown) ?_; clear hfg; intro g1 hG1 hb hz1 hz2; clear hb)
    go_roundw
    case rel => exact ⟨k / 10, ⟨#[UInt8.ofNat (48 + k % 10)]⟩ ++ t, by omega, by first | rfl | go_num, by rw [UInt8.ofNat_add]; rfl, by rw [ByteArray.size_append]; have : (⟨#[UInt8.ofNat (48 + k % 10)]⟩ : ByteArray).size = 1 := rfl; omega, by go_grown, Lib.hid (by rw [PY _ hd10]; show Il (k / 10) ++ (UInt8.ofNat (48 + k % 10) :: t.data.toList) = _; rw [LB hk0]; exact hd.out)⟩
    case measure => simp [intOf]; omega
section
variable {P : Program}
theorem Gn {f : Nat} (hok : Bu P f) {n : Int} {s : ByteArray} (hs : s.size ≤ maxLen) (h : ∀ w, Good P w → I64 n → Calls P f #[.int .i64 n] w (Ret w (.string s))) : ACalls P f [.i n] (.s s) := by
  refine ⟨hok, fun w hg F vals hF hall => ?_⟩
  cases hall with
  | cons h1 h2 =>
    cases h2
    obtain ⟨rfl, hi⟩ := h1
    refine (h w hg ((Gz n).1 hi)).mono ?_
    rintro e w' ⟨rfl, hb⟩
    exact ⟨_, fun _ => [], rfl, hb, fun _ => List.nodup_nil, fun k b hm => by simp at hm, fun k k' b hm => by simp at hm, rfl, hs⟩
end
theorem Zk {n : Int} (h : 0 ≤ n ∧ n ≤ 1000000000) : (Qq n).size ≤ 10 := KD (Pa h.1 h.2)
theorem Kv (n : Int) (h : 0 ≤ n ∧ n ≤ 1000000000) : ACalls Tryz.prog 77 [.i n] (.s (Qq n)) := Gn (by unfold Bu; kernel_rfl) (by have := Zk h; unfold maxLen; omega) fun w hg hn => Ca w n hn (hg.tab _ Qeo)
theorem J0 (n : Int) (h : 0 ≤ n ∧ n ≤ 1000000000) : ACalls Tryz.prog 63 [.i n] (.s (Qq n)) := Gn (by unfold Bu; kernel_rfl) (by have := Zk h; unfold maxLen; omega) fun w _ hn => Rz w n hn (Pa h.1 h.2)
end
section
open Go.RowKit
theorem UX {s c : Int} {k : Nat} (h0 : 0 ≤ s) (h1 : s < 10 ^ k) (hk : k ≤ 9) (c0 : 48 ≤ c) (c1 : c ≤ 57) :
    IntKind.i64.wrap (IntKind.i64.wrap (IntKind.i64.wrap (10 * s) + IntKind.i64.wrap c) - 48) = 10 * s + (c - 48) ∧ 0 ≤ 10 * s + (c - 48) ∧ 10 * s + (c - 48) < 10 ^ (k + 1) := by
  have hp : (10 : Int) ^ k ≤ 10 ^ 9 := by exact_mod_cast Nat.pow_le_pow_right (n := 10) (by decide) hk
  have e9 : (10 : Int) ^ 9 = 1000000000 := by decide
  have e1 : (10 : Int) ^ (k + 1) = 10 * 10 ^ k := by rw [Int.pow_succ]; omega
  rw [IntWalk.i64_in (10 * s) (by omega), IntWalk.i64_in c (by omega), IntWalk.i64_in (10 * s + c) (by omega), IntWalk.i64_in _ (by omega), e1]
  omega
theorem Qbj {c : Int} (h : 0 ≤ c ∧ c ≤ 255) (hw : Q9 (IntKind.i64.wrap c) 32 126 = true) : 32 ≤ c ∧ c ≤ 126 := by
  rw [IntWalk.i64_in c (by omega)] at hw
  exact Jv.1 hw
theorem PZ {s : ByteArray} (h : ∀ j : Nat, j < s.size → Yw s (j : Int) ≤ 126) : ∀ (j : Nat) (b : UInt8), s.data.toList[j]? = some b → b.toNat < 128 := fun j b hb => by
  have hl := (List.getElem?_eq_some_iff.1 hb).1
  have hs : s.data.toList.length = s.size := Array.length_toList
  have h1 := h j (by omega)
  unfold Yw at h1
  rw [Int.toNat_natCast, List.getD_eq_getElem?_getD, hb] at h1
  simp only [Option.getD_some] at h1
  omega
def R0 (c : UInt8) : List UInt8 → List (List UInt8)
  | [] => [[]]
  | b :: l => if b = c then [] :: R0 c l else match R0 c l with
    | [] => [[b]]
    | p :: ps => (b :: p) :: ps
theorem R1 (c : UInt8) : ∀ l : List UInt8, ∃ p ps, R0 c l = p :: ps
  | [] => ⟨[], [], rfl⟩
  | b :: l => by
    obtain ⟨p, ps, h⟩ := R1 c l
    simp only [R0, h]
    split
    · exact ⟨_, _, rfl⟩
    exact ⟨_, _, rfl⟩
theorem QE (c : UInt8) : ∀ l : List UInt8, Lib.splitK [c] 0 (l.count c) l = R0 c l
  | [] => rfl
  | b :: l => by
    have ih := QE c l
    by_cases h : b = c
    · subst h
      rw [List.count_cons_self]
      have hix : Lib.index (b :: l) [b] = 0 := by rw [Lib.index]; simp [List.isPrefixOf]
      rw [Lib.splitK, hix, R0, if_pos rfl, ← ih]
      rfl
    rw [List.count_cons_of_ne (by simpa using h), R0, if_neg h, ← ih]
    have hp : ([c] : List UInt8).isPrefixOf (b :: l) = false := by simp [List.isPrefixOf, Ne.symm h]
    have hix : Lib.index (b :: l) [c] = if Lib.index l [c] == -1 then -1 else Lib.index l [c] + 1 := by rw [Lib.index, hp]; simp
    cases hk : l.count c with
    | zero => rfl
    | succ k =>
      have hge := Lib.index_ge l [c]
      simp only [Lib.splitK]
      by_cases hm : Lib.index l [c] = -1
      · rw [hix, hm]; rfl
      rw [hix, if_neg (fun e => hm (beq_iff_eq.1 e))]
      obtain ⟨j, hj⟩ : ∃ j : Nat, Lib.index l [c] = j := ⟨(Lib.index l [c]).toNat, by omega⟩
      rw [hj, if_neg (by simp; omega), if_neg (by simp)]
      have e1 : ((j : Int) + 1).toNat = j + 1 := by omega
      have e2 : ((j : Nat) : Int).toNat = j := by omega
      simp only [e1, e2, Nat.add_zero, List.length_cons, List.length_nil]
      rfl
def W0 (l : List UInt8) : ByteArray := ⟨l.toArray⟩
theorem Kl (s : ByteArray) : W0 s.data.toList = s := by cases s; simp [W0]
def Qm (c : UInt8) (s : ByteArray) : List ByteArray := (R0 c s.data.toList).map W0
theorem KE (c : UInt8) (s : ByteArray) : Lib.splitB ⟨#[c]⟩ 0 (Lib.countB s ⟨#[c]⟩) s = Qm c s := by
  have h := Lib.splitB_data ⟨#[c]⟩ 0 (Lib.countB s ⟨#[c]⟩) s
  have e : Lib.countB s ⟨#[c]⟩ = s.data.toList.count c := Lib.count_one c s.data.toList
  rw [e] at h ⊢
  rw [show (⟨#[c]⟩ : ByteArray).data.toList = [c] from rfl, QE] at h
  unfold Qm
  rw [← h, List.map_map]
  rw [show (W0 ∘ fun x : ByteArray => x.data.toList) = id from funext Kl, List.map_id]
theorem BN (c : UInt8) : ∀ l : List UInt8, (R0 c l).length ≤ l.length + 1 ∧ ∀ p, p ∈ R0 c l → p.length ≤ l.length
  | [] => ⟨Nat.le_refl _, fun p hp => by rw [List.mem_singleton.1 hp]; exact Nat.le_refl _⟩
  | b :: l => by
    obtain ⟨h1, h2⟩ := BN c l
    obtain ⟨p0, ps, h⟩ := R1 c l
    simp only [R0]
    split
    · refine ⟨Nat.succ_le_succ h1, fun p hp => ?_⟩
      rcases List.mem_cons.1 hp with rfl | hp
      · exact Nat.zero_le _
      exact Nat.le_succ_of_le (h2 p hp)
    rw [h] at h1 h2 ⊢
    refine ⟨Nat.le_succ_of_le h1, fun p hp => ?_⟩
    rcases List.mem_cons.1 hp with rfl | hp
    · exact Nat.succ_le_succ (h2 p0 (List.mem_cons_self ..))
    exact Nat.le_succ_of_le (h2 p (List.mem_cons_of_mem _ hp))
theorem F4 (c : UInt8) (s : ByteArray) : (Qm c s).length ≤ s.size + 1 ∧ ∀ x, x ∈ Qm c s → x.size ≤ s.size := by
  obtain ⟨h1, h2⟩ := BN c s.data.toList
  have e : s.data.toList.length = s.size := Array.length_toList
  refine ⟨by unfold Qm; rw [List.length_map]; omega, fun x hx => ?_⟩
  obtain ⟨p, hp, rfl⟩ := List.mem_map.1 hx
  have := h2 p hp
  show p.toArray.size ≤ _
  rw [List.size_toArray]
  omega
def Q6 (sep : ByteArray) (l : List ByteArray) : ByteArray := W0 (Lib.join (l.map (·.data.toList)) sep.data.toList)
def Z9 (s : ByteArray) : List ByteArray := (Lib.fields s.data.toList).map W0
theorem Fj : ∀ (l cur : List UInt8), (Lib.fieldsGo cur l).length ≤ l.length + 1 ∧ ∀ p, p ∈ Lib.fieldsGo cur l → p.length ≤ cur.length + l.length
  | [], cur => by
    unfold Lib.fieldsGo
    split
    · exact ⟨Nat.zero_le _, fun p hp => by simp at hp⟩
    exact ⟨Nat.le_refl _, fun p hp => by rw [List.mem_singleton.1 hp]; simp⟩
  | b :: l, cur => by
    obtain ⟨h1, h2⟩ := Fj l []
    obtain ⟨h3, h4⟩ := Fj l (cur ++ [b])
    simp only [List.length_nil, Nat.zero_add, List.length_append, List.length_singleton] at h2 h4
    unfold Lib.fieldsGo
    split
    · split
      · exact ⟨by simp only [List.length_cons]; omega, fun p hp => by have := h2 p hp; simp only [List.length_cons]; omega⟩
      refine ⟨by simp only [List.length_cons]; omega, fun p hp => ?_⟩
      rcases List.mem_cons.1 hp with rfl | hp
      · omega
      have := h2 p hp; simp only [List.length_cons]; omega
    exact ⟨by simp only [List.length_cons]; omega, fun p hp => by have := h4 p hp; simp only [List.length_cons]; omega⟩
theorem Lq (s : ByteArray) : (Z9 s).length ≤ s.size + 1 ∧ ∀ x, x ∈ Z9 s → x.size ≤ s.size := by
  obtain ⟨h1, h2⟩ := Fj s.data.toList []
  have e : s.data.toList.length = s.size := Array.length_toList
  refine ⟨by unfold Z9 Lib.fields; rw [List.length_map]; omega, fun x hx => ?_⟩
  obtain ⟨p, hp, rfl⟩ := List.mem_map.1 hx
  have := h2 p hp
  simp only [List.length_nil, Nat.zero_add] at this
  show p.toArray.size ≤ _
  rw [List.size_toArray]
  omega
section
variable {P : Program}
theorem QF (w : World) (F : Nat → Prop) : ∀ l : List ByteArray, (∀ x, x ∈ l → x.size ≤ maxLen) → VR F w 1 (l.map Value.string) (eL l)
  | [], _ => .nil 1
  | a :: l, h => VR.cons (ce := [.string a]) (.cons (.str (h a (List.mem_cons_self ..))) .nil) rfl (QF w F l fun x hx => h x (List.mem_cons_of_mem _ hx))
theorem KF {F : Nat → Prop} {w : World} {l : List ByteArray} {t : TypeId} (hn : 0 < l.length) (hl : l.length ≤ 1073741824) (hs : ∀ x, x ∈ l → x.size ≤ maxLen) :
    NU F w (.o 0 l) (.returned (.slice (some ⟨w.heap.size, 0, none⟩) l.length l.length)) (w.alloc (.cells (l.map Value.string).toArray t)) := by
  have hg : (w.alloc (.cells (l.map Value.string).toArray t)).heap[w.heap.size]? = some (.cells (l.map Value.string).toArray t (0, 0)) := Array.getElem?_push_size
  have hlt := Q2 hg
  refine ⟨_, fun k => if k = 0 then [w.heap.size] else [], rfl, (Below.refl _ _).alloc (Nat.le_refl _) _, fun k => ?_, fun k b hb => ?_, fun k k' b hb hb' => ?_, ?_⟩
  · show (if k = 0 then _ else _ : List Nat).Nodup
    split <;> simp
  · have hb : b ∈ (if k = 0 then [w.heap.size] else [] : List Nat) := hb
    split at hb
    · obtain rfl := List.mem_singleton.1 hb
      exact ⟨Nat.le_refl _, hlt⟩
    simp at hb
  · have hb : b ∈ (if k = 0 then [w.heap.size] else [] : List Nat) := hb
    have hb' : b ∈ (if k' = 0 then [w.heap.size] else [] : List Nat) := hb'
    split at hb <;> split at hb'
    · rename_i e1 e2; rw [e1, e2]
    all_goals simp_all
  show OwnDeep (if 0 = 0 then [w.heap.size] else []) _ _ 1 (eL l)
  rw [if_pos rfl]
  refine .of ?_ (by simp)
  have hR := VR.orr (w' := w.alloc (.cells (l.map Value.string).toArray t)) (QF w F l hs) (E3 l)
  have hc : maxLen ≥ l.length := by unfold maxLen; omega
  have := OV.slc (w := w.alloc (.cells (l.map Value.string).toArray t)) (n := 1) (cap := l.length) (l := eL l) (L := []) hg (by simp) (by rw [Yv, Nat.mul_one, List.take_of_length_le (by simp)]; exact hR) (by rw [Yv]; exact Nat.le_refl _) ⟨hc, by rw [Yv]; exact hl⟩
  rwa [Yv] at this
theorem KG {f : Nat} (hok : Bu P f) {c : UInt8} {t : TypeId} {s : ByteArray} (hp : s.size ≤ 1073741000)
    (h : ∀ w, Good P w → Calls P f #[.string s, .string ⟨#[c]⟩] w fun e w' => e = .returned (.slice (some ⟨w.heap.size, 0, none⟩) (Lib.countB s ⟨#[c]⟩ + 1) (Lib.countB s ⟨#[c]⟩ + 1)) ∧ w' = w.alloc (.cells ((Lib.splitB ⟨#[c]⟩ 0 (Lib.countB s ⟨#[c]⟩) s).map Value.string).toArray t)) :
    ACalls P f [.s s, .s ⟨#[c]⟩] (.o 0 (Qm c s)) := by
  refine ⟨hok, fun w hg F vals hF hall => ?_⟩
  cases hall with
  | cons h1 h2 =>
    cases h2 with
    | cons h2 h3 =>
      cases h3
      obtain ⟨rfl, _⟩ := h1
      obtain ⟨rfl, _⟩ := h2
      refine (h w hg).mono ?_
      rintro e w' ⟨rfl, rfl⟩
      obtain ⟨g1, g2⟩ := F4 c s
      have hlen : Lib.countB s ⟨#[c]⟩ + 1 = (Qm c s).length := by rw [← KE, Lib.splitB_all ⟨#[c]⟩ (Nat.le_refl 1) 0 _ s rfl]
      rw [KE, hlen]
      exact KF (by rw [← hlen]; exact Nat.succ_pos _) (by omega) fun x hx => by have := g2 x hx; unfold maxLen; omega
theorem YD {f : Nat} (hok : Bu P f) {t : TypeId} {s : ByteArray} (hp : s.size ≤ 1073741000)
    (h : ∀ w, Good P w → Calls P f #[.string s] w fun e w' => e = .returned (.slice (some ⟨w.heap.size, 0, none⟩) (Lib.fields s.data.toList).length (Lib.fields s.data.toList).length) ∧ w' = w.alloc (.cells ((Lib.fields s.data.toList).map fun l => Value.string ⟨l.toArray⟩).toArray t)) :
    ACalls P f [.s s] (.o 0 (Z9 s)) := by
  refine ⟨hok, fun w hg F vals hF hall => ?_⟩
  cases hall with
  | cons h1 h2 =>
    cases h2
    obtain ⟨rfl, _⟩ := h1
    refine (h w hg).mono ?_
    rintro e w' ⟨rfl, rfl⟩
    obtain ⟨g1, g2⟩ := Lq s
    have hm : ((Lib.fields s.data.toList).map fun l => Value.string ⟨l.toArray⟩) = (Z9 s).map Value.string := by unfold Z9; rw [List.map_map]; rfl
    have hlen : (Lib.fields s.data.toList).length = (Z9 s).length := by unfold Z9; rw [List.length_map]
    rw [hm, hlen]
    by_cases h0 : 0 < (Z9 s).length
    · exact KF h0 (by omega) fun x hx => by have := g2 x hx; unfold maxLen; omega
    have hn : Z9 s = [] := List.eq_nil_of_length_eq_zero (by omega)
    rw [hn]
    refine ⟨_, fun _ => [], rfl, (Below.refl _ _).alloc (Nat.le_refl _) _, fun _ => List.nodup_nil, fun k b hm => by simp at hm, fun k k' b hm => by simp at hm, ?_⟩
    exact ⟨[], .emp _ 1, List.nodup_nil, (fun b hb => by simp at hb), .inl rfl⟩
theorem BO {X : Nat → Prop} {w : World} : ∀ {l : List ByteArray} {cs : List Value}, VR X w 1 cs (eL l) → cs = l.map Value.string
  | [], cs, h => by
    generalize hr : eL ([] : List ByteArray) = r at h
    cases h with
    | nil => rfl
    | cons => cases hr
  | a :: l, cs, h => by
    generalize hr : eL (a :: l) = r at h
    cases h with
    | nil => cases hr
    | cons h1 h2 h3 =>
      rw [Rb] at hr
      obtain ⟨rfl, rfl⟩ : [PV.str a] = _ ∧ eL l = _ := by simpa [GoE.enc] using hr
      have e := BO h3
      cases h1 with
      | cons h4 h5 =>
        cases h5
        cases h4 with
        | str => rw [e]; rfl
theorem UY {f : Nat} (hok : Bu P f) {sep : ByteArray} {l : List ByteArray} (hp : (Q6 sep l).size ≤ 1073741824)
    (h0 : ∀ w oa cap, Good P w → Calls P f #[.slice oa 0 cap, .string sep] w fun e w' => e = .returned (.string ⟨#[]⟩) ∧ w' = w)
    (h : ∀ w bk o c, Good P w → (∀ (j : Nat) x, l[j]? = some x → w.cell? ⟨bk, o + j, none⟩ = some (.string x)) → bk < w.heap.size → l.length ≤ 140737488355328 → l.length ≤ c → (Lib.join (l.map (·.data.toList)) sep.data.toList).length ≤ 140737488355328 → Calls P f #[.slice (some ⟨bk, o, none⟩) l.length c, .string sep] w fun e w' => e = .returned (.string ⟨(Lib.join (l.map (·.data.toList)) sep.data.toList).toArray⟩) ∧ Below w.heap.size w w') :
    ACalls P f [.h l, .s sep] (.s (Q6 sep l)) := by
  refine ⟨hok, fun w hg F vals hF hall => ?_⟩
  cases hall with
  | cons h1 h2 =>
    cases h2 with
    | cons h2 h3 =>
      cases h3
      obtain ⟨rfl, _⟩ := h2
      have h1 : VV F w _ (.slc 1 (eL l)) := h1
      have hsz : (Q6 sep l).size ≤ maxLen := by unfold maxLen; omega
      have key : ∀ {w' : World}, Below w.heap.size w w' → NU F w (.s (Q6 sep l)) (.returned (.string (Q6 sep l))) w' := fun hb => ⟨_, fun _ => [], rfl, hb, fun _ => List.nodup_nil, fun k b hm => by simp at hm, fun k k' b hm => by simp at hm, rfl, hsz⟩
      generalize hq : PV.slc 1 (eL l) = q at h1
      cases h1 with
      | int | bool | str | any | raw => cases hq
      | emp oa n hc =>
        have hl : l = [] := by
          have : eL l = [] := (PV.slc.inj hq).2
          have := congrArg List.length this
          rw [Yv] at this
          exact List.eq_nil_of_length_eq_zero this
        subst hl
        refine (h0 w oa _ hg).mono ?_
        rintro e w' ⟨rfl, rfl⟩
        exact key (Below.refl _ _)
      | @slc b off cap n cs l1 hb hc hr hle hcap =>
        obtain ⟨rfl, rfl⟩ : 1 = n ∧ eL l = l1 := PV.slc.inj hq
        have e := BO hr
        subst e
        rw [Yv] at hle hcap ⊢
        refine (h w b off cap hg (fun j x hj => hc j _ (by rw [List.getElem?_map, hj]; rfl)) (hF b hb) (by have := hcap.2; omega) hle (by
          have e : (Q6 sep l).size = (Lib.join (l.map (·.data.toList)) sep.data.toList).length := List.size_toArray
          omega)).mono ?_
        rintro e w' ⟨rfl, hbl⟩
        exact key hbl
end
end
section
open Go.RowKit
theorem Qfg : Tryz.prog.globalNamed "internal/bytealg.MaxLen" = some 0 := by kernel_rfl
theorem Qfh : Tryz.prog.globalNamed "strings.asciiSpace" = some 6 := by kernel_rfl
theorem Gp (s : ByteArray) (c : UInt8) (hp : s.size ≤ 1073741000) : ACalls Tryz.prog 109 [.s s, .s ⟨#[c]⟩] (.o 0 (Qm c s)) :=
  KG (by unfold Bu; kernel_rfl) hp fun w hg => by
    obtain ⟨m, hm⟩ := hg.mx _ Qfg
    exact Sh.strings_Split s ⟨#[c]⟩ m w (by omega) hm (Nat.le_refl 1)
theorem R2 (s : ByteArray) (hp : s.size ≤ 1073741000) (ha : ∀ (j : Nat) b, s.data.toList[j]? = some b → b.toNat < 128) : ACalls Tryz.prog 234 [.s s] (.o 0 (Z9 s)) :=
  YD (by unfold Bu; kernel_rfl) hp fun w hg => Sh.strings_Fields s w (by omega) ha (hg.sp _ Qfh)
theorem Kj (l : List ByteArray) (sep : ByteArray) (hp : (Q6 sep l).size ≤ 1073741824) : ACalls Tryz.prog 118 [.h l, .s sep] (.s (Q6 sep l)) :=
  UY (by unfold Bu; kernel_rfl) hp (fun w oa cap _ => Sh.strings_Join_none oa cap sep w) fun w bk o c _ hc hb hN hcap hl => Sh.strings_Join bk o c l sep w hc hb hN hcap hl
open GoD (rd own)
instance instGoDU8 : GoD UInt8 where
  n := 1
  rd _ cs a := cs = [.int .u8 (a.toNat : Int)]
  own L _ cs a := L = [] ∧ cs = [.int .u8 (a.toNat : Int)]
  size _ := 0
  mark a k := (a, k + 1)
  markT a k := (a, k)
  rd_len h := by rw [h]; rfl
  rd_same h _ := h
  own_same h _ := h
  own_rd h := h.2
  own_lt h := by rw [h.1]; simp
  own_nd h := by rw [h.1]; simp
  deq := inferInstance
  mk_le _ k := Nat.le_succ k
  mkT_le _ k := Nat.le_refl k
  lv := 1
  lvm := 0
  mk_bd _ k := by simp
  mkT_bd _ k := by simp
theorem Opens.u8 {P : Program} {t : TypeId} (ht : P.underlying t = some (.int .u8)) (hc : P.cellsOf t = 1) : Opens P t UInt8 := by
  refine ⟨hc, Nat.zero_lt_one, fun h => ?_⟩
  obtain ⟨n, rfl, _, hw⟩ := DataW.trod_int ht h
  simp only [Lit.wf, Bool.and_eq_true, decide_eq_true_eq] at hw
  have h1 : 0 ≤ n := hw.1
  have h2 : n ≤ 255 := hw.2
  refine ⟨UInt8.ofNat n.toNat, ?_⟩
  show [Value.int .u8 n] = [Value.int .u8 ((UInt8.ofNat n.toNat).toNat : Int)]
  have e : ((UInt8.ofNat n.toNat).toNat : Int) = n := by rw [UInt8.toNat_ofNat']; omega
  rw [e]
end
section
open Go.RowKit
open GoD (rd own)
theorem SZ (a : UInt8) : InR .u8 (a.toNat : Int) := by
  have h : a.toNat < 256 := a.toNat_lt
  constructor <;> simp [IntKind.min, IntKind.max, IntKind.bits, IntKind.signed] <;> omega
instance instGoEU8 : GoE UInt8 where
  enc a := [.int .u8 (a.toNat : Int)]
  no_any h := by rw [List.mem_singleton.1 h]; simp
  enc_len _ := rfl
  n_pos := Nat.zero_lt_one
  wide _ := True
  wide_size _ := trivial
  vc_wide _ := trivial
  rd_vc {w cs a} h _ := by rw [show cs = _ from h]; exact .cons (.int (SZ a)) .nil
  vc_rd h := by
    cases h with
    | cons h1 h2 => cases h2; cases h1; rfl
  own_oc h _ := by obtain ⟨rfl, h⟩ := h; rw [h]; exact OC.cons (L1 := []) (L2 := []) (.int (SZ _)) .nil
  oc_own h _ := by
    cases h with
    | cons h1 h2 => cases h2; cases h1; exact ⟨rfl, rfl⟩
open GoE (enc wide)
def Kc (d : (List Zw)) : Bool := ((Vv d)).2
theorem Lr (d : (List Zw)) : ACalls Tryz.prog 114 [.h d] (.b (Kc d)) := by
 refine en Qa Tryz.func114 fun w0 F0 hG => ?_
 refine sn Qa [0, 2] [] (p0) ?_
 refine tn Qa [2, 4] [] (pc 1 (KA d) p0) ?_
 refine tu Qa [(2, .b (((Vv d)).2))] [0] [] [] (p0) ?_
 refine Qe ?_
 exact pb [] (show Kc d = ((Vv d)).2 from rfl)
def Qi (x : Qp) : Bool := ((Z0 x.1) && (Kc x.2))
theorem J3 (x : Qp) : ACalls Tryz.prog 75 [.a [.h x.1.1, .h x.1.2.1, .i x.1.2.2, .h x.2]] (.b (Qi x)) := by
 refine en Qa Tryz.func75 fun w0 F0 hG => ?_
 refine sn Qa [1, 2] [1] (p0) ?_
 refine Qc ?_
 refine mz [(1, .p 1 0), (2, .b false)] [0] [(1, [.h x.1.1, .h x.1.2.1, .i x.1.2.2, .h x.2])] [] ?_
 refine jn [(2, .b ((Z0 x.1) && (Kc x.2)))] [1, 2] [] [1] (Z0 x.1) (fun h1 => ?_) (fun h1 => ?_) ?_
 ·
  refine rn Qa [2] [] (pc 2 (cb h1 (Ct x.1)) (pc 6 (Lr x.2) p0)) ?_
  exact ⟨rfl, Qd (by rw [h1] <;> kernel_rfl)⟩
 ·
  refine rn Qa [2] [] (pc 2 (cb h1 (Ct x.1)) p0) ?_
  exact ⟨rfl, Qd (by rw [h1] <;> kernel_rfl)⟩
 refine Qe ?_
 exact pb [] (show Qi x = ((Z0 x.1) && (Kc x.2)) from rfl)
def K3 (d : (List Zw)) : Bool := ((Wj d)).2
theorem Lt (d : (List Zw)) : ACalls Tryz.prog 98 [.h d] (.b (K3 d)) := by
 refine en Qa Tryz.func98 fun w0 F0 hG => ?_
 refine sn Qa [0, 2] [] (p0) ?_
 refine tn Qa [2, 4] [] (pc 1 (JZ d) p0) ?_
 refine tu Qa [(2, .b (((Wj d)).2))] [0] [] [] (p0) ?_
 refine Qe ?_
 exact pb [] (show K3 d = ((Wj d)).2 from rfl)
def Q4 (x : Qp) : Bool := ((Kb x.1) && (K3 x.2))
theorem J4 (x : Qp) : ACalls Tryz.prog 61 [.a [.h x.1.1, .h x.1.2.1, .i x.1.2.2, .h x.2]] (.b (Q4 x)) := by
 refine en Qa Tryz.func61 fun w0 F0 hG => ?_
 refine sn Qa [1, 2] [1] (p0) ?_
 refine Qc ?_
 refine mz [(1, .p 1 0), (2, .b false)] [0] [(1, [.h x.1.1, .h x.1.2.1, .i x.1.2.2, .h x.2])] [] ?_
 refine jn [(2, .b ((Kb x.1) && (K3 x.2)))] [1, 2] [] [1] (Kb x.1) (fun h1 => ?_) (fun h1 => ?_) ?_
 ·
  refine rn Qa [2] [] (pc 2 (cb h1 (Cu x.1)) (pc 6 (Lt x.2) p0)) ?_
  exact ⟨rfl, Qd (by rw [h1] <;> kernel_rfl)⟩
 ·
  refine rn Qa [2] [] (pc 2 (cb h1 (Cu x.1)) p0) ?_
  exact ⟨rfl, Qd (by rw [h1] <;> kernel_rfl)⟩
 refine Qe ?_
 exact pb [] (show Q4 x = ((Kb x.1) && (K3 x.2)) from rfl)
def X0 (f : X6) : ByteArray := (bif (!(Qs f.1)) then ⟨#[]⟩ else (bif (f.2 == (1 : Int)) then (((⟨#[102, 105, 101, 108, 100, 32]⟩ : ByteArray) ++ f.1) ++ (⟨#[32, 105, 110, 116]⟩ : ByteArray)) else (bif (f.2 == (2 : Int)) then (((⟨#[102, 105, 101, 108, 100, 32]⟩ : ByteArray) ++ f.1) ++ (⟨#[32, 115, 116, 114, 105, 110, 103]⟩ : ByteArray)) else ⟨#[]⟩)))
theorem M9 (f : X6) : ACalls Tryz.prog 76 [.a [.s f.1, .i f.2]] (.s (X0 f)) := by
 refine en Qa Tryz.func76 fun w0 F0 hG => ?_
 refine sn Qa [1, 2] [1] (p0) ?_
 refine Qc ?_
 refine Qy ?_
 refine tn Qa [1, 2, 3] [1] (pc 2 (Yb f.1) p0) ?_
 refine ck (!(Qs f.1)) (fun h1 => ?_) (fun h1 => ?_)
 ·
  refine tu Qa [(2, .s ⟨#[]⟩)] [0] [] [] (p0) ?_
  refine Qe ?_
  exact ps [] (Xi h1 (rfl))
 have h1n : (Qs f.1) = true := Jb h1
 have h1nz := YB h1n
 refine tu Qa [(1, .p 1 0), (2, .s ⟨#[]⟩), (8, .b (f.2 == (1 : Int)))] [0] [(1, [.s f.1, .i f.2])] [] (p0) ?_
 refine ck (f.2 == (1 : Int)) (fun h2 => ?_) (fun h2 => ?_)
 ·
  have h2d := eq_of_beq h2
  refine sn Qa [2] [] (px (Yk (n := (ByteArray.size (⟨#[102, 105, 101, 108, 100, 32]⟩ : ByteArray) + ByteArray.size f.1)) (by have hq0 : ByteArray.size (⟨#[102, 105, 101, 108, 100, 32]⟩ : ByteArray) = 6 := rfl; unfold maxLen; first | omega | (simp only [ByteArray.size_append]; omega))) (px (Yk (n := (ByteArray.size ((⟨#[102, 105, 101, 108, 100, 32]⟩ : ByteArray) ++ f.1) + ByteArray.size (⟨#[32, 105, 110, 116]⟩ : ByteArray))) (by have hq0 : ByteArray.size (⟨#[102, 105, 101, 108, 100, 32]⟩ : ByteArray) = 6 := rfl; have hq1 : ByteArray.size (⟨#[32, 105, 110, 116]⟩ : ByteArray) = 4 := rfl; unfold maxLen; first | omega | (simp only [ByteArray.size_append]; omega))) p0)) ?_
  refine Qe ?_
  exact ps [] (Qk h1 (Xi h2 (rfl)))
 have h2d := Yg h2
 refine sn Qa [1, 2, 16] [1] (p0) ?_
 refine ck (f.2 == (2 : Int)) (fun h3 => ?_) (fun h3 => ?_)
 ·
  have h3d := eq_of_beq h3
  refine tn Qa [2] [] (px (Yk (n := (ByteArray.size (⟨#[102, 105, 101, 108, 100, 32]⟩ : ByteArray) + ByteArray.size f.1)) (by have hq0 : ByteArray.size (⟨#[102, 105, 101, 108, 100, 32]⟩ : ByteArray) = 6 := rfl; unfold maxLen; first | omega | (simp only [ByteArray.size_append]; omega))) (px (Yk (n := (ByteArray.size ((⟨#[102, 105, 101, 108, 100, 32]⟩ : ByteArray) ++ f.1) + ByteArray.size (⟨#[32, 115, 116, 114, 105, 110, 103]⟩ : ByteArray))) (by have hq0 : ByteArray.size (⟨#[102, 105, 101, 108, 100, 32]⟩ : ByteArray) = 6 := rfl; have hq1 : ByteArray.size (⟨#[32, 115, 116, 114, 105, 110, 103]⟩ : ByteArray) = 7 := rfl; unfold maxLen; first | omega | (simp only [ByteArray.size_append]; omega))) p0)) ?_
  refine Qe ?_
  exact ps [] (Qk h1 (Qk h2 (Xi h3 (rfl))))
 refine Qf ?_
 refine tn Qa [2] [] (p0) ?_
 refine Qe ?_
 exact ps [] (Qk h1 (Qk h2 (Qk h3 (rfl))))
def Zo (f : X6) : ByteArray := (bif (!(Xb f.1)) then ⟨#[]⟩ else (bif (f.2 == (1 : Int)) then (((⟨#[102, 105, 101, 108, 100, 32]⟩ : ByteArray) ++ f.1) ++ (⟨#[32, 105, 110, 116]⟩ : ByteArray)) else (bif (f.2 == (2 : Int)) then (((⟨#[102, 105, 101, 108, 100, 32]⟩ : ByteArray) ++ f.1) ++ (⟨#[32, 115, 116, 114, 105, 110, 103]⟩ : ByteArray)) else ⟨#[]⟩)))
theorem Na (f : X6) : ACalls Tryz.prog 62 [.a [.s f.1, .i f.2]] (.s (Zo f)) := by
 refine en Qa Tryz.func62 fun w0 F0 hG => ?_
 refine sn Qa [1, 2] [1] (p0) ?_
 refine Qc ?_
 refine Qy ?_
 refine tn Qa [1, 2, 3] [1] (pc 2 (Xt f.1) p0) ?_
 refine ck (!(Xb f.1)) (fun h1 => ?_) (fun h1 => ?_)
 ·
  refine tu Qa [(2, .s ⟨#[]⟩)] [0] [] [] (p0) ?_
  refine Qe ?_
  exact ps [] (Xi h1 (rfl))
 have h1n : (Xb f.1) = true := Jb h1
 have h1nz := Qdc h1n
 refine tu Qa [(1, .p 1 0), (2, .s ⟨#[]⟩), (8, .b (f.2 == (1 : Int)))] [0] [(1, [.s f.1, .i f.2])] [] (p0) ?_
 refine ck (f.2 == (1 : Int)) (fun h2 => ?_) (fun h2 => ?_)
 ·
  have h2d := eq_of_beq h2
  refine sn Qa [2] [] (px (Yk (n := (ByteArray.size (⟨#[102, 105, 101, 108, 100, 32]⟩ : ByteArray) + ByteArray.size f.1)) (by have hq0 : ByteArray.size (⟨#[102, 105, 101, 108, 100, 32]⟩ : ByteArray) = 6 := rfl; unfold maxLen; first | omega | (simp only [ByteArray.size_append]; omega))) (px (Yk (n := (ByteArray.size ((⟨#[102, 105, 101, 108, 100, 32]⟩ : ByteArray) ++ f.1) + ByteArray.size (⟨#[32, 105, 110, 116]⟩ : ByteArray))) (by have hq0 : ByteArray.size (⟨#[102, 105, 101, 108, 100, 32]⟩ : ByteArray) = 6 := rfl; have hq1 : ByteArray.size (⟨#[32, 105, 110, 116]⟩ : ByteArray) = 4 := rfl; unfold maxLen; first | omega | (simp only [ByteArray.size_append]; omega))) p0)) ?_
  refine Qe ?_
  exact ps [] (Qk h1 (Xi h2 (rfl)))
 have h2d := Yg h2
 refine sn Qa [1, 2, 16] [1] (p0) ?_
 refine ck (f.2 == (2 : Int)) (fun h3 => ?_) (fun h3 => ?_)
 ·
  have h3d := eq_of_beq h3
  refine tn Qa [2] [] (px (Yk (n := (ByteArray.size (⟨#[102, 105, 101, 108, 100, 32]⟩ : ByteArray) + ByteArray.size f.1)) (by have hq0 : ByteArray.size (⟨#[102, 105, 101, 108, 100, 32]⟩ : ByteArray) = 6 := rfl; unfold maxLen; first | omega | (simp only [ByteArray.size_append]; omega))) (px (Yk (n := (ByteArray.size ((⟨#[102, 105, 101, 108, 100, 32]⟩ : ByteArray) ++ f.1) + ByteArray.size (⟨#[32, 115, 116, 114, 105, 110, 103]⟩ : ByteArray))) (by have hq0 : ByteArray.size (⟨#[102, 105, 101, 108, 100, 32]⟩ : ByteArray) = 6 := rfl; have hq1 : ByteArray.size (⟨#[32, 115, 116, 114, 105, 110, 103]⟩ : ByteArray) = 7 := rfl; unfold maxLen; first | omega | (simp only [ByteArray.size_append]; omega))) p0)) ?_
  refine Qe ?_
  exact ps [] (Qk h1 (Qk h2 (Xi h3 (rfl))))
 refine Qf ?_
 refine tn Qa [2] [] (p0) ?_
 refine Qe ?_
 exact ps [] (Qk h1 (Qk h2 (Qk h3 (rfl))))
def Cb (s_ : ByteArray) (k0 : Nat) (s0 : Int) : Rd (Int) (Int) (Int) := (.next (Int.tmod (IntKind.i64.wrap (IntKind.i64.wrap (33 * s0) + IntKind.i64.wrap (Yw s_ ((k0 : Nat) : Int)))) 65521))
def Cc (_ : Nat) (s0 : Int) : Int := s0
def J5 (s_ : ByteArray) : Int := (Out.on (Jn (Cb s_) Cc (Int.toNat (ByteArray.size s_ : Int)) 0 3) (fun y0 => y0))
theorem Sx (s_ : ByteArray) : ACalls Tryz.prog 146 [.s s_] (.i (J5 s_)) := by
 refine en Qa Tryz.func146 fun w0 F0 hG => ?_
 refine sn Qa [0, 2] [] (p0) ?_
 refine tn Qa [0, 2, 3] [] (p0) ?_
 refine Qc ?_
 refine tu Qa [(2, .i 0), (3, .i 3), (6, .i (ByteArray.size s_ : Int)), (7, .i 0)] [] [] [] (p0) ?_
 refine stT 0 0 s_ (fun hs1 => ?_)
 refine Qej (Cb s_) Cc (Int.toNat (ByteArray.size s_ : Int)) 3 (fun k0 s0 => [(3, .i s0), (7, .i ((k0 : Nat) : Int))]) [3, 7] (fun y0 => [(3, .i y0)]) [0, 3, 6, 7] (fun _ s0 => 0 ≤ s0 ∧ s0 ≤ 65520) wf0 ⟨(by decide), (by decide)⟩ (fun k0 s0 hk0 hI0 => ?_) (fun k0 s0 hk0 hI0 => ?_) (fun y0 hD0 => ?_)
 ·
  have hA0_0 := hI0.2.1
  have hA0_1 := hI0.2.2
  have hsb := Lp s_ ((k0 : Nat) : Int)
  have hcn := M8 hA0_0 hA0_1 hsb.1 hsb.2
  refine sn Qa [0, 2, 3, 6, 7, 8] [] (pe 0 (Qz (decide_eq_true (p := ((k0 : Nat) : Int) < (ByteArray.size s_ : Int)) (by omega))) p0) ?_
  refine Qc ?_
  refine ckT ?_
  refine Qf ?_
  refine Qc ?_
  refine Qy ?_
  refine tn Qa [0, 2, 3, 4, 6, 7] [] (p0) ?_
  refine qu Qa [(3, .i (Int.tmod (IntKind.i64.wrap (IntKind.i64.wrap (33 * s0) + IntKind.i64.wrap (Yw s_ ((k0 : Nat) : Int)))) 65521))] [3] [] [] (px (U1 (i := ((k0 : Nat) : Int)) (n := (ByteArray.size s_)) (by omega)) (px (Qar (n := 65521) (by omega)) (px (GE (k := .i64) (n := Int.tmod (IntKind.i64.wrap (IntKind.i64.wrap (33 * s0) + IntKind.i64.wrap (Yw s_ ((k0 : Nat) : Int)))) 65521) (by unfold InR; simp only [IntKind.min, IntKind.max, IntKind.bits, IntKind.signed]; omega)) p0))) ?_
  refine rn Qa [0, 2, 3, 6, 7] [] (pe 0 (Jr (Q1 k0 (by omega))) p0) ?_
  exact xw (Int.tmod (IntKind.i64.wrap (IntKind.i64.wrap (33 * s0) + IntKind.i64.wrap (Yw s_ ((k0 : Nat) : Int)))) 65521) ⟨Zu hk0 (rfl) hI0.1, (by first | exact hcn.1 | exact hcn.2), (by first | exact hcn.1 | exact hcn.2)⟩
 ·
  have hA0_0 := hI0.2.1
  have hA0_1 := hI0.2.2
  refine sn Qa [0, 2, 3, 6, 7, 8] [] (pe 0 (Qz (decide_eq_false (p := ((k0 : Nat) : Int) < (ByteArray.size s_ : Int)) (by omega))) p0) ?_
  refine Qc ?_
  refine ckF ?_
  refine Xs ?_
  exact xw _ (Up hk0 (rfl) hI0.1)
 refine sn Qa [2] [] (p0) ?_
 refine Qe ?_
 exact pi [] (V4 hD0 (rfl))
def H4 (s_ : ByteArray) (k0 : Nat) (s0 : Int) : Rd (Int) (Int) (Int) := (.next (Int.tmod (IntKind.i64.wrap (IntKind.i64.wrap (s0 * 33) + IntKind.i64.wrap (Yw s_ ((k0 : Nat) : Int)))) 65521))
def Cd (_ : Nat) (s0 : Int) : Int := s0
def Km (s_ : ByteArray) : Int := (Out.on (Jn (H4 s_) Cd (Int.toNat (ByteArray.size s_ : Int)) 0 3) (fun y0 => y0))
theorem Sy (s_ : ByteArray) : ACalls Tryz.prog 131 [.s s_] (.i (Km s_)) := by
 refine en Qa Tryz.func131 fun w0 F0 hG => ?_
 refine sn Qa [0, 2] [] (p0) ?_
 refine tn Qa [0, 2, 3] [] (p0) ?_
 refine Qc ?_
 refine tu Qa [(2, .i 0), (3, .i 3), (4, .i 0)] [] [] [] (p0) ?_
 refine stT 0 0 s_ (fun hs1 => ?_)
 refine Qej (H4 s_) Cd (Int.toNat (ByteArray.size s_ : Int)) 3 (fun k0 s0 => [(3, .i s0), (4, .i ((k0 : Nat) : Int))]) [3, 4] (fun y0 => [(3, .i y0)]) [0, 3, 4] (fun _ s0 => 0 ≤ s0 ∧ s0 ≤ 65520) wf0 ⟨(by decide), (by decide)⟩ (fun k0 s0 hk0 hI0 => ?_) (fun k0 s0 hk0 hI0 => ?_) (fun y0 hD0 => ?_)
 ·
  have hA0_0 := hI0.2.1
  have hA0_1 := hI0.2.2
  have hsb := Lp s_ ((k0 : Nat) : Int)
  have hcn := UV hA0_0 hA0_1 hsb.1 hsb.2
  refine Qc ?_
  refine sn Qa [0, 2, 3, 4, 8] [] (pe 3 (Qz (decide_eq_true (p := ((k0 : Nat) : Int) < (ByteArray.size s_ : Int)) (by omega))) p0) ?_
  refine ckT ?_
  refine Qf ?_
  refine Qc ?_
  refine Qy ?_
  refine qn Qa [0, 2, 3, 4] [] (px (U1 (i := ((k0 : Nat) : Int)) (n := (ByteArray.size s_)) (by omega)) (px (Qar (n := 65521) (by omega)) (px (GE (k := .i64) (n := Int.tmod (IntKind.i64.wrap (IntKind.i64.wrap (s0 * 33) + IntKind.i64.wrap (Yw s_ ((k0 : Nat) : Int)))) 65521) (by unfold InR; simp only [IntKind.min, IntKind.max, IntKind.bits, IntKind.signed]; omega)) p0))) ?_
  refine qu Qa [(3, .i (Int.tmod (IntKind.i64.wrap (IntKind.i64.wrap (s0 * 33) + IntKind.i64.wrap (Yw s_ ((k0 : Nat) : Int)))) 65521)), (4, .i ((k0 + 1 : Nat) : Int))] [3, 4] [] [] (pe 1 (Jr (Q1 k0 (by omega))) p0) ?_
  exact xw (Int.tmod (IntKind.i64.wrap (IntKind.i64.wrap (s0 * 33) + IntKind.i64.wrap (Yw s_ ((k0 : Nat) : Int)))) 65521) ⟨Zu hk0 (rfl) hI0.1, (by first | exact hcn.1 | exact hcn.2), (by first | exact hcn.1 | exact hcn.2)⟩
 ·
  have hA0_0 := hI0.2.1
  have hA0_1 := hI0.2.2
  refine Qc ?_
  refine sn Qa [0, 2, 3, 4, 8] [] (pe 3 (Qz (decide_eq_false (p := ((k0 : Nat) : Int) < (ByteArray.size s_ : Int)) (by omega))) p0) ?_
  refine ckF ?_
  refine Xs ?_
  exact xw _ (Up hk0 (rfl) hI0.1)
 refine sn Qa [2] [] (p0) ?_
 refine Qe ?_
 exact pi [] (V4 hD0 (rfl))
def H5 (s_ : ByteArray) (k0 : Nat) (s0 : (List ByteArray) × Int) : Rd ((List ByteArray)) ((List ByteArray) × Int) ((List ByteArray)) := (bif (Yw s_ ((k0 : Nat) : Int) == (10 : Int)) then (.next (s0.1 ++ [(ByteArray.extract s_ (Int.toNat s0.2) (Int.toNat ((k0 : Nat) : Int)))], ((k0 + 1 : Nat) : Int))) else (.next (s0.1, s0.2)))
def Bp (_ : Nat) (s0 : (List ByteArray) × Int) : (List ByteArray) := s0.1
def X2 (s_ : ByteArray) : (List ByteArray) := (Out.on (Jn (H5 s_) Bp (Int.toNat (ByteArray.size s_ : Int)) 0 ([], 0)) (fun y0 => y0))
theorem KH (s_ : ByteArray) (hp : ByteArray.size s_ ≤ 1073741000) : ACalls Tryz.prog 93 [.s s_] (.o 0 (X2 s_)) := by
 refine en Qa Tryz.func93 fun w0 F0 hG => ?_
 refine sn Qa [0, 2] [] (p0) ?_
 refine tn Qa [0, 2, 3] [] (p0) ?_
 refine tu Qa [(2, .e 0), (3, .one (.slc (.own true 384) 1 [])), (4, .i 0)] [] [] [] (p0) ?_
 refine Qc ?_
 refine sn Qa [0, 2, 3, 4, 5] [] (p0) ?_
 refine mz [(5, .i 0)] [] [] [] ?_
 refine stT 0 0 s_ (fun hs1 => ?_)
 refine Qej (H5 s_) Bp (Int.toNat (ByteArray.size s_ : Int)) ([], 0) (fun k0 s0 => [(3, .o 147202 s0.1), (4, .i s0.2), (5, .i ((k0 : Nat) : Int))]) [3, 4, 5] (fun y0 => [(3, .o 147352 y0)]) [0, 3, 4, 5] (fun k0 s0 => List.length s0.1 ≤ k0 ∧ 0 ≤ s0.2 ∧ s0.2 ≤ ((k0 : Nat) : Int) ∧ List.length s0.1 ≤ k0) (Ys [(384, 147202)] (by kernel_rfl)) ⟨(by simp), (by first | omega | simp), (by first | omega | simp), (by first | omega | simp)⟩ (fun k0 s0 hk0 hI0 => ?_) (fun k0 s0 hk0 hI0 => ?_) (fun y0 hD0 => ?_)
 ·
  have hA0_0 := hI0.2.1
  have hA0_1 := hI0.2.2.1
  have hA0_2 := hI0.2.2.2.1
  have hA0_3 := hI0.2.2.2.2
  refine Qc ?_
  refine sn Qa [0, 2, 3, 4, 5, 10] [] (pe 3 (Qz (decide_eq_true (p := ((k0 : Nat) : Int) < (ByteArray.size s_ : Int)) (by omega))) p0) ?_
  refine ckT ?_
  refine Qf ?_
  refine Qc ?_
  refine Qy ?_
  refine tn Qa [0, 2, 3, 4, 5, 16] [] (px (U1 (i := ((k0 : Nat) : Int)) (n := (ByteArray.size s_)) (by omega)) p0) ?_
  refine ck (Yw s_ ((k0 : Nat) : Int) == (10 : Int)) (fun h2 => ?_) (fun h2 => ?_)
  ·
   have h2d := eq_of_beq h2
   refine wT 3 0 (.own true 147202) s0.1 (fun hw3 hl4 => ?_)
   refine tu Qa [(3, .one (.slc (.own true 1472) 1 ((eL s0.1) ++ [[.s (ByteArray.extract s_ (Int.toNat s0.2) (Int.toNat ((k0 : Nat) : Int)))]])))] [3] [] [] (px (Co (lo := s0.2) (hi := ((k0 : Nat) : Int)) (n := (ByteArray.size s_)) (⟨by omega, by omega, by omega⟩)) (pa s0.1 [(ByteArray.extract s_ (Int.toNat s0.2) (Int.toNat ((k0 : Nat) : Int)))] p0)) ?_
   refine eqn [(3, .o 1472 (s0.1 ++ [(ByteArray.extract s_ (Int.toNat s0.2) (Int.toNat ((k0 : Nat) : Int)))]))] [3] [] [] (by rw [show ((eL s0.1) ++ [[.s (ByteArray.extract s_ (Int.toNat s0.2) (Int.toNat ((k0 : Nat) : Int)))]]) = (eL (s0.1 ++ [(ByteArray.extract s_ (Int.toNat s0.2) (Int.toNat ((k0 : Nat) : Int)))])) from Je (rfl) (rfl)]; first | done | kernel_rfl) ?_
   refine rn Qa [0, 2, 3, 4, 5] [] (pe 1 (Jr (Q1 k0 (by omega))) p0) ?_
   refine qn Qa [0, 2, 3, 4, 5] [] (pe 1 (Jr (Q1 k0 (by omega))) p0) ?_
   exact Exists.intro (s0.1 ++ [(ByteArray.extract s_ (Int.toNat s0.2) (Int.toNat ((k0 : Nat) : Int)))], ((k0 + 1 : Nat) : Int)) (And.intro (Ys [(1472, 147202)] (by kernel_rfl)) ⟨Zu hk0 (Xi h2 (rfl)) hI0.1, by first | omega | (simp; omega) | simp, (by first | omega | (simp; omega)), (by first | omega | (simp; omega)), (by first | omega | (simp; omega))⟩)
  have h2d := Yg h2
  refine Qf ?_
  refine qu Qa [(5, .i ((k0 + 1 : Nat) : Int))] [5] [] [] (pe 1 (Jr (Q1 k0 (by omega))) p0) ?_
  exact xw (s0.1, s0.2) ⟨Zu hk0 (Qk h2 (rfl)) hI0.1, by first | omega | (simp; omega) | simp, (by first | omega | (simp; omega)), (by first | omega | (simp; omega)), (by first | omega | (simp; omega))⟩
 ·
  have hA0_0 := hI0.2.1
  have hA0_1 := hI0.2.2.1
  have hA0_2 := hI0.2.2.2.1
  have hA0_3 := hI0.2.2.2.2
  refine Qc ?_
  refine sn Qa [0, 2, 3, 4, 5, 10] [] (pe 3 (Qz (decide_eq_false (p := ((k0 : Nat) : Int) < (ByteArray.size s_ : Int)) (by omega))) p0) ?_
  refine ckF ?_
  refine Xs ?_
  exact Exists.intro _ (And.intro (Ys [(147202, 147352)] (by kernel_rfl)) (Up hk0 (rfl) hI0.1))
 refine sn Qa [2] [] (p0) ?_
 refine Qe ?_
 exact po0 [] (V4 hD0 (rfl))
def Zp (text : ByteArray) (k0 : Nat) (s0 : Int) : Rd (Int × Bool) (Int) (Int) := (bif (decide (Yw text ((k0 : Nat) : Int) < (48 : Int)) || decide (Yw text ((k0 : Nat) : Int) > (57 : Int))) then (.ret (0, false)) else (.next (IntKind.i64.wrap (IntKind.i64.wrap (IntKind.i64.wrap (10 * s0) + IntKind.i64.wrap (Yw text ((k0 : Nat) : Int))) - 48))))
def K4 (_ : Nat) (s0 : Int) : Int := s0
def Q3 (text : ByteArray) : Int × Bool := (bif decide ((ByteArray.size text : Int) > (10 : Int)) then (0, false) else (Out.on (Jn (Zp text) K4 (Int.toNat (ByteArray.size text : Int)) 0 0) (fun y0 => (bif (decide (y0 > (1000000000 : Int)) || (!((Qq y0).toList == text.toList))) then (0, false) else (y0, true)))))
theorem Ce (text : ByteArray) : ACalls Tryz.prog 94 [.s text] (.tup [(false, [.i (((Q3 text)).1)]), (false, [.b (((Q3 text)).2)])]) := by
 refine en Qa Tryz.func94 fun w0 F0 hG => ?_
 refine sn Qa [0, 2, 3] [] (p0) ?_
 refine Qc ?_
 refine tn Qa [0, 2, 3, 8] [] (p0) ?_
 refine ck (decide ((ByteArray.size text : Int) > (10 : Int))) (fun h1 => ?_) (fun h1 => ?_)
 ·
  refine tu Qa [(2, .i 0), (3, .b false)] [] [] [] (p0) ?_
  refine Qe ?_
  exact pz [] (show Q3 text = _ from Xi h1 (rfl)) (fun z => .tup [(false, [.i z.1]), (false, [.b z.2])])
 have h1d := of_decide_eq_false h1
 refine Qf ?_
 refine tu Qa [(2, .i 0), (3, .b false), (4, .i 0)] [] [] [] (p0) ?_
 refine Qc ?_
 refine sn Qa [0, 2, 3, 4, 5] [] (p0) ?_
 refine mz [(5, .i 0)] [] [] [] ?_
 refine stT 0 0 text (fun hs2 => ?_)
 refine Qa4 (Zp text) K4 (Int.toNat (ByteArray.size text : Int)) 0 (fun k0 s0 => [(4, .i s0), (5, .i ((k0 : Nat) : Int))]) [4, 5] (fun y0 => [(4, .i y0)]) [4, 5] (fun k0 s0 => 0 ≤ s0 ∧ s0 < 10 ^ k0) (fun y0 => 0 ≤ y0) wf0 ⟨(by decide), (by decide)⟩ (fun k0 s0 hk0 hI0 => ?_) (fun k0 s0 hk0 hI0 => ?_) (fun y0 hD0 => ?_)
 ·
  have hA0_0 := hI0.2.1
  have hA0_1 := hI0.2.2
  have hsb := Lp text ((k0 : Nat) : Int)
  have hpn := UX (c := Yw text ((k0 : Nat) : Int)) hA0_0 hA0_1 (by omega)
  refine Qc ?_
  refine sn Qa [0, 2, 3, 4, 5, 12] [] (pe 3 (Qz (decide_eq_true (p := ((k0 : Nat) : Int) < (ByteArray.size text : Int)) (by omega))) p0) ?_
  refine ckT ?_
  refine Qf ?_
  refine Qc ?_
  refine Qy ?_
  refine Qc ?_
  refine Qc ?_
  refine mz [(12, .b true)] [] [] [] ?_
  refine jn [(24, .b (decide (Yw text ((k0 : Nat) : Int) < (48 : Int)) || decide (Yw text ((k0 : Nat) : Int) > (57 : Int))))] [12] [] [] (decide (Yw text ((k0 : Nat) : Int) < (48 : Int))) (fun h3 => ?_) (fun h3 => ?_) ?_
  ·
   have h3d := of_decide_eq_true h3
   refine rn Qa [0, 2, 3, 4, 5, 24] [] (px (U1 (i := ((k0 : Nat) : Int)) (n := (ByteArray.size text)) (by omega)) (pt 3 h3 p0)) ?_
   exact ⟨rfl, Qd (by rw [h3] <;> kernel_rfl)⟩
  ·
   have h3d := of_decide_eq_false h3
   refine rn Qa [0, 2, 3, 4, 5, 24] [] (px (U1 (i := ((k0 : Nat) : Int)) (n := (ByteArray.size text)) (by omega)) (pf 3 h3 (px (U1 (i := ((k0 : Nat) : Int)) (n := (ByteArray.size text)) (by omega)) p0))) ?_
   exact ⟨rfl, Qd (by rw [h3] <;> kernel_rfl)⟩
  refine ck (decide (Yw text ((k0 : Nat) : Int) < (48 : Int)) || decide (Yw text ((k0 : Nat) : Int) > (57 : Int))) (fun h4 => ?_) (fun h4 => ?_)
  ·
   refine su Qa [] [24] [] [] (p0) ?_
   refine Qe ?_
   have hr5 : (Jn (Zp text) K4 (Int.toNat (ByteArray.size text : Int)) 0 0) = .ret (0, false) := La hk0 (Xi h4 (rfl)) hI0.1
   exact pz [] (show Q3 text = _ from Qk h1 (N7 hr5)) (fun z => .tup [(false, [.i z.1]), (false, [.b z.2])])
  have h4l : (decide (Yw text ((k0 : Nat) : Int) < (48 : Int))) = false := UE h4
  have h4ld := of_decide_eq_false h4l
  have h4r : (decide (Yw text ((k0 : Nat) : Int) > (57 : Int))) = false := UF h4
  have h4rd := of_decide_eq_false h4r
  refine Qf ?_
  refine rn Qa [0, 2, 3, 4, 5] [] (px (U1 (i := ((k0 : Nat) : Int)) (n := (ByteArray.size text)) (by omega)) p0) ?_
  refine qn Qa [0, 2, 3, 4, 5] [] (pe 1 (Jr (Q1 k0 (by omega))) p0) ?_
  exact xw (IntKind.i64.wrap (IntKind.i64.wrap (IntKind.i64.wrap (10 * s0) + IntKind.i64.wrap (Yw text ((k0 : Nat) : Int))) - 48)) ⟨Zu hk0 (Qk h4 (rfl)) hI0.1, (by first | (have hz := hpn (by omega) (by omega); rw [hz.1]; first | exact hz.2.1 | exact hz.2.2)), (by first | (have hz := hpn (by omega) (by omega); rw [hz.1]; first | exact hz.2.1 | exact hz.2.2))⟩
 ·
  have hA0_0 := hI0.2.1
  have hA0_1 := hI0.2.2
  refine Qc ?_
  refine sn Qa [0, 2, 3, 4, 5, 12] [] (pe 3 (Qz (decide_eq_false (p := ((k0 : Nat) : Int) < (ByteArray.size text : Int)) (by omega))) p0) ?_
  refine ckF ?_
  refine Xs ?_
  exact xw s0 ⟨Up hk0 (rfl) hI0.1, by first | omega | (simp only [List.length_set]; omega)⟩
 have hD0_0 := hD0.2
 refine Qc ?_
 refine Qc ?_
 refine jn [(40, .b (decide (y0 > (1000000000 : Int)) || (!((Qq y0).toList == text.toList))))] [0] [] [] (decide (y0 > (1000000000 : Int))) (fun h6 => ?_) (fun h6 => ?_) ?_
 ·
  refine rn Qa [2, 3, 4, 40] [] (pt 1 h6 p0) ?_
  exact ⟨rfl, Qd (by rw [h6] <;> kernel_rfl)⟩
 ·
  have h6d := of_decide_eq_false h6
  have hk7 := Zk (n := y0) (by omega)
  refine rn Qa [2, 3, 4, 40] [] (pf 1 h6 (pc 4 (J0 y0 (by omega)) p0)) ?_
  exact ⟨rfl, Qd (by rw [h6] <;> kernel_rfl)⟩
 refine ck (decide (y0 > (1000000000 : Int)) || (!((Qq y0).toList == text.toList))) (fun h8 => ?_) (fun h8 => ?_)
 ·
  refine sn Qa [2, 3, 4] [] (p0) ?_
  refine Qe ?_
  exact pz [] (show Q3 text = _ from Qk h1 (V4 hD0.1 (Xi h8 (rfl)))) (fun z => .tup [(false, [.i z.1]), (false, [.b z.2])])
 refine Qf ?_
 refine sn Qa [2, 3] [] (p0) ?_
 refine Qe ?_
 exact pz [] (show Q3 text = _ from Qk h1 (V4 hD0.1 (Qk h8 (rfl)))) (fun z => .tup [(false, [.i z.1]), (false, [.b z.2])])
def Qo (op : Int) : ByteArray := (bif (!(Q9 op 1 9)) then ⟨#[63]⟩ else (nth [(⟨#[97, 108, 108]⟩ : ByteArray), ⟨#[104, 97, 115]⟩, ⟨#[101, 113]⟩, ⟨#[108, 116]⟩, ⟨#[110, 111, 116]⟩, ⟨#[97, 110, 100]⟩, ⟨#[111, 114]⟩, ⟨#[105, 110]⟩, ⟨#[108, 105, 110, 107, 101, 100]⟩] (Int.toNat (IntKind.i64.wrap (op - 1)))))
theorem Fk (op : Int) : ACalls Tryz.prog 157 [.i op] (.s (Qo op)) := by
 refine en Qa Tryz.func157 fun w0 F0 hG => ?_
 refine sn Qa [0, 2] [] (p0) ?_
 refine tn Qa [0, 2, 3] [] (p0) ?_
 refine Qc ?_
 refine tu Qa [(2, .s ⟨#[]⟩), (3, .o 256 [(⟨#[97, 108, 108]⟩ : ByteArray), ⟨#[104, 97, 115]⟩, ⟨#[101, 113]⟩, ⟨#[108, 116]⟩, ⟨#[110, 111, 116]⟩, ⟨#[97, 110, 100]⟩, ⟨#[111, 114]⟩, ⟨#[105, 110]⟩, ⟨#[108, 105, 110, 107, 101, 100]⟩]), (7, .b (!(Q9 op 1 9)))] [] [] [] (pc 1 (Zc op 1 9) p0) ?_
 refine ck (!(Q9 op 1 9)) (fun h1 => ?_) (fun h1 => ?_)
 ·
  refine sn Qa [0, 2, 3] [] (p0) ?_
  refine Qe ?_
  exact ps [] (Xi h1 (rfl))
 have h1n : (Q9 op 1 9) = true := Jb h1
 have h1nw := Jv.1 h1n
 have h1nx := IntWalk.i64_in (op - 1) (by have := Jv.1 h1n; omega)
 refine Qf ?_
 refine wT 3 0 (.own true 256) [(⟨#[97, 108, 108]⟩ : ByteArray), ⟨#[104, 97, 115]⟩, ⟨#[101, 113]⟩, ⟨#[108, 116]⟩, ⟨#[110, 111, 116]⟩, ⟨#[97, 110, 100]⟩, ⟨#[111, 114]⟩, ⟨#[105, 110]⟩, ⟨#[108, 105, 110, 107, 101, 100]⟩] (fun hw3 hl4 => ?_)
 have hx2 := ng [(⟨#[97, 108, 108]⟩ : ByteArray), ⟨#[104, 97, 115]⟩, ⟨#[101, 113]⟩, ⟨#[108, 116]⟩, ⟨#[110, 111, 116]⟩, ⟨#[97, 110, 100]⟩, ⟨#[111, 114]⟩, ⟨#[105, 110]⟩, ⟨#[108, 105, 110, 107, 101, 100]⟩] (Int.toNat (IntKind.i64.wrap (op - 1))) (by simp only [List.length_cons, List.length_nil]; omega)
 refine sn Qa [2] [] (pG 3 (IntKind.i64.wrap (op - 1)) hx2 p0) ?_
 refine Qe ?_
 exact ps [] (Qk h1 (rfl))
def Xk (op : Int) : ByteArray := (bif (!(Xf op 1 9)) then ⟨#[63]⟩ else (nth ([⟨#[]⟩, ⟨#[97, 108, 108]⟩, ⟨#[104, 97, 115]⟩, ⟨#[101, 113]⟩, ⟨#[108, 116]⟩, ⟨#[110, 111, 116]⟩, ⟨#[97, 110, 100]⟩, ⟨#[111, 114]⟩, ⟨#[105, 110]⟩, ⟨#[108, 105, 110, 107, 101, 100]⟩] : (List ByteArray)) (Int.toNat op)))
theorem Fl (op : Int) : ACalls Tryz.prog 139 [.i op] (.s (Xk op)) := by
 refine en Qa Tryz.func139 fun w0 F0 hG => ?_
 refine sn Qa [0, 2] [] (p0) ?_
 refine Qc ?_
 refine tn Qa [0, 2, 5] [] (pc 1 (Y5 op 1 9) p0) ?_
 refine ck (!(Xf op 1 9)) (fun h1 => ?_) (fun h1 => ?_)
 ·
  refine tu Qa [(2, .s ⟨#[63]⟩)] [] [] [] (p0) ?_
  refine Qe ?_
  exact ps [] (Xi h1 (rfl))
 have h1n : (Xf op 1 9) = true := Jb h1
 have h1nw := Rm.1 h1n
 refine Qf ?_
 have hx2 := ng ([⟨#[]⟩, ⟨#[97, 108, 108]⟩, ⟨#[104, 97, 115]⟩, ⟨#[101, 113]⟩, ⟨#[108, 116]⟩, ⟨#[110, 111, 116]⟩, ⟨#[97, 110, 100]⟩, ⟨#[111, 114]⟩, ⟨#[105, 110]⟩, ⟨#[108, 105, 110, 107, 101, 100]⟩] : (List ByteArray)) (Int.toNat op) (by simp only [List.length_cons, List.length_nil]; omega)
 refine tu Qa [(2, .s (nth ([⟨#[]⟩, ⟨#[97, 108, 108]⟩, ⟨#[104, 97, 115]⟩, ⟨#[101, 113]⟩, ⟨#[108, 116]⟩, ⟨#[110, 111, 116]⟩, ⟨#[97, 110, 100]⟩, ⟨#[111, 114]⟩, ⟨#[105, 110]⟩, ⟨#[108, 105, 110, 107, 101, 100]⟩] : (List ByteArray)) (Int.toNat op)))] [0] [] [] (pG 2 op hx2 p0) ?_
 refine Qe ?_
 exact ps [] (Qk h1 (rfl))
def Vd (line : ByteArray) (k0 : Nat) (_ : Unit) : Rd ((List ByteArray) × Bool) (Unit) (Unit) := (bif (!(Q9 (IntKind.i64.wrap (Yw line ((k0 : Nat) : Int))) 32 126)) then (.ret ([], false)) else (.next ()))
def Ws (_ : Nat) (_ : Unit) : Unit := ()
def Xd (line : ByteArray) : (List ByteArray) × Bool := (bif decide ((ByteArray.size line : Int) > (600 : Int)) then ([], false) else (Out.on (Jn (Vd line) Ws (Int.toNat (ByteArray.size line : Int)) 0 ()) (fun _ => (bif decide (((Z9 line).length : Int) > (24 : Int)) then ([], false) else ((Z9 line), true)))))
theorem Nb (line : ByteArray) : ACalls Tryz.prog 212 [.s line] (.tup [(false, [.o 0 (((Xd line)).1)]), (false, [.b (((Xd line)).2)])]) := by
 refine en Qa Tryz.func212 fun w0 F0 hG => ?_
 refine sn Qa [0, 2, 3] [] (p0) ?_
 refine Qc ?_
 refine tn Qa [0, 2, 3, 8] [] (p0) ?_
 refine ck (decide ((ByteArray.size line : Int) > (600 : Int))) (fun h1 => ?_) (fun h1 => ?_)
 ·
  have h1d := of_decide_eq_true h1
  refine tu Qa [(2, .e 0), (3, .b false)] [] [] [] (p0) ?_
  refine opn [(false, 2, 0, true, 384000, 1)] ?_
  refine Qe ?_
  exact pz [] (show Xd line = _ from Xi h1 (rfl)) (fun z => .tup [(false, [.o 0 z.1]), (false, [.b z.2])])
 have h1d := of_decide_eq_false h1
 refine Qf ?_
 refine Qc ?_
 refine tu Qa [(2, .e 0), (3, .b false), (10, .i (ByteArray.size line : Int)), (11, .i 0)] [] [] [] (p0) ?_
 refine stT 0 0 line (fun hs2 => ?_)
 refine Qa4 (Vd line) Ws (Int.toNat (ByteArray.size line : Int)) () (fun k0 _ => [(11, .i ((k0 : Nat) : Int))]) [11] (fun _ => []) [10, 11] (fun k0 _ => ∀ j : Nat, j < k0 → Yw line (j : Int) ≤ 126) (fun _ => ∀ j : Nat, j < ByteArray.size line → Yw line (j : Int) ≤ 126) wf0 (by (intro j hj; omega)) (fun k0 s0 hk0 hI0 => ?_) (fun k0 s0 hk0 hI0 => ?_) (fun y0 hD0 => ?_)
 ·
  have hA0_0 := hI0.2
  have hsb := Lp line ((k0 : Nat) : Int)
  have hsw := Qbj hsb
  refine su Qa [(12, .b true)] [] [] [] (pe 0 (Qz (decide_eq_true (p := ((k0 : Nat) : Int) < (ByteArray.size line : Int)) (by omega))) p0) ?_
  refine Qc ?_
  refine ckT ?_
  refine Qf ?_
  refine Qc ?_
  refine Qy ?_
  refine sn Qa [0, 2, 3, 4, 10, 11] [] (p0) ?_
  refine tn Qa [0, 2, 3, 10, 11, 19] [] (px (U1 (i := ((k0 : Nat) : Int)) (n := (ByteArray.size line)) (by omega)) (pc 4 (Zc (IntKind.i64.wrap (Yw line ((k0 : Nat) : Int))) 32 126) p0)) ?_
  refine ck (!(Q9 (IntKind.i64.wrap (Yw line ((k0 : Nat) : Int))) 32 126)) (fun h3 => ?_) (fun h3 => ?_)
  ·
   have h3n : (Q9 (IntKind.i64.wrap (Yw line ((k0 : Nat) : Int))) 32 126) = false := Vz h3
   refine tu Qa [] [12] [] [] (p0) ?_
   refine opn [(false, 2, 0, true, 384000, 1)] ?_
   refine Qe ?_
   have hr4 : (Jn (Vd line) Ws (Int.toNat (ByteArray.size line : Int)) 0 ()) = .ret ([], false) := La hk0 (Xi h3 (rfl)) hI0.1
   exact pz [] (show Xd line = _ from Qk h1 (N7 hr4)) (fun z => .tup [(false, [.o 0 z.1]), (false, [.b z.2])])
  have h3n : (Q9 (IntKind.i64.wrap (Yw line ((k0 : Nat) : Int))) 32 126) = true := Jb h3
  have h3nw := Jv.1 h3n
  refine Qf ?_
  refine qu Qa [(11, .i ((k0 + 1 : Nat) : Int))] [11, 12] [] [] (pe 0 (Jr (Q1 k0 (by omega))) p0) ?_
  exact xw () ⟨Zu hk0 (Qk h3 (rfl)) hI0.1, (by (intro j hj; rcases Nat.lt_succ_iff_lt_or_eq.1 hj with hj | rfl; exact hA0_0 j hj; first | exact (hsw ‹_›).2 | (apply (hsw _).2; simp_all)))⟩
 ·
  have hA0_0 := hI0.2
  refine sn Qa [0, 2, 3, 10, 11, 12] [] (pe 0 (Qz (decide_eq_false (p := ((k0 : Nat) : Int) < (ByteArray.size line : Int)) (by omega))) p0) ?_
  refine Qc ?_
  refine ckF ?_
  refine Xs ?_
  exact xw () ⟨Up hk0 (rfl) hI0.1, by (intro j hj; first | exact hA0_0 j (by omega) | (simp_all; done))⟩
 have hD0_0 := hD0.2
 refine sn Qa [2, 3, 5] [] (pc 1 (R2 line (by omega) (PZ (by assumption))) p0) ?_
 refine Qc ?_
 refine tn Qa [2, 3, 5, 25] [] (pl 1 (Z9 line) p0) ?_
 refine ck (decide (((Z9 line).length : Int) > (24 : Int))) (fun h5 => ?_) (fun h5 => ?_)
 ·
  have h5d := of_decide_eq_true h5
  refine tu Qa [(5, .o 1408 (Z9 line))] [0] [] [] (p0) ?_
  refine opn [(false, 2, 0, true, 384000, 1)] ?_
  refine Qe ?_
  exact pz [] (show Xd line = _ from Qk h1 (V4 hD0.1 (Xi h5 (rfl)))) (fun z => .tup [(false, [.o 0 z.1]), (false, [.b z.2])])
 have h5d := of_decide_eq_false h5
 refine Qf ?_
 refine tu Qa [(2, .o 1408 (Z9 line)), (3, .b true)] [0, 2, 3] [] [] (p0) ?_
 refine Qe ?_
 exact pz [] (show Xd line = _ from Qk h1 (V4 hD0.1 (Qk h5 (rfl)))) (fun z => .tup [(false, [.o 0 z.1]), (false, [.b z.2])])
def Jk (line : ByteArray) (k0 : Nat) (s0 : (List ByteArray) × Int) : Rd ((List ByteArray) × Bool) ((List ByteArray) × Int) ((List ByteArray)) := (bif (decide (((k0 : Nat) : Int) < (ByteArray.size line : Int)) && (decide (Yw line ((k0 : Nat) : Int) < (32 : Int)) || decide (Yw line ((k0 : Nat) : Int) > (126 : Int)))) then (.ret ([], false)) else (bif (decide (((k0 : Nat) : Int) < (ByteArray.size line : Int)) && (Yw line ((k0 : Nat) : Int) != (32 : Int))) then (.next (s0.1, s0.2)) else (bif decide (s0.2 < ((k0 : Nat) : Int)) then (.next (s0.1 ++ [(ByteArray.extract line (Int.toNat s0.2) (Int.toNat ((k0 : Nat) : Int)))], ((k0 + 1 : Nat) : Int))) else (.next (s0.1, ((k0 + 1 : Nat) : Int))))))
def J8 (_ : Nat) (s0 : (List ByteArray) × Int) : (List ByteArray) := s0.1
def Qb (line : ByteArray) : (List ByteArray) × Bool := (bif decide ((ByteArray.size line : Int) > (600 : Int)) then ([], false) else (Out.on (Jn (Jk line) J8 (Int.toNat ((ByteArray.size line : Int) + 1)) 0 ([], 0)) (fun y0 => (bif decide ((y0.length : Int) > (24 : Int)) then ([], false) else (y0, true)))))
theorem Dj (line : ByteArray) : ACalls Tryz.prog 163 [.s line] (.tup [(false, [.o 0 (((Qb line)).1)]), (false, [.b (((Qb line)).2)])]) := by
 refine en Qa Tryz.func163 fun w0 F0 hG => ?_
 refine sn Qa [0, 2, 3] [] (p0) ?_
 refine tn Qa [0, 2, 3, 4] [] (p0) ?_
 refine Qc ?_
 refine tu Qa [(2, .e 0), (3, .b false), (4, .one (.slc (.own true 448) 1 [])), (10, .b (decide ((ByteArray.size line : Int) > (600 : Int))))] [] [] [] (p0) ?_
 refine ck (decide ((ByteArray.size line : Int) > (600 : Int))) (fun h1 => ?_) (fun h1 => ?_)
 ·
  refine sn Qa [0, 2, 3, 4] [] (p0) ?_
  refine Qe ?_
  exact pz [] (show Qb line = _ from Xi h1 (rfl)) (fun z => .tup [(false, [.o 0 z.1]), (false, [.b z.2])])
 have h1d := of_decide_eq_false h1
 refine Qf ?_
 refine sn Qa [0, 2, 3, 4, 5] [] (p0) ?_
 refine Qc ?_
 refine tn Qa [0, 2, 3, 4, 5, 6] [] (p0) ?_
 refine mz [(5, .i 0), (6, .i 0)] [10] [] [] ?_
 refine stT 0 0 line (fun hs2 => ?_)
 refine Qa4 (Jk line) J8 (Int.toNat ((ByteArray.size line : Int) + 1)) ([], 0) (fun k0 s0 => [(4, .o 147203 s0.1), (5, .i s0.2), (6, .i ((k0 : Nat) : Int))]) [4, 5, 6] (fun y0 => [(4, .o 147353 y0)]) [0, 4, 5, 6] (fun k0 s0 => List.length s0.1 ≤ k0 ∧ 0 ≤ s0.2 ∧ s0.2 ≤ ((k0 : Nat) : Int) ∧ ∀ y, y ∈ s0.1 → ByteArray.size y ≤ 600) (fun y0 => ∀ x, x ∈ y0 → ByteArray.size x ≤ 600) (Ys [(448, 147203)] (by kernel_rfl)) ⟨(by simp), (by first | omega | simp), (by first | omega | simp), (by first | omega | simp)⟩ (fun k0 s0 hk0 hI0 => ?_) (fun k0 s0 hk0 hI0 => ?_) (fun y0 hD0 => ?_)
 ·
  have hA0_0 := hI0.2.1
  have hA0_1 := hI0.2.2.1
  have hA0_2 := hI0.2.2.2.1
  have hA0_3 := hI0.2.2.2.2
  refine Qc ?_
  refine su Qa [(15, .b true)] [] [] [] (pe 3 (Qz (decide_eq_true (p := ((k0 : Nat) : Int) ≤ (ByteArray.size line : Int)) (by omega))) p0) ?_
  refine ckT ?_
  refine Qf ?_
  refine Qc ?_
  refine Qy ?_
  refine Qc ?_
  refine Qc ?_
  refine jn [(33, .b (decide (((k0 : Nat) : Int) < (ByteArray.size line : Int)) && (decide (Yw line ((k0 : Nat) : Int) < (32 : Int)) || decide (Yw line ((k0 : Nat) : Int) > (126 : Int)))))] [15] [] [] (decide (((k0 : Nat) : Int) < (ByteArray.size line : Int))) (fun h3 => ?_) (fun h3 => ?_) ?_
  ·
   have h3d := of_decide_eq_true h3
   refine Xr (decide (Yw line ((k0 : Nat) : Int) < (32 : Int))) (fun h4 => ?_) (fun h4 => ?_)
   ·
    have h4d := of_decide_eq_true h4
    refine rn Qa [0, 2, 3, 4, 5, 6, 33] [] (pt 3 h3 (px (U1 (i := ((k0 : Nat) : Int)) (n := (ByteArray.size line)) (by omega)) (pt 8 h4 p0))) ?_
    exact ⟨rfl, Qd (by rw [h3, h4] <;> kernel_rfl)⟩
   have h4d := of_decide_eq_false h4
   refine rn Qa [0, 2, 3, 4, 5, 6, 33] [] (pt 3 h3 (px (U1 (i := ((k0 : Nat) : Int)) (n := (ByteArray.size line)) (by omega)) (pf 8 h4 (px (U1 (i := ((k0 : Nat) : Int)) (n := (ByteArray.size line)) (by omega)) p0)))) ?_
   exact ⟨rfl, Qd (by rw [h3, h4] <;> kernel_rfl)⟩
  ·
   refine rn Qa [0, 2, 3, 4, 5, 6, 33] [] (pf 3 h3 p0) ?_
   exact ⟨rfl, Qd (by rw [h3] <;> kernel_rfl)⟩
  refine ck (decide (((k0 : Nat) : Int) < (ByteArray.size line : Int)) && (decide (Yw line ((k0 : Nat) : Int) < (32 : Int)) || decide (Yw line ((k0 : Nat) : Int) > (126 : Int)))) (fun h5 => ?_) (fun h5 => ?_)
  ·
   refine sn Qa [0, 2, 3, 4, 5, 6] [] (p0) ?_
   refine Qe ?_
   have hr6 : (Jn (Jk line) J8 (Int.toNat ((ByteArray.size line : Int) + 1)) 0 ([], 0)) = .ret ([], false) := La hk0 (Xi h5 (rfl)) hI0.1
   exact pz [] (show Qb line = _ from Qk h1 (N7 hr6)) (fun z => .tup [(false, [.o 0 z.1]), (false, [.b z.2])])
  refine Qf ?_
  refine Qc ?_
  refine Qc ?_
  refine jn [(44, .b (decide (((k0 : Nat) : Int) < (ByteArray.size line : Int)) && (Yw line ((k0 : Nat) : Int) != (32 : Int))))] [33] [] [] (decide (((k0 : Nat) : Int) < (ByteArray.size line : Int))) (fun h7 => ?_) (fun h7 => ?_) ?_
  ·
   have h7d := of_decide_eq_true h7
   refine rn Qa [0, 2, 3, 4, 5, 6, 44] [] (pt 3 h7 (px (U1 (i := ((k0 : Nat) : Int)) (n := (ByteArray.size line)) (by omega)) p0)) ?_
   exact ⟨rfl, Qd (by rw [h7] <;> kernel_rfl)⟩
  ·
   refine rn Qa [0, 2, 3, 4, 5, 6, 44] [] (pf 3 h7 p0) ?_
   exact ⟨rfl, Qd (by rw [h7] <;> kernel_rfl)⟩
  refine ck (decide (((k0 : Nat) : Int) < (ByteArray.size line : Int)) && (Yw line ((k0 : Nat) : Int) != (32 : Int))) (fun h8 => ?_) (fun h8 => ?_)
  ·
   have h8l : (decide (((k0 : Nat) : Int) < (ByteArray.size line : Int))) = true := Rk h8
   have h8ld := of_decide_eq_true h8l
   have h8r : ((Yw line ((k0 : Nat) : Int) != (32 : Int))) = true := N8 h8
   have h8rd := Rj h8r
   refine Xs ?_
   refine rn Qa [0, 2, 3, 4, 5, 6] [] (pe 1 (Jr (Q1 k0 (by omega))) p0) ?_
   exact xw (s0.1, s0.2) ⟨Zu hk0 (Qk h5 (Xi h8 (rfl))) hI0.1, by first | omega | (simp; omega) | simp, (by first | omega | (simp; omega) | exact hA0_3 | (intro y hy; rcases List.mem_append.1 hy with hy | hy; exact hA0_3 y hy; rw [List.mem_singleton.1 hy, ByteArray.size_extract]; omega)), (by first | omega | (simp; omega) | exact hA0_3 | (intro y hy; rcases List.mem_append.1 hy with hy | hy; exact hA0_3 y hy; rw [List.mem_singleton.1 hy, ByteArray.size_extract]; omega)), (by first | omega | (simp; omega) | exact hA0_3 | (intro y hy; rcases List.mem_append.1 hy with hy | hy; exact hA0_3 y hy; rw [List.mem_singleton.1 hy, ByteArray.size_extract]; omega))⟩
  refine Qf ?_
  refine Qc ?_
  refine sn Qa [0, 2, 3, 4, 5, 6, 47] [] (p0) ?_
  refine ck (decide (s0.2 < ((k0 : Nat) : Int))) (fun h9 => ?_) (fun h9 => ?_)
  ·
   have h9d := of_decide_eq_true h9
   refine wT 4 0 (.own true 147203) s0.1 (fun hw10 hl11 => ?_)
   refine qu Qa [(4, .one (.slc (.own true 3456) 1 ((eL s0.1) ++ [[.s (ByteArray.extract line (Int.toNat s0.2) (Int.toNat ((k0 : Nat) : Int)))]])))] [4, 44] [] [] (px (Co (lo := s0.2) (hi := ((k0 : Nat) : Int)) (n := (ByteArray.size line)) (⟨by omega, by omega, by omega⟩)) (pa s0.1 [(ByteArray.extract line (Int.toNat s0.2) (Int.toNat ((k0 : Nat) : Int)))] p0)) ?_
   refine eqn [(4, .o 3456 (s0.1 ++ [(ByteArray.extract line (Int.toNat s0.2) (Int.toNat ((k0 : Nat) : Int)))]))] [4] [] [] (by rw [show ((eL s0.1) ++ [[.s (ByteArray.extract line (Int.toNat s0.2) (Int.toNat ((k0 : Nat) : Int)))]]) = (eL (s0.1 ++ [(ByteArray.extract line (Int.toNat s0.2) (Int.toNat ((k0 : Nat) : Int)))])) from Je (rfl) (rfl)]; first | done | kernel_rfl) ?_
   refine rn Qa [0, 2, 3, 4, 5, 6] [] (pe 1 (Jr (Q1 k0 (by omega))) p0) ?_
   refine qn Qa [0, 2, 3, 4, 5, 6] [] (pe 1 (Jr (Q1 k0 (by omega))) p0) ?_
   exact Exists.intro (s0.1 ++ [(ByteArray.extract line (Int.toNat s0.2) (Int.toNat ((k0 : Nat) : Int)))], ((k0 + 1 : Nat) : Int)) (And.intro (Ys [(3456, 147203)] (by kernel_rfl)) ⟨Zu hk0 (Qk h5 (Qk h8 (Xi h9 (rfl)))) hI0.1, by first | omega | (simp; omega) | simp, (by first | omega | (simp; omega) | exact hA0_3 | (intro y hy; rcases List.mem_append.1 hy with hy | hy; exact hA0_3 y hy; rw [List.mem_singleton.1 hy, ByteArray.size_extract]; omega)), (by first | omega | (simp; omega) | exact hA0_3 | (intro y hy; rcases List.mem_append.1 hy with hy | hy; exact hA0_3 y hy; rw [List.mem_singleton.1 hy, ByteArray.size_extract]; omega)), (by first | omega | (simp; omega) | exact hA0_3 | (intro y hy; rcases List.mem_append.1 hy with hy | hy; exact hA0_3 y hy; rw [List.mem_singleton.1 hy, ByteArray.size_extract]; omega))⟩)
  have h9d := of_decide_eq_false h9
  refine Qf ?_
  refine qn Qa [0, 2, 3, 4, 5, 6] [] (pe 1 (Jr (Q1 k0 (by omega))) p0) ?_
  refine qu Qa [(5, .i ((k0 + 1 : Nat) : Int)), (6, .i ((k0 + 1 : Nat) : Int))] [5, 6, 44] [] [] (pe 1 (Jr (Q1 k0 (by omega))) p0) ?_
  exact xw (s0.1, ((k0 + 1 : Nat) : Int)) ⟨Zu hk0 (Qk h5 (Qk h8 (Qk h9 (rfl)))) hI0.1, by first | omega | (simp; omega) | simp, (by first | omega | (simp; omega) | exact hA0_3 | (intro y hy; rcases List.mem_append.1 hy with hy | hy; exact hA0_3 y hy; rw [List.mem_singleton.1 hy, ByteArray.size_extract]; omega)), (by first | omega | (simp; omega) | exact hA0_3 | (intro y hy; rcases List.mem_append.1 hy with hy | hy; exact hA0_3 y hy; rw [List.mem_singleton.1 hy, ByteArray.size_extract]; omega)), (by first | omega | (simp; omega) | exact hA0_3 | (intro y hy; rcases List.mem_append.1 hy with hy | hy; exact hA0_3 y hy; rw [List.mem_singleton.1 hy, ByteArray.size_extract]; omega))⟩
 ·
  have hA0_0 := hI0.2.1
  have hA0_1 := hI0.2.2.1
  have hA0_2 := hI0.2.2.2.1
  have hA0_3 := hI0.2.2.2.2
  refine Qc ?_
  refine su Qa [(15, .b false)] [] [] [] (pe 3 (Qz (decide_eq_false (p := ((k0 : Nat) : Int) ≤ (ByteArray.size line : Int)) (by omega))) p0) ?_
  refine ckF ?_
  refine Xs ?_
  exact Exists.intro s0.1 (And.intro (Ys [(147203, 147353)] (by kernel_rfl)) ⟨Up hk0 (rfl) hI0.1, by first | omega | exact hA0_3⟩)
 have hD0_0 := hD0.2
 refine Qc ?_
 refine sn Qa [2, 3, 4, 59] [] (pl 1 y0 p0) ?_
 refine ck (decide ((y0.length : Int) > (24 : Int))) (fun h12 => ?_) (fun h12 => ?_)
 ·
  refine tn Qa [2, 3, 4] [] (p0) ?_
  refine Qe ?_
  exact pz [] (show Qb line = _ from Qk h1 (V4 hD0.1 (Xi h12 (rfl)))) (fun z => .tup [(false, [.o 0 z.1]), (false, [.b z.2])])
 refine Qf ?_
 refine tn Qa [2, 3] [] (p0) ?_
 refine Qe ?_
 exact pz [] (show Qb line = _ from Qk h1 (V4 hD0.1 (Qk h12 (rfl)))) (fun z => .tup [(false, [.o 0 z.1]), (false, [.b z.2])])
theorem Bq (x : Qp) : Q4 x = Qi x := by
  unfold Q4 Qi K3 Kc
  rw [PT, KB]
theorem LC (f : X6) : Zo f = X0 f := by
  unfold Zo X0
  rw [Ov]
theorem UZ (f : X6) : (X0 f).size ≤ 20 := by
  unfold X0
  cases hv : Qs f.1 with
  | false => exact Nat.zero_le _
  | true =>
    have h1 : f.1.size = 1 := by
      unfold Qs at hv
      simp only [Bool.and_eq_true, beq_iff_eq] at hv
      omega
    simp only [Bool.not_true, cond_false]
    have e1 : (⟨#[102, 105, 101, 108, 100, 32]⟩ : ByteArray).size = 6 := rfl
    have e2 : (⟨#[32, 105, 110, 116]⟩ : ByteArray).size = 4 := rfl
    have e3 : (⟨#[32, 115, 116, 114, 105, 110, 103]⟩ : ByteArray).size = 7 := rfl
    cases (f.2 == (1 : Int)) with
    | true => simp only [cond_true, ByteArray.size_append]; omega
    | false =>
      cases (f.2 == (2 : Int)) with
      | true => simp only [cond_true, cond_false, ByteArray.size_append]; omega
      | false => exact Nat.zero_le _
theorem Nc {x : Qp} (h : Qi x = true) : Z0 x.1 = true := by
  unfold Qi at h
  simp only [Bool.and_eq_true] at h
  exact h.1
theorem Lu {α : Type} {l : List α} {p : Nat → α → Bool} {f : Nat → α → Unit → Rd Bool Unit Unit} {e : Nat → Unit → Unit} {b : Bool} (hf : ∀ k a u, f k a u = bif p k a then .ret false else .next ()) (h : Out.on (Yt f e l 0 ()) (fun _ => b) = true) : b = true ∧ ∀ (i : Nat) a, l[i]? = some a → p i a = false := by
  cases hr : Yt f e l 0 () with
  | brk t =>
    rw [hr] at h
    refine ⟨h, fun i a hi => ?_⟩
    have := XO (fun k a t => by rw [hf]; cases p k a <;> simp) hr i a hi
    rw [Nat.zero_add, hf] at this
    cases hp : p i a with
    | false => rfl
    | true => rw [hp] at this; simp at this
  | ret r =>
    rw [hr] at h
    obtain rfl : r = true := h
    exfalso
    have key : ∀ (l : List α) k, Yt f e l k () ≠ .ret true := by
      intro l
      induction l with
      | nil => intro k h; simp [Yt] at h
      | cons a l ih =>
        intro k h
        simp only [Yt, hf] at h
        cases hp : p k a with
        | false => rw [hp] at h; exact ih _ h
        | true => rw [hp] at h; simp at h
    exact key _ _ hr
theorem bo {a b : Bool} (h : (a || b) = false) : a = false ∧ b = false := by cases a <;> cases b <;> simp_all
theorem bn {a : Bool} (h : (!a) = false) : a = true := by cases a <;> simp_all
theorem HC {s : V0} (h : Z0 s = true) : Za s.1 = true ∧ s.2.1.length ≤ 12 ∧ (1 ≤ s.2.2 ∧ s.2.2 ≤ 61) ∧ ∀ f, f ∈ s.2.1 → Zn s.1 f = true := by
  unfold Z0 at h
  obtain ⟨h1, h2⟩ := Lu (fun _ _ _ => rfl) h
  simp only [Bool.and_eq_true, decide_eq_true_eq] at h1
  refine ⟨h1.1, by omega, Jv.1 h1.2.2, fun f hf => ?_⟩
  obtain ⟨i, hi⟩ := List.getElem?_of_mem hf
  exact bn (bo (h2 i f hi)).1
theorem Pc {s : List X6} (h : Za s = true) : s.length ≤ 5 ∧ ∀ f, f ∈ s → Qs f.1 = true ∧ (f.2 = 1 ∨ f.2 = 2) := by
  unfold Za at h
  obtain ⟨h1, h2⟩ := Lu (fun _ _ _ => rfl) h
  refine ⟨by have := of_decide_eq_true h1; omega, fun f hf => ?_⟩
  obtain ⟨i, hi⟩ := List.getElem?_of_mem hf
  have := bo (h2 i f hi)
  refine ⟨bn this.1, ?_⟩
  by_cases e1 : f.2 = 1
  · exact .inl e1
  refine .inr (Classical.byContradiction fun e2 => ?_)
  have h3 := this.2
  have e1' : (f.2 != (1 : Int)) = true := by simpa using e1
  have e2' : (f.2 != (2 : Int)) = true := by simpa using e2
  rw [e1', e2'] at h3
  simp at h3
theorem H6 {a b : ByteArray} (h : (a.toList == b.toList) = true) : a = b := of_decide_eq_true (toList_inj.symm.trans h)
theorem Qbk {s : List X6} {n : ByteArray} (h : V8 s n ≠ 0) : ∃ f, f ∈ s ∧ f.1 = n := by
  refine Classical.byContradiction fun hn => h ?_
  have key : ∀ (l : List X6) k, (∀ f, f ∈ l → f.1 ≠ n) → ∃ u, Yt (Wg n) U9 l k () = .brk u := by
    intro l
    induction l with
    | nil => intro k _; exact ⟨_, rfl⟩
    | cons a l ih =>
      intro k hl
      have ha : (a.1.toList == n.toList) = false := by
        cases hc : (a.1.toList == n.toList) with
        | false => rfl
        | true => exact absurd (H6 hc) (hl a (List.mem_cons_self ..))
      simp only [Yt]
      unfold Wg
      rw [ha]
      exact ih _ fun f hf => hl f (List.mem_cons_of_mem _ hf)
  unfold V8
  obtain ⟨u, hu⟩ := key s 0 fun f hf e => hn ⟨f, hf, e⟩
  rw [hu]; rfl
theorem BP {α : Type} [DecidableEq α] : ∀ {l m : List α}, l.Nodup → (∀ x, x ∈ l → x ∈ m) → l.length ≤ m.length
  | [], _, _, _ => Nat.zero_le _
  | a :: l, m, hn, hs => by
    have ha := hs a (List.mem_cons_self ..)
    have hn' := List.nodup_cons.1 hn
    have := BP (l := l) (m := m.erase a) hn'.2 fun x hx => (List.mem_erase_of_ne (fun e => hn'.1 (by rw [← e]; exact hx))).2 (hs x (List.mem_cons_of_mem _ hx))
    rw [List.length_erase_of_mem ha] at this
    have := List.length_pos_of_mem ha
    simp only [List.length_cons]
    omega
def FBd (f : Zl) : Prop := (1 ≤ f.1 ∧ f.1 ≤ 60) ∧ (0 ≤ f.2.1 ∧ f.2.1 ≤ 2) ∧ (0 ≤ f.2.2.2.1 ∧ f.2.2.2.1 ≤ 60) ∧ f.2.2.2.2.length ≤ 5 ∧ ∀ a, a ∈ f.2.2.2.2 → Qs a.1 = true ∧ Qu a.2 = true ∧ a.2.1 ≠ 0
theorem LD : ∀ (l : List ByteArray), (∀ (i : Nat) a, l[i]? = some a → 0 < i → bl (nth l (i - 1)) a = true) → l.Nodup := fun l h => by
  have hp : l.Pairwise (fun a b => bl a b = true) := by
    induction l with
    | nil => exact .nil
    | cons a l ih =>
      have h' : ∀ (i : Nat) x, l[i]? = some x → 0 < i → bl (nth l (i - 1)) x = true := fun i x hi h0 => by
        have := h (i + 1) x (by simpa using hi) (by omega)
        rw [show i + 1 - 1 = (i - 1) + 1 by omega] at this
        simpa [nth] using this
      have ihp := ih h'
      refine List.pairwise_cons.2 ⟨fun x hx => ?_, ihp⟩
      cases l with
      | nil => cases hx
      | cons b l =>
        have hab : bl a b = true := by simpa [nth] using h 1 b (by simp) (by omega)
        rcases List.mem_cons.1 hx with rfl | hx
        · exact hab
        exact XU hab ((List.pairwise_cons.1 ihp).1 x hx)
  exact hp.imp fun {a b} hab e => by subst e; rw [SV] at hab; cases hab
theorem RA {s : List X6} {f : Zl} (h : Zn s f = true) : FBd f := by
  unfold Zn at h
  obtain ⟨h1, h2⟩ := Lu (fun _ _ _ => rfl) h
  simp only [Bool.and_eq_true] at h1
  have hm : ∀ (i : Nat) a, f.2.2.2.2[i]? = some a → Yy s a.1 a.2 = true ∧ (0 < i → bl (nth f.2.2.2.2 (i - 1)).1 a.1 = true) := fun i a hi => by
    have h3 := h2 i a hi
    cases hc : decide (((i : Nat) : Int) > (0 : Int)) with
    | false =>
      rw [hc] at h3
      exact ⟨bn h3, fun h0 => absurd (of_decide_eq_false hc) (by omega)⟩
    | true =>
      rw [hc] at h3
      have h4 := bo h3
      refine ⟨bn h4.2, fun _ => ?_⟩
      have h5 := bn h4.1
      rw [show Int.toNat (((i : Nat) : Int) - 1) = i - 1 by omega] at h5
      exact h5
  have hsch := Pc h1.2.2.2
  have hk : ∀ a, a ∈ f.2.2.2.2 → (∃ g, g ∈ s ∧ g.1 = a.1) ∧ Qu a.2 = true ∧ a.2.1 ≠ 0 := fun a ha => by
    obtain ⟨i, hi⟩ := List.getElem?_of_mem ha
    have h6 := (hm i a hi).1
    unfold Yy at h6
    simp only [Bool.and_eq_true, bne_iff_ne, ne_eq, beq_iff_eq] at h6
    exact ⟨Qbk (h6.2.2 ▸ h6.2.1), h6.1, h6.2.1⟩
  have hlen : f.2.2.2.2.length ≤ 5 := by
    have hnd : (f.2.2.2.2.map (·.1)).Nodup := LD _ fun i a hi h0 => by
      rw [List.getElem?_map, Option.map_eq_some_iff] at hi
      obtain ⟨x, hx, rfl⟩ := hi
      have h7 := (hm i x hx).2 h0
      have hlt := (List.getElem?_eq_some_iff.1 hx).1
      rw [show nth (f.2.2.2.2.map (·.1)) (i - 1) = (nth f.2.2.2.2 (i - 1)).1 from by
        have e := G9 (l := f.2.2.2.2) (i := i - 1) (by omega)
        unfold nth
        rw [List.getD_eq_getElem?_getD, List.getElem?_map, e]
        rfl]
      exact h7
    have := BP hnd (m := s.map (·.1)) fun x hx => by
      obtain ⟨a, ha, rfl⟩ := List.mem_map.1 hx
      obtain ⟨⟨g, hg, e⟩, _⟩ := hk a ha
      exact List.mem_map.2 ⟨g, hg, e⟩
    rw [List.length_map, List.length_map] at this
    omega
  refine ⟨Jv.1 h1.1, ?_, Jv.1 h1.2.2.1, hlen, fun a ha => ?_⟩
  · have := h1.2.1
    unfold Aj at this
    exact Jv.1 this
  obtain ⟨⟨g, hg, e⟩, h8⟩ := hk a ha
  exact ⟨e ▸ (hsch.2 g hg).1, h8⟩
theorem C3 {x : Qp} (h : Qi x = true) : x.1.1.length ≤ 5 ∧ x.1.2.1.length ≤ 12 ∧ (1 ≤ x.1.2.2 ∧ x.1.2.2 ≤ 61) ∧ ∀ f, f ∈ x.1.2.1 → FBd f := by
  obtain ⟨h1, h2, h3, h4⟩ := HC (Nc h)
  exact ⟨(Pc h1).1, h2, h3, fun f hf => RA (h4 f hf)⟩
theorem YE {x : Qp} (h : Q4 x = true) : x.1.1.length ≤ 5 ∧ x.1.2.1.length ≤ 12 ∧ (1 ≤ x.1.2.2 ∧ x.1.2.2 ≤ 61) ∧ ∀ f, f ∈ x.1.2.1 → FBd f := C3 ((Bq x).symm.trans h)
/-! ### check sums -/
theorem R3 (s : ByteArray) : ∀ (n k : Nat) (a : Int), 0 ≤ a → a ≤ 65520 → ∃ y, Jn (Cb s) Cc n k a = .brk y ∧ Jn (H4 s) Cd n k a = .brk y ∧ 0 ≤ y ∧ y ≤ 65520
  | 0, k, a, h0, h1 => ⟨a, rfl, rfl, h0, h1⟩
  | n + 1, k, a, h0, h1 => by
    have hb := Lp s ((k : Nat) : Int)
    have hn := M8 h0 h1 hb.1 hb.2
    obtain ⟨y, e1, e2, e3⟩ := R3 s n (k + 1) _ hn.1 hn.2
    refine ⟨y, e1, ?_, e3⟩
    simp only [Jn]
    unfold H4
    rw [Int.mul_comm a 33]
    exact e2
theorem BQ (s : ByteArray) : 0 ≤ J5 s ∧ J5 s ≤ 65520 := by
  obtain ⟨y, e1, _, e3⟩ := R3 s (Int.toNat (s.size : Int)) 0 3 (by decide) (by decide)
  unfold J5
  rw [e1]
  exact e3
theorem BR (s : ByteArray) : Km s = J5 s := by
  obtain ⟨y, e1, e2, _⟩ := R3 s (Int.toNat (s.size : Int)) 0 3 (by decide) (by decide)
  unfold Km J5
  rw [e1, e2]
theorem LE (s : ByteArray) : 0 ≤ Km s ∧ Km s ≤ 65520 := by rw [BR]; exact BQ s
/-! ### values as texts -/
theorem YF {v : Jf} (h : Qu v = true) (h1 : (v.1 == (1 : Int)) = true) : 0 ≤ v.2.1 ∧ v.2.1 ≤ 999 := by
  unfold Qu at h
  have e : v.1 = 1 := eq_of_beq h1
  rw [e] at h
  simp only [show ((1 : Int) == 0) = false from rfl, show ((1 : Int) == 1) = true from rfl, cond_true, cond_false, Bool.and_eq_true] at h
  exact Jv.1 h.1
theorem Cv {s : ByteArray} (h : Q0 s = true) : 1 ≤ s.size ∧ s.size ≤ 6 := by
  unfold Q0 at h
  cases hf : Jn (Xp s) Zs (Int.toNat (s.size : Int)) 0 () with
  | brk t => rw [hf] at h; have := Jv.1 h; omega
  | ret r =>
    rw [hf] at h
    obtain rfl : r = true := h
    exfalso
    have key : ∀ n k, Jn (Xp s) Zs n k () ≠ .ret true := by
      intro n
      induction n with
      | zero => intro k h; simp [Jn] at h
      | succ n ih =>
        intro k h
        simp only [Jn] at h
        unfold Xp at h
        cases hc : (decide (Yw s ((k : Nat) : Int) < (97 : Int)) || decide (Yw s ((k : Nat) : Int) > (122 : Int))) with
        | true => rw [hc] at h; simp at h
        | false => rw [hc] at h; exact ih _ h
    exact key _ _ hf
theorem LF {v : Jf} (h : Qu v = true) (h1 : (v.1 == (2 : Int)) = true) : Q0 v.2.2 = true ∧ v.2.1 = 0 := by
  unfold Qu at h
  have e : v.1 = 2 := eq_of_beq h1
  rw [e] at h
  simp only [show ((2 : Int) == 0) = false from rfl, show ((2 : Int) == 1) = false from rfl, show ((2 : Int) == 2) = true from rfl, cond_true, cond_false, Bool.and_eq_true, beq_iff_eq] at h
  exact h
open GoD (rd own)
theorem Qdf {α : Type} [GoD α] {a b : α} (h : ¬ a = b) : eqb a b = false := by
  unfold eqb
  exact @decide_eq_false _ (_) h
theorem Gq (r : List UInt8) : ∀ (l : List UInt8) (acc : Nat), Lib.decFrom acc (l ++ r) = (Lib.decFrom acc l).bind (fun a => Lib.decFrom a r)
  | [], acc => rfl
  | b :: l, acc => by
    simp only [List.cons_append, Lib.decFrom]
    cases Lib.digitVal b with
    | none => rfl
    | some d => exact Gq r l _
theorem R4 (d : Nat) (h : d < 10) : Lib.digitVal (UInt8.ofNat (48 + d)) = some d := by
  have h1 : (UInt8.ofNat (48 + d)).toNat = 48 + d := by rw [UInt8.toNat_ofNat']; omega
  unfold Lib.digitVal
  rw [h1, if_pos (by omega)]
  congr 1
  omega
theorem Gr : ∀ n : Nat, Lib.decFrom 0 (Lib.decDigits n) = some n := by
  intro n
  induction n using Nat.strongRecOn with
  | ind n ih =>
    by_cases h : n < 10
    · rw [Fi h]
      simp only [Lib.decFrom, R4 n h]
      simp
    rw [Pb h, Gq, ih (n / 10) (by omega)]
    simp only [Option.bind_some, Lib.decFrom, R4 (n % 10) (Nat.mod_lt _ (by decide))]
    congr 1
    omega
theorem Nd : ∀ n : Nat, ∀ b, b ∈ Lib.decDigits n → 48 ≤ b.toNat ∧ b.toNat ≤ 57 := by
  intro n
  induction n using Nat.strongRecOn with
  | ind n ih =>
    intro b hb
    by_cases h : n < 10
    · rw [Fi h] at hb
      have e := List.mem_singleton.1 hb
      rw [e, UInt8.toNat_ofNat']
      omega
    rw [Pb h] at hb
    rcases List.mem_append.1 hb with hb | hb
    · exact ih (n / 10) (by omega) b hb
    have e := List.mem_singleton.1 hb
    rw [e, UInt8.toNat_ofNat']
    omega
theorem R5 (n : Nat) : Lib.decDigits n ≠ [] := by
  by_cases h : n < 10
  · rw [Fi h]; simp
  rw [Pb h]; simp
theorem Im (n : Nat) : Lib.atoi (Lib.decDigits n) = some (n : Int) := by
  have h1 := Gr n
  have h2 := Nd n
  have h3 := R5 n
  generalize Lib.decDigits n = l at *
  cases l with
  | nil => exact absurd rfl h3
  | cons b r =>
    have hb := h2 b (by simp)
    have e45 : (b == 45) = false := by
      rw [beq_eq_false_iff_ne]
      intro e
      rw [e] at hb
      exact absurd hb.1 (by decide)
    have e43 : (b == 43) = false := by
      rw [beq_eq_false_iff_ne]
      intro e
      rw [e] at hb
      exact absurd hb.1 (by decide)
    simp only [Lib.atoi, e45, e43, Lib.decNat, List.isEmpty_cons, h1]
    rfl
theorem DM (k n : Nat) (h : n < 10 ^ (k + 1)) : (Lib.decDigits n).length ≤ k + 1 := UW k n h
theorem R6 (n : Nat) : Qq (n : Int) = ⟨(Lib.decDigits n).toArray⟩ := by
  unfold Qq Lib.itoa
  rw [if_neg (by omega)]
  rfl
theorem W1 (n : Nat) : (Qq (n : Int)).data.toList = Lib.decDigits n := by rw [R6]
def A5 (s : ByteArray) : Option Nat := match Lib.atoi s.data.toList with
  | some m => if m.toNat ≤ 1000000000 ∧ Qq (m.toNat : Int) = s then some m.toNat else none
  | none => none
theorem Nf {s : ByteArray} {n : Nat} (h : n ≤ 1000000000) (e : Qq (n : Int) = s) : A5 s = some n := by
  subst e
  unfold A5
  rw [W1, Im]
  exact if_pos ⟨h, rfl⟩
theorem Lw {s : ByteArray} (h : ∀ n : Nat, n ≤ 1000000000 → Qq (n : Int) ≠ s) : A5 s = none := by
  unfold A5
  split
  · rename_i m _
    exact if_neg fun h2 => h _ h2.1 h2.2
  rfl
def Qep : Option Nat → Value
  | some n => .tuple #[.int .i64 n, .bool true]
  | none => .tuple #[.int .i64 0, .bool false]
def errOk (w : World) : Prop := ∃ tp p, w.var? Tryz.prog "strconv.ErrSyntax" = some #[.iface tp p]
theorem Qe4 : Tryz.prog.globalNamed "strconv.ErrSyntax" = some 1 := by kernel_rfl
theorem errOk.keep {w w' : World} (h : errOk w) (hb : Below w.heap.size w w') : errOk w' := by
  obtain ⟨tp, p, h⟩ := h
  exact ⟨tp, p, Go.Joins.var_stays Qe4 h hb (Nat.le_refl _)⟩
set_option maxRecDepth 20000 in
theorem R7 (w : World) (s : ByteArray) (hs : s.size ≤ maxLen) (ht : tabOk w) (he : errOk w) : Calls Tryz.prog 110 #[.string s] w (Ret w (Qep (A5 s))) := by
  unfold maxLen at hs
  have HT := Lib.hid ht; clear ht
  have HE := Lib.hid he; clear he
  by_cases hlen : 10 < s.size
  · have hno : A5 s = none := Lw fun n hn e => by
      have h1 := DM 9 n (by omega)
      have h2 : s.size = (Lib.decDigits n).length := by rw [← e, R6]; simp [ByteArray.size]
      omega
    rw [hno]
    clear hno
    go_enter Tryz.func110, Tryz.ntmps110
    go_wp2
    refine bodyPost_ret (v := .tuple #[.int .i64 0, .bool false]) (by simp [results, Tryz.results110, go_sem]) rfl ⟨rfl, Below.refl _ _⟩
  cases ha : Lib.atoi s.data.toList with
  | none =>
    have hno : A5 s = none := Lw fun n hn e => by
      rw [← e, W1, Im] at ha
      cases ha
    rw [hno]
    clear hno
    have HA := Lib.hid ha; clear ha
    go_enter Tryz.func110, Tryz.ntmps110
    go_wp2_with (go_at_call 143; obtain ⟨tp, p, hv⟩ := HE.out; refine (Sh.strconv_Atoi_err_var s (by omega) HA.out tp p w hv).mono ?_; clear hv; rintro e1 w1 ⟨N, rfl, hN, _, hb⟩; have HB := Lib.hid hb; clear hb)
    refine bodyPost_ret (v := .tuple #[.int .i64 0, .bool false]) (by simp [results, Tryz.results110, go_sem]) rfl ⟨rfl, HB.out⟩
  | some v =>
    have hun : ∀ n : Nat, Qq (n : Int) = s → v = (n : Int) := fun n e => by
      rw [← e, W1, Im] at ha
      exact (Option.some.inj ha).symm
    have HUN := Lib.hid hun; clear hun
    have HA := Lib.hid ha; clear ha
    cases hr : inR v 0 1000000000
    · have hno : A5 s = none := Lw fun n hn e => by
        have h1 := HUN.out n e
        rw [h1, Pa (by omega) (by omega)] at hr
        cases hr
      rw [hno]
      clear hno
      have HR := Lib.hid hr; clear hr
      go_enter Tryz.func110, Tryz.ntmps110
      go_wp2_with (first | (go_at_call 143; refine (Sh.strconv_Atoi s _ (by omega) HA.out w).mono ?_; rintro e1 w1 ⟨rfl, t1, hw1⟩; have hG1 : Below w.heap.size w w1 := (by rw [hw1]; exact Go.Joins.below_bytesWorld _ _ _ _ (Nat.le_refl _)); clear hw1; have hz1 := hG1.size) | (go_at_call 144; refine Fr (w := w) (YC _ v 0 1000000000 false HR.out) (by go_grown) ?_; intro g2 hG2 hb2 hz3 hz4; clear hb2 hz4))
      refine bodyPost_ret (v := .tuple #[.int .i64 0, .bool false]) (by simp [results, Tryz.results110, go_sem]) rfl ⟨rfl, (by go_grown)⟩
    have hrn : ∃ n : Nat, v = (n : Int) ∧ n ≤ 1000000000 := by
      unfold inR at hr
      simp only [Bool.and_eq_true, decide_eq_true_eq] at hr
      exact ⟨v.toNat, by omega, by omega⟩
    obtain ⟨n, rfl, hn⟩ := hrn
    have HR := Lib.hid hr; clear hr
    have hni : I64 (n : Int) := by unfold I64; omega
    have HNI := Lib.hid hni; clear hni
    by_cases he : Qq (n : Int) = s
    · rw [Nf hn he]
      have HEQ := Lib.hid he; clear he
      go_enter Tryz.func110, Tryz.ntmps110
      go_wp2_with (first | (go_at_call 143; refine (Sh.strconv_Atoi s _ (by omega) HA.out w).mono ?_; rintro e1 w1 ⟨rfl, t1, hw1⟩; have hG1 : Below w.heap.size w w1 := (by rw [hw1]; exact Go.Joins.below_bytesWorld _ _ _ _ (Nat.le_refl _)); clear hw1; have hz1 := hG1.size) | (go_at_call 144; refine Fr (w := w) (YC _ n 0 1000000000 true HR.out) (by go_grown) ?_; intro g2 hG2 hb2 hz3 hz4; clear hb2 hz4) | (go_at_call 77; have hcon := (fun w1 h => Ca w1 n HNI.out h); rw [HEQ.out] at hcon; refine Fr (w := w) (hcon _ (HT.out.keep (by go_grown))) (by go_grown) ?_; clear hcon; intro g3 hG3 hb3 hz5 hz6; clear hb3 hz6))
      refine bodyPost_ret (v := .tuple #[.int .i64 n, .bool true]) (by simp [results, Tryz.results110, go_sem]) rfl ⟨rfl, (by go_grown)⟩
    have hno : A5 s = none := Lw fun m hm e => by
      have h1 := HUN.out m e
      have h2 : n = m := by omega
      exact he (h2 ▸ e)
    rw [hno]
    clear hno
    generalize hu : Qq (n : Int) = u at *
    have HU := Lib.hid hu; clear hu
    have hne : (u.toList == s.toList) = false := by rw [Qa6]; exact Qdf he
    go_enter Tryz.func110, Tryz.ntmps110
    go_wp2_with (first | (go_at_call 143; refine (Sh.strconv_Atoi s _ (by omega) HA.out w).mono ?_; rintro e1 w1 ⟨rfl, t1, hw1⟩; have hG1 : Below w.heap.size w w1 := (by rw [hw1]; exact Go.Joins.below_bytesWorld _ _ _ _ (Nat.le_refl _)); clear hw1; have hz1 := hG1.size) | (go_at_call 144; refine Fr (w := w) (YC _ n 0 1000000000 true HR.out) (by go_grown) ?_; intro g2 hG2 hb2 hz3 hz4; clear hb2 hz4) | (go_at_call 77; have hcon := (fun w1 h => Ca w1 n HNI.out h); rw [HU.out] at hcon; refine Fr (w := w) (hcon _ (HT.out.keep (by go_grown))) (by go_grown) ?_; clear hcon; intro g3 hG3 hb3 hz5 hz6; clear hb3 hz6))
    refine bodyPost_ret (v := .tuple #[.int .i64 0, .bool false]) (by simp [results, Tryz.results110, go_sem]) rfl ⟨rfl, (by go_grown)⟩
def Qg (s : ByteArray) : Int × Bool := match A5 s with
  | some n => (n, true)
  | none => (0, false)
theorem Ly {s : ByteArray} {n : Nat} (h : A5 s = some n) : n ≤ 1000000000 ∧ Qq (n : Int) = s := by
  unfold A5 at h
  split at h
  · split at h
    · rename_i h2
      cases h
      exact h2
    cases h
  cases h
section
variable {P : Program}
theorem KI {f : Nat} (hok : Bu P f) {s : ByteArray} (h : ∀ w, Good P w → s.size ≤ maxLen → Calls P f #[.string s] w (Ret w (Qep (A5 s)))) : ACalls P f [.s s] (.tup [(false, [.i (Qg s).1]), (false, [.b (Qg s).2])]) := by
  refine ⟨hok, fun w hg F vals hF hall => ?_⟩
  cases hall with
  | cons h1 h2 =>
    cases h2
    obtain ⟨rfl, hs⟩ := h1
    refine (h w hg hs).mono ?_
    rintro e w' ⟨rfl, hb⟩
    refine ⟨_, fun _ => [], rfl, hb, fun _ => List.nodup_nil, fun k b hm => by simp at hm, fun k k' b hm => by simp at hm, ?_⟩
    unfold Qg Qep
    split
    · rename_i n hn
      have := (Ly hn).1
      exact ⟨[_, _], rfl, .cons ⟨_, rfl, rfl, by constructor <;> simp [IntKind.min, IntKind.max, IntKind.bits, IntKind.signed] <;> omega⟩ (.cons ⟨_, rfl, rfl⟩ .nil)⟩
    exact ⟨[_, _], rfl, .cons ⟨_, rfl, rfl, by constructor <;> decide⟩ (.cons ⟨_, rfl, rfl⟩ .nil)⟩
end
theorem Vw (s : ByteArray) : ACalls Tryz.prog 110 [.s s] (.tup [(false, [.i (Qg s).1]), (false, [.b (Qg s).2])]) := KI (by unfold Bu; kernel_rfl) fun w hg hs => R7 w s hs (hg.tab _ Qeo) (hg.err _ Qe4)
open GoE (enc wide)
def Xe (v : Jf) : ByteArray := (bif (!(Qu v)) then ⟨#[63]⟩ else (bif (v.1 == (1 : Int)) then (Qq v.2.1) else (bif (v.1 == (2 : Int)) then v.2.2 else ⟨#[45]⟩)))
theorem Dk (v : Jf) : ACalls Tryz.prog 117 [.a [.i v.1, .i v.2.1, .s v.2.2]] (.s (Xe v)) := by
 refine en Qa Tryz.func117 fun w0 F0 hG => ?_
 refine sn Qa [1, 2] [1] (p0) ?_
 refine Qc ?_
 refine Qy ?_
 refine tn Qa [1, 2, 3] [1] (pc 1 (Zd v) p0) ?_
 refine ck (!(Qu v)) (fun h1 => ?_) (fun h1 => ?_)
 ·
  refine tu Qa [(2, .s ⟨#[63]⟩)] [0] [] [] (p0) ?_
  refine Qe ?_
  exact ps [] (Xi h1 (rfl))
 have h1n : (Qu v) = true := Jb h1
 refine tu Qa [(1, .p 1 0), (2, .s ⟨#[]⟩), (7, .b (v.1 == (1 : Int)))] [0] [(1, [.i v.1, .i v.2.1, .s v.2.2])] [] (p0) ?_
 refine ck (v.1 == (1 : Int)) (fun h2 => ?_) (fun h2 => ?_)
 ·
  have h2v := YF h1n h2
  have h2d := eq_of_beq h2
  have hk3 := Zk (n := v.2.1) (by omega)
  refine sn Qa [2] [] (pc 2 (Kv v.2.1 (by omega)) p0) ?_
  refine Qe ?_
  exact ps [] (Qk h1 (Xi h2 (rfl)))
 refine sn Qa [1, 2, 14] [1] (p0) ?_
 refine ck (v.1 == (2 : Int)) (fun h4 => ?_) (fun h4 => ?_)
 ·
  refine tn Qa [2] [] (p0) ?_
  refine Qe ?_
  exact ps [] (Qk h1 (Qk h2 (Xi h4 (rfl))))
 refine Qf ?_
 refine tn Qa [2] [] (p0) ?_
 refine Qe ?_
 exact ps [] (Qk h1 (Qk h2 (Qk h4 (rfl))))
def Yc (v : Jf) : ByteArray := (bif (!(Xg v)) then ⟨#[63]⟩ else (bif (v.1 == (1 : Int)) then (Qq v.2.1) else (bif (v.1 == (2 : Int)) then v.2.2 else ⟨#[45]⟩)))
theorem Us (v : Jf) : ACalls Tryz.prog 101 [.a [.i v.1, .i v.2.1, .s v.2.2]] (.s (Yc v)) := by
 refine en Qa Tryz.func101 fun w0 F0 hG => ?_
 refine sn Qa [1, 2] [1] (p0) ?_
 refine Qc ?_
 refine Qy ?_
 refine tn Qa [1, 2, 3] [1] (pc 1 (Ya v) p0) ?_
 refine ck (!(Xg v)) (fun h1 => ?_) (fun h1 => ?_)
 ·
  refine tu Qa [(2, .s ⟨#[63]⟩)] [0] [] [] (p0) ?_
  refine Qe ?_
  exact ps [] (Xi h1 (rfl))
 have h1n : (Xg v) = true := Jb h1
 refine tu Qa [(1, .p 1 0), (2, .s ⟨#[]⟩), (7, .b (v.1 == (1 : Int)))] [0] [(1, [.i v.1, .i v.2.1, .s v.2.2])] [] (p0) ?_
 refine ck (v.1 == (1 : Int)) (fun h2 => ?_) (fun h2 => ?_)
 ·
  have h2v := YF h1n h2
  have h2d := eq_of_beq h2
  have hk3 := Zk (n := v.2.1) (by omega)
  refine sn Qa [2] [] (pc 2 (J0 v.2.1 (by omega)) p0) ?_
  refine Qe ?_
  exact ps [] (Qk h1 (Xi h2 (rfl)))
 refine sn Qa [1, 2, 14] [1] (p0) ?_
 refine ck (v.1 == (2 : Int)) (fun h4 => ?_) (fun h4 => ?_)
 ·
  refine tn Qa [2] [] (p0) ?_
  refine Qe ?_
  exact ps [] (Qk h1 (Qk h2 (Xi h4 (rfl))))
 refine Qf ?_
 refine tn Qa [2] [] (p0) ?_
 refine Qe ?_
 exact ps [] (Qk h1 (Qk h2 (Qk h4 (rfl))))
def Zt (n : Int) : Jf := (1, n, ⟨#[]⟩)
theorem Sz (n : Int) : ACalls Tryz.prog 232 [.i n] (.a [.i ((Zt n).1), .i ((Zt n).2.1), .s ((Zt n).2.2)]) := by
 refine en Qa Tryz.func232 fun w0 F0 hG => ?_
 refine sn Qa [0, 2] [2] (p0) ?_
 refine tn Qa [2] [2] (p0) ?_
 refine Qe ?_
 exact pz [] (show Zt n = (1, n, ⟨#[]⟩) from rfl) (fun z => .a [.i z.1, .i z.2.1, .s z.2.2])
def Y0 (s_ : ByteArray) : Jf := (2, 0, s_)
theorem Ng (s_ : ByteArray) : ACalls Tryz.prog 233 [.s s_] (.a [.i ((Y0 s_).1), .i ((Y0 s_).2.1), .s ((Y0 s_).2.2)]) := by
 refine en Qa Tryz.func233 fun w0 F0 hG => ?_
 refine sn Qa [0, 2] [2] (p0) ?_
 refine tn Qa [2] [2] (p0) ?_
 refine Qe ?_
 exact pz [] (show Y0 s_ = (2, 0, s_) from rfl) (fun z => .a [.i z.1, .i z.2.1, .s z.2.2])
def Qn (s_ : ByteArray) : Jf × Bool := (bif (Qg s_).2 then (bif (!(Qu (Zt ((Qg s_).1)))) then ((0, 0, ⟨#[]⟩), false) else ((Zt ((Qg s_).1)), true)) else (bif (!(s_.toList == (⟨#[45]⟩ : ByteArray).toList)) then (bif (!(Qu (Y0 s_))) then ((0, 0, ⟨#[]⟩), false) else ((Y0 s_), true)) else (bif (!(Qu (0, 0, ⟨#[]⟩))) then ((0, 0, ⟨#[]⟩), false) else ((0, 0, ⟨#[]⟩), true))))
theorem Ej (s_ : ByteArray) : ACalls Tryz.prog 211 [.s s_] (.tup [(true, [.i ((((Qn s_)).1).1), .i ((((Qn s_)).1).2.1), .s ((((Qn s_)).1).2.2)]), (false, [.b (((Qn s_)).2)])]) := by
 refine en Qa Tryz.func211 fun w0 F0 hG => ?_
 refine sn Qa [0, 2, 3] [2] (p0) ?_
 refine tn Qa [0, 2, 3, 4, 5] [2] (pc 1 (Vw s_) p0) ?_
 refine tu Qa [(2, .p 2 0), (3, .b false), (4, .i ((Qg s_).1)), (5, .b ((Qg s_).2)), (6, .p 6 0)] [] [(2, [.i 0, .i 0, .s ⟨#[]⟩]), (6, [.i 0, .i 0, .s ⟨#[]⟩])] [] (p0) ?_
 refine Qc ?_
 refine Qy ?_
 refine sn Qa [0, 2, 3, 4, 6, 13] [2, 6] (p0) ?_
 refine ck ((Qg s_).2) (fun h1 => ?_) (fun h1 => ?_)
 ·
  refine qn Qa [2, 3, 6] [2, 6] (pc 1 (Sz ((Qg s_).1)) p0) ?_
  refine Qc ?_
  refine tu Qa [(24, .b (!(Qu (Zt ((Qg s_).1)))))] [0, 4, 5] [(6, [.i ((Zt ((Qg s_).1)).1), .i ((Zt ((Qg s_).1)).2.1), .s ((Zt ((Qg s_).1)).2.2)])] [6] (pc 1 (Zd (Zt ((Qg s_).1))) p0) ?_
  refine ck (!(Qu (Zt ((Qg s_).1)))) (fun h2 => ?_) (fun h2 => ?_)
  ·
   refine su Qa [] [24] [] [] (p0) ?_
   refine Qe ?_
   exact pz [] (show Qn s_ = _ from Xi h1 (Xi h2 (rfl))) (fun z => .tup [(true, [.i z.1.1, .i z.1.2.1, .s z.1.2.2]), (false, [.b z.2])])
  refine Qf ?_
  refine sn Qa [2, 3] [2] (p0) ?_
  refine Qe ?_
  exact pz [] (show Qn s_ = _ from Xi h1 (Qk h2 (rfl))) (fun z => .tup [(true, [.i z.1.1, .i z.1.2.1, .s z.1.2.2]), (false, [.b z.2])])
 refine tn Qa [0, 2, 3, 6, 17] [2, 6] (p0) ?_
 refine ck (!(s_.toList == (⟨#[45]⟩ : ByteArray).toList)) (fun h3 => ?_) (fun h3 => ?_)
 ·
  refine qu Qa [] [0, 4, 5] [(6, [.i ((Y0 s_).1), .i ((Y0 s_).2.1), .s ((Y0 s_).2.2)])] [6] (pc 1 (Ng s_) p0) ?_
  refine Qc ?_
  refine sn Qa [2, 3, 6, 24] [2, 6] (pc 1 (Zd (Y0 s_)) p0) ?_
  refine ck (!(Qu (Y0 s_))) (fun h4 => ?_) (fun h4 => ?_)
  ·
   refine tu Qa [] [] [] [] (p0) ?_
   refine Qe ?_
   exact pz [] (show Qn s_ = _ from Qk h1 (Xi h3 (Xi h4 (rfl)))) (fun z => .tup [(true, [.i z.1.1, .i z.1.2.1, .s z.1.2.2]), (false, [.b z.2])])
  refine Qf ?_
  refine tn Qa [2, 3] [2] (p0) ?_
  refine Qe ?_
  exact pz [] (show Qn s_ = _ from Qk h1 (Xi h3 (Qk h4 (rfl)))) (fun z => .tup [(true, [.i z.1.1, .i z.1.2.1, .s z.1.2.2]), (false, [.b z.2])])
 refine Qf ?_
 refine Qc ?_
 refine tu Qa [(24, .b (!(Qu (0, 0, ⟨#[]⟩))))] [0, 4, 5] [] [] (pc 1 (Zd (0, 0, ⟨#[]⟩)) p0) ?_
 refine ck (!(Qu (0, 0, ⟨#[]⟩))) (fun h5 => ?_) (fun h5 => ?_)
 ·
  refine su Qa [] [24] [] [] (p0) ?_
  refine Qe ?_
  exact pz [] (show Qn s_ = _ from Qk h1 (Qk h3 (Xi h5 (rfl)))) (fun z => .tup [(true, [.i z.1.1, .i z.1.2.1, .s z.1.2.2]), (false, [.b z.2])])
 refine Qf ?_
 refine sn Qa [2, 3] [2] (p0) ?_
 refine Qe ?_
 exact pz [] (show Qn s_ = _ from Qk h1 (Qk h3 (Qk h5 (rfl)))) (fun z => .tup [(true, [.i z.1.1, .i z.1.2.1, .s z.1.2.2]), (false, [.b z.2])])
def X1 (w : ByteArray) : Jf := (2, 0, w)
theorem Nh (w : ByteArray) : ACalls Tryz.prog 195 [.s w] (.a [.i ((X1 w).1), .i ((X1 w).2.1), .s ((X1 w).2.2)]) := by
 refine en Qa Tryz.func195 fun w0 F0 hG => ?_
 refine sn Qa [0, 2] [2] (p0) ?_
 refine tn Qa [2] [2] (p0) ?_
 refine Qe ?_
 exact pz [] (show X1 w = (2, 0, w) from rfl) (fun z => .a [.i z.1, .i z.2.1, .s z.2.2])
def Yu (n : Int) : Jf := (1, n, ⟨#[]⟩)
theorem S0 (n : Int) : ACalls Tryz.prog 196 [.i n] (.a [.i ((Yu n).1), .i ((Yu n).2.1), .s ((Yu n).2.2)]) := by
 refine en Qa Tryz.func196 fun w0 F0 hG => ?_
 refine sn Qa [0, 2] [2] (p0) ?_
 refine tn Qa [2] [2] (p0) ?_
 refine Qe ?_
 exact pz [] (show Yu n = (1, n, ⟨#[]⟩) from rfl) (fun z => .a [.i z.1, .i z.2.1, .s z.2.2])
def Q8 (s_ : ByteArray) : Jf × Bool := (bif (s_.toList == (⟨#[45]⟩ : ByteArray).toList) then ((0, 0, ⟨#[]⟩), true) else (bif ((Q3 s_)).2 then (bif ((!(Xg (Yu (((Q3 s_)).1)))) || (!((Yc (Yu (((Q3 s_)).1))).toList == s_.toList))) then ((0, 0, ⟨#[]⟩), false) else ((Yu (((Q3 s_)).1)), true)) else (bif ((!(Xg (X1 s_))) || (!((Yc (X1 s_)).toList == s_.toList))) then ((0, 0, ⟨#[]⟩), false) else ((X1 s_), true))))
theorem Ek (s_ : ByteArray) : ACalls Tryz.prog 166 [.s s_] (.tup [(true, [.i ((((Q8 s_)).1).1), .i ((((Q8 s_)).1).2.1), .s ((((Q8 s_)).1).2.2)]), (false, [.b (((Q8 s_)).2)])]) := by
 refine en Qa Tryz.func166 fun w0 F0 hG => ?_
 refine sn Qa [0, 2, 3] [2] (p0) ?_
 refine Qc ?_
 refine tn Qa [0, 2, 3, 8] [2] (p0) ?_
 refine ck (s_.toList == (⟨#[45]⟩ : ByteArray).toList) (fun h1 => ?_) (fun h1 => ?_)
 ·
  refine tu Qa [(2, .p 2 0), (3, .b true)] [] [(2, [.i 0, .i 0, .s ⟨#[]⟩])] [] (p0) ?_
  refine Qe ?_
  exact pz [] (show Q8 s_ = _ from Xi h1 (rfl)) (fun z => .tup [(true, [.i z.1.1, .i z.1.2.1, .s z.1.2.2]), (false, [.b z.2])])
 refine Qf ?_
 refine tu Qa [(2, .p 2 0), (3, .b false), (4, .i (((Q3 s_)).1)), (5, .b (((Q3 s_)).2))] [] [(2, [.i 0, .i 0, .s ⟨#[]⟩])] [] (pc 1 (Ce s_) p0) ?_
 refine sn Qa [0, 2, 3, 4, 5, 6] [2, 6] (pc 1 (Nh s_) p0) ?_
 refine Qc ?_
 refine tn Qa [0, 2, 3, 4, 6, 17] [2, 6] (p0) ?_
 refine ck (((Q3 s_)).2) (fun h2 => ?_) (fun h2 => ?_)
 ·
  refine qu Qa [(6, .p 6 0)] [4, 5] [(6, [.i ((Yu (((Q3 s_)).1)).1), .i ((Yu (((Q3 s_)).1)).2.1), .s ((Yu (((Q3 s_)).1)).2.2)])] [] (pc 1 (S0 (((Q3 s_)).1)) p0) ?_
  refine Qc ?_
  refine Qc ?_
  refine jn [(28, .b ((!(Xg (Yu (((Q3 s_)).1)))) || (!((Yc (Yu (((Q3 s_)).1))).toList == s_.toList))))] [0] [] [] (!(Xg (Yu (((Q3 s_)).1)))) (fun h3 => ?_) (fun h3 => ?_) ?_
  ·
   have h3n : (Xg (Yu (((Q3 s_)).1))) = false := Vz h3
   refine rn Qa [2, 3, 6, 28] [2, 6] (pc 1 (cb h3n (Ya (Yu (((Q3 s_)).1)))) (pe 2 (show .b (!false) = .b true from rfl) p0)) ?_
   exact ⟨rfl, Qd (by rw [h3] <;> kernel_rfl)⟩
  ·
   have h3n : (Xg (Yu (((Q3 s_)).1))) = true := Jb h3
   refine rn Qa [2, 3, 6, 28] [2, 6] (pc 1 (cb h3n (Ya (Yu (((Q3 s_)).1)))) (pe 2 (show .b (!true) = .b false from rfl) (pc 5 (Us (Yu (((Q3 s_)).1))) p0))) ?_
   exact ⟨rfl, Qd (by rw [h3] <;> kernel_rfl)⟩
  refine ck ((!(Xg (Yu (((Q3 s_)).1)))) || (!((Yc (Yu (((Q3 s_)).1))).toList == s_.toList))) (fun h4 => ?_) (fun h4 => ?_)
  ·
   refine su Qa [] [28] [] [] (p0) ?_
   refine Qe ?_
   exact pz [] (show Q8 s_ = _ from Qk h1 (Xi h2 (Xi h4 (rfl)))) (fun z => .tup [(true, [.i z.1.1, .i z.1.2.1, .s z.1.2.2]), (false, [.b z.2])])
  refine Qf ?_
  refine sn Qa [2, 3] [2] (p0) ?_
  refine Qe ?_
  exact pz [] (show Q8 s_ = _ from Qk h1 (Xi h2 (Qk h4 (rfl)))) (fun z => .tup [(true, [.i z.1.1, .i z.1.2.1, .s z.1.2.2]), (false, [.b z.2])])
 refine Qf ?_
 refine Qc ?_
 refine Qc ?_
 refine mz [(6, .p 6 0), (17, .b (((Q3 s_)).2))] [5] [(6, [.i ((X1 s_).1), .i ((X1 s_).2.1), .s ((X1 s_).2.2)])] [] ?_
 refine jn [(28, .b ((!(Xg (X1 s_))) || (!((Yc (X1 s_)).toList == s_.toList))))] [0, 4, 17] [] [] (!(Xg (X1 s_))) (fun h5 => ?_) (fun h5 => ?_) ?_
 ·
  have h5n : (Xg (X1 s_)) = false := Vz h5
  refine rn Qa [2, 3, 6, 28] [2, 6] (pc 1 (cb h5n (Ya (X1 s_))) (pe 2 (show .b (!false) = .b true from rfl) p0)) ?_
  exact ⟨rfl, Qd (by rw [h5] <;> kernel_rfl)⟩
 ·
  have h5n : (Xg (X1 s_)) = true := Jb h5
  refine rn Qa [2, 3, 6, 28] [2, 6] (pc 1 (cb h5n (Ya (X1 s_))) (pe 2 (show .b (!true) = .b false from rfl) (pc 5 (Us (X1 s_)) p0))) ?_
  exact ⟨rfl, Qd (by rw [h5] <;> kernel_rfl)⟩
 refine ck ((!(Xg (X1 s_))) || (!((Yc (X1 s_)).toList == s_.toList))) (fun h6 => ?_) (fun h6 => ?_)
 ·
  refine su Qa [] [28] [] [] (p0) ?_
  refine Qe ?_
  exact pz [] (show Q8 s_ = _ from Qk h1 (Qk h2 (Xi h6 (rfl)))) (fun z => .tup [(true, [.i z.1.1, .i z.1.2.1, .s z.1.2.2]), (false, [.b z.2])])
 refine Qf ?_
 refine sn Qa [2, 3] [2] (p0) ?_
 refine Qe ?_
 exact pz [] (show Q8 s_ = _ from Qk h1 (Qk h2 (Qk h6 (rfl)))) (fun z => .tup [(true, [.i z.1.1, .i z.1.2.1, .s z.1.2.2]), (false, [.b z.2])])
def Qh (p : (List ByteArray)) (at_ : Int) : ByteArray := (bif decide (at_ ≥ (p.length : Int)) then ⟨#[]⟩ else (nth p (Int.toNat at_)))
theorem Jl (p : (List ByteArray)) (at_ : Int) (hp : 0 ≤ at_) : ACalls Tryz.prog 164 [.h p, .i at_] (.s (Qh p at_)) := by
 refine en Qa Tryz.func164 fun w0 F0 hG => ?_
 refine sn Qa [0, 1, 4] [] (p0) ?_
 refine Qc ?_
 refine tn Qa [0, 1, 4, 8] [] (pl 2 p p0) ?_
 refine ck (decide (at_ ≥ (p.length : Int))) (fun h1 => ?_) (fun h1 => ?_)
 ·
  refine tu Qa [(4, .s ⟨#[]⟩)] [] [] [] (p0) ?_
  refine Qe ?_
  exact ps [] (Xi h1 (rfl))
 have h1d := of_decide_eq_false h1
 refine Qf ?_
 refine wT 0 0 .sh p (fun hw3 hl4 => ?_)
 have hx2 := ng p (Int.toNat at_)
 refine tu Qa [(4, .s (nth p (Int.toNat at_)))] [0, 1] [] [] (pg 2 at_ hx2 p0) ?_
 refine Qe ?_
 exact ps [] (Qk h1 (rfl))
def Vl (k0 : Nat) (a0 : ByteArray) (s0 : ByteArray) : Rd (ByteArray) (ByteArray) (ByteArray) := (bif decide (((k0 : Nat) : Int) > (0 : Int)) then (.next ((s0 ++ (⟨#[32]⟩ : ByteArray)) ++ a0)) else (.next (s0 ++ a0)))
def U3 (_ : Nat) (s0 : ByteArray) : ByteArray := s0
def Jm (p : (List ByteArray)) : ByteArray := (Out.on (Yt Vl U3 p 0 ⟨#[]⟩) (fun y0 => y0))
theorem Lz (p : (List ByteArray)) (hp : List.length p ≤ 24) (hq : ∀ y, y ∈ p → ByteArray.size y ≤ 600) : ACalls Tryz.prog 168 [.h p] (.s (Jm p)) := by
 refine en Qa Tryz.func168 fun w0 F0 hG => ?_
 have hq1 : ByteArray.size (⟨#[32]⟩ : ByteArray) = 1 := rfl
 refine sn Qa [0, 2] [] (p0) ?_
 refine tn Qa [0, 2, 3] [] (p0) ?_
 refine Qc ?_
 refine tu Qa [(2, .s ⟨#[]⟩), (3, .s ⟨#[]⟩), (4, .i 0)] [] [] [] (p0) ?_
 refine wT 0 0 .sh p (fun hw1 hl2 => ?_)
 refine Qa3 Vl U3 p ⟨#[]⟩ (fun k0 s0 => [(3, .s s0), (4, .i ((k0 : Nat) : Int))]) [3, 4] (fun y0 => [(3, .s y0)]) [0, 3, 4] (fun k0 s0 => ByteArray.size s0 ≤ 700 * k0) wf0 (by decide) (fun k0 s0 hk0 hI0 => ?_) (fun k0 s0 hk0 hI0 => ?_) (fun y0 hD0 => ?_)
 ·
  have hA0_0 := hI0.2
  obtain ⟨a0, hx0⟩ := Yi (l := p) (i := k0) hk0
  have hx1 := hq _ (List.mem_of_getElem? hx0)
  refine Qc ?_
  refine sn Qa [0, 2, 3, 4, 8] [] (pl 2 p (pe 3 (Qz (decide_eq_true (p := ((k0 : Nat) : Int) < (p.length : Int)) (by omega))) p0)) ?_
  refine ckT ?_
  refine Qf ?_
  refine Qc ?_
  refine Qy ?_
  refine Qc ?_
  refine tn Qa [0, 2, 3, 4, 12] [] (p0) ?_
  refine ck (decide (((k0 : Nat) : Int) > (0 : Int))) (fun h3 => ?_) (fun h3 => ?_)
  ·
   have h3d := of_decide_eq_true h3
   refine qu Qa [(3, .s (s0 ++ (⟨#[32]⟩ : ByteArray)))] [3] [] [] (px (Yk (n := (ByteArray.size s0 + ByteArray.size (⟨#[32]⟩ : ByteArray))) (by have hq0 : ByteArray.size (⟨#[32]⟩ : ByteArray) = 1 := rfl; unfold maxLen; first | omega | (simp only [ByteArray.size_append]; omega))) p0) ?_
   refine rn Qa [0, 2, 3, 4] [] (pn 3 hx0 (px (Yk (n := (ByteArray.size (s0 ++ (⟨#[32]⟩ : ByteArray)) + ByteArray.size a0)) (by have hq0 : ByteArray.size (⟨#[32]⟩ : ByteArray) = 1 := rfl; unfold maxLen; first | omega | (simp only [ByteArray.size_append]; omega))) p0)) ?_
   refine qn Qa [0, 2, 3, 4] [] (pe 1 (Jr (Q1 k0 (by omega))) p0) ?_
   exact xw ((s0 ++ (⟨#[32]⟩ : ByteArray)) ++ a0) ⟨Xl hx0 (Xi h3 (rfl)) hI0.1, (by first | omega | (simp only [ByteArray.size_append]; omega))⟩
  have h3d := of_decide_eq_false h3
  refine Qf ?_
  refine qu Qa [(3, .s (s0 ++ a0))] [3] [] [] (pn 3 hx0 (px (Yk (n := (ByteArray.size s0 + ByteArray.size a0)) (by unfold maxLen; first | omega | (simp only [ByteArray.size_append]; omega))) p0)) ?_
  refine rn Qa [0, 2, 3, 4] [] (pe 1 (Jr (Q1 k0 (by omega))) p0) ?_
  exact xw (s0 ++ a0) ⟨Xl hx0 (Qk h3 (rfl)) hI0.1, (by first | omega | (simp only [ByteArray.size_append]; omega))⟩
 ·
  have hA0_0 := hI0.2
  refine Qc ?_
  refine sn Qa [0, 2, 3, 4, 8] [] (pl 2 p (pe 3 (Qz (decide_eq_false (p := ((k0 : Nat) : Int) < (p.length : Int)) (by omega))) p0)) ?_
  refine ckF ?_
  refine Xs ?_
  exact xw _ (Yn hk0 (rfl) hI0.1)
 refine sn Qa [2] [] (p0) ?_
 refine Qe ?_
 exact ps [] (V4 hD0 (rfl))
def X4 (p : (List ByteArray)) (at_ : Int) : Int := ((Q3 (Qh p at_))).1
theorem Cw (p : (List ByteArray)) (at_ : Int) (hp : 0 ≤ at_) : ACalls Tryz.prog 165 [.h p, .i at_] (.i (X4 p at_)) := by
 refine en Qa Tryz.func165 fun w0 F0 hG => ?_
 refine sn Qa [0, 1, 4] [] (p0) ?_
 refine tn Qa [4, 5] [] (pc 2 (Jl p at_ (by omega)) (pc 3 (Ce (Qh p at_)) p0)) ?_
 refine tu Qa [(4, .i (((Q3 (Qh p at_))).1))] [0, 1] [] [] (p0) ?_
 refine Qe ?_
 exact pi [] (show X4 p at_ = ((Q3 (Qh p at_))).1 from rfl)
def Cf (b : (List ByteArray)) (k0 : Nat) (a0 : ByteArray) (_ : Unit) : Rd (Bool) (Unit) (Unit) := (bif (!(a0.toList == (nth b k0).toList)) then (.ret false) else (.next ()))
def Cg (_ : Nat) (_ : Unit) : Unit := ()
def V1 (a_ : (List ByteArray)) (b : (List ByteArray)) : Bool := (bif ((a_.length : Int) != (b.length : Int)) then false else (Out.on (Yt (Cf b) Cg a_ 0 ()) (fun _ => true)))
theorem Gt (a_ : (List ByteArray)) (b : (List ByteArray)) : ACalls Tryz.prog 36 [.h a_, .h b] (.b (V1 a_ b)) := by
 refine en Qa Tryz.func36 fun w0 F0 hG => ?_
 refine sn Qa [0, 1, 4] [] (p0) ?_
 refine Qc ?_
 refine tn Qa [0, 1, 4, 10] [] (pl 1 a_ (pl 3 b p0)) ?_
 refine ck ((a_.length : Int) != (b.length : Int)) (fun h1 => ?_) (fun h1 => ?_)
 ·
  refine tu Qa [(4, .b false)] [] [] [] (p0) ?_
  refine Qe ?_
  exact pb [] (Xi h1 (rfl))
 have h1d := Hs h1
 refine Qf ?_
 refine Qc ?_
 refine tu Qa [(4, .b false), (5, .i 0)] [] [] [] (p0) ?_
 refine wT 0 0 .sh a_ (fun hw2 hl3 => ?_)
 refine Su (Cf b) Cg a_ () (fun k0 _ => [(5, .i ((k0 : Nat) : Int))]) [5] (fun _ => []) [0, 1, 5] wf0 (fun k0 s0 hk0 hI0 => ?_) (fun k0 s0 hk0 hI0 => ?_) (fun y0 hD0 => ?_)
 ·
  obtain ⟨a0, hx0⟩ := Yi (l := a_) (i := k0) hk0
  refine Qc ?_
  refine sn Qa [0, 1, 4, 5, 14] [] (pl 2 a_ (pe 3 (Qz (decide_eq_true (p := ((k0 : Nat) : Int) < (a_.length : Int)) (by omega))) p0)) ?_
  refine ckT ?_
  refine Qf ?_
  refine Qc ?_
  refine Qy ?_
  refine wT 1 0 .sh b (fun hw5 hl6 => ?_)
  have hx4 := ng b k0
  refine tN Qa Yp [0, 1, 4, 5, 25] [] (pn 2 hx0 (pn 6 hx4 p0)) ?_
  refine ck (!(a0.toList == (nth b k0).toList)) (fun h7 => ?_) (fun h7 => ?_)
  ·
   refine tu Qa [] [] [] [] (p0) ?_
   refine Qe ?_
   have hr8 : (Yt (Cf b) Cg a_ 0 ()) = .ret false := Kh hx0 (Xi h7 (rfl)) hI0
   exact pb [] (Qk h1 (N7 hr8))
  refine Qf ?_
  refine qu Qa [(5, .i ((k0 + 1 : Nat) : Int))] [5] [] [] (pe 1 (Jr (Q1 k0 (by omega))) p0) ?_
  exact xw _ (Xl hx0 (Qk h7 (rfl)) hI0)
 ·
  refine Qc ?_
  refine sn Qa [0, 1, 4, 5, 14] [] (pl 2 a_ (pe 3 (Qz (decide_eq_false (p := ((k0 : Nat) : Int) < (a_.length : Int)) (by omega))) p0)) ?_
  refine ckF ?_
  refine Xs ?_
  exact xw _ (Yn hk0 (rfl) hI0)
 refine sn Qa [4] [] (p0) ?_
 refine Qe ?_
 exact pb [] (Qk h1 (V4 hD0 (rfl)))
theorem Ax (a b : List UInt8) : W0 (a ++ b) = W0 a ++ W0 b := by
  apply ByteArray.ext
  rw [ByteArray.data_append]
  show (a ++ b).toArray = a.toArray ++ b.toArray
  simp
theorem Zh (s a : ByteArray) : Q6 s [a] = a := by
  unfold Q6
  rw [List.map_cons, List.map_nil, Lib.join_one, Kl]
theorem Jo (s a b : ByteArray) (l : List ByteArray) : Q6 s (a :: b :: l) = a ++ s ++ Q6 s (b :: l) := by
  unfold Q6
  simp only [List.map_cons]
  rw [Lib.join_cons, Lib.join_cons]
  unfold Lib.joinTail
  simp only [List.map_cons, List.flatten_cons]
  rw [Ax, Ax, Ax, Ax, Kl, Kl, Kl]
  simp only [ByteArray.append_assoc]
theorem Z3 (s a b : ByteArray) : Q6 s [a, b] = (a ++ s) ++ b := by rw [Jo, Zh]
theorem Zv (s a b c : ByteArray) : Q6 s [a, b, c] = (((a ++ s) ++ b) ++ s) ++ c := by
  rw [Jo, Z3]; simp only [ByteArray.append_assoc]
theorem Ak (s : ByteArray) : ∀ {l m : List ByteArray}, l ≠ [] → m ≠ [] → Q6 s (l ++ m) = Q6 s l ++ s ++ Q6 s m
  | [], _, h, _ => absurd rfl h
  | [a], [], _, h => absurd rfl h
  | [a], b :: m, _, _ => by rw [List.singleton_append, Jo, Zh]
  | a :: b :: l, m, _, h => by
    have ih := Ak s (l := b :: l) (m := m) (fun e => by cases e) h
    rw [List.cons_append] at ih
    rw [List.cons_append, List.cons_append, Jo, ih, Jo]
    simp only [ByteArray.append_assoc]
theorem QG {s : ByteArray} {m : Nat} (hs : s.size = 1) : ∀ {l : List ByteArray}, (∀ y, y ∈ l → y.size ≤ m) → (Q6 s l).size ≤ l.length * (m + 1)
  | [], _ => Nat.zero_le _
  | [a], h => by rw [Zh]; have := h a (List.mem_cons_self ..); simp only [List.length_cons, List.length_nil]; omega
  | a :: b :: l, h => by
    rw [Jo, ByteArray.size_append, ByteArray.size_append]
    have h1 := h a (List.mem_cons_self ..)
    have h2 := QG hs (l := b :: l) fun y hy => h y (List.mem_cons_of_mem _ hy)
    simp only [List.length_cons, Nat.add_mul] at h2 ⊢
    omega
theorem J9 {s : ByteArray} {m n : Nat} {l : List ByteArray} (hs : s.size = 1) (h : ∀ y, y ∈ l → y.size ≤ m) (hl : l.length ≤ n) : (Q6 s l).size ≤ n * (m + 1) :=
  Nat.le_trans (QG hs h) (Nat.mul_le_mul_right _ hl)
theorem R8 {c : UInt8} (a b : ByteArray) (l : List ByteArray) : (Q6 ⟨#[c]⟩ (a :: b :: l)).data.toList = a.data.toList ++ c :: (Q6 ⟨#[c]⟩ (b :: l)).data.toList := by
  rw [Jo, ByteArray.data_append, ByteArray.data_append]
  simp
/-! ### cut again -/
theorem HD {c : UInt8} : ∀ {l : List UInt8}, c ∉ l → R0 c l = [l]
  | [], _ => rfl
  | b :: l, h => by
    have hb : ¬ b = c := fun e => h (by rw [e]; exact List.mem_cons_self ..)
    rw [R0, if_neg hb, HD fun hm => h (List.mem_cons_of_mem _ hm)]
theorem YG {c : UInt8} (r : List UInt8) : ∀ {l : List UInt8}, c ∉ l → R0 c (l ++ c :: r) = l :: R0 c r
  | [], _ => by rw [List.nil_append, R0, if_pos rfl]
  | b :: l, h => by
    have hb : ¬ b = c := fun e => h (by rw [e]; exact List.mem_cons_self ..)
    rw [List.cons_append, R0, if_neg hb, YG r fun hm => h (List.mem_cons_of_mem _ hm)]
theorem BS {c : UInt8} : ∀ {l : List ByteArray}, l ≠ [] → (∀ y, y ∈ l → c ∉ y.data.toList) → Qm c (Q6 ⟨#[c]⟩ l) = l
  | [], h, _ => absurd rfl h
  | [a], _, h => by
    rw [Zh]
    unfold Qm
    rw [HD (h a (List.mem_cons_self ..)), List.map_cons, List.map_nil, Kl]
  | a :: b :: l, _, h => by
    have ih := BS (c := c) (l := b :: l) (fun e => by cases e) fun y hy => h y (List.mem_cons_of_mem _ hy)
    unfold Qm at ih ⊢
    rw [R8, YG _ (h a (List.mem_cons_self ..)), List.map_cons, ih, Kl]
theorem Ni (c : UInt8) (s : ByteArray) : 1 ≤ (Qm c s).length := by
  obtain ⟨p, ps, h⟩ := R1 c s.data.toList
  unfold Qm
  rw [h, List.map_cons, List.length_cons]
  omega
theorem KJ (c : UInt8) : ∀ l : List UInt8, Lib.join (R0 c l) [c] = l
  | [] => by rw [R0, Lib.join_one]
  | b :: l => by
    have ih := KJ c l
    obtain ⟨p, ps, h⟩ := R1 c l
    rw [h] at ih
    rw [Lib.join_cons] at ih
    by_cases hb : b = c
    · rw [R0, if_pos hb, h, Lib.join_cons]
      unfold Lib.joinTail at ih ⊢
      rw [List.map_cons, List.flatten_cons, List.nil_append, List.append_assoc, ih, hb]
      rfl
    rw [R0, if_neg hb, h]
    show Lib.join ((b :: p) :: ps) [c] = _
    rw [Lib.join_cons, List.cons_append, ih]
theorem RB (c : UInt8) (s : ByteArray) : Q6 ⟨#[c]⟩ (Qm c s) = s := by
  unfold Q6 Qm
  rw [List.map_map, show ((fun x : ByteArray => x.data.toList) ∘ W0) = id from funext fun _ => rfl, List.map_id]
  show W0 (Lib.join (R0 c s.data.toList) [c]) = s
  rw [KJ, Kl]
theorem N3 (s : ByteArray) : ∀ (l : List ByteArray) (k : Nat), (Q6 s (l.drop k)).size ≤ (Q6 s l).size
  | l, 0 => Nat.le_refl _
  | [], k + 1 => by rw [List.drop_nil]; exact Nat.le_refl _
  | [a], k + 1 => by rw [List.drop_succ_cons, List.drop_nil]; exact Nat.zero_le _
  | a :: b :: l, k + 1 => by
    have := N3 s (b :: l) k
    rw [List.drop_succ_cons, Jo, ByteArray.size_append]
    omega
theorem LG (c : UInt8) (s : ByteArray) (k : Nat) : (Q6 ⟨#[c]⟩ ((Qm c s).drop k)).size ≤ s.size := by
  have := N3 ⟨#[c]⟩ (Qm c s) k
  rwa [RB] at this
def Word (s : ByteArray) : Prop := 1 ≤ s.size ∧ ∀ b, b ∈ s.data.toList → 33 ≤ b.toNat ∧ b.toNat ≤ 126
theorem Word.no {s : ByteArray} (h : Word s) {c : UInt8} (hc : c.toNat < 33) : c ∉ s.data.toList := fun hm => by have := (h.2 c hm).1; omega
theorem Word.ne {s : ByteArray} (h : Word s) : s.data.toList ≠ [] := fun e => by
  have h1 := h.1
  have h2 : s.data.toList.length = s.size := Array.length_toList
  rw [e] at h2
  simp at h2
  omega
theorem Word.sp {s : ByteArray} (h : Word s) {b : UInt8} (hb : b ∈ s.data.toList) : Lib.isSp b = false := by
  have h1 := h.2 b hb
  cases hs : Lib.isSp b with
  | false => rfl
  | true =>
    exfalso
    unfold Lib.isSp at hs
    simp only [Bool.or_eq_true, beq_iff_eq] at hs
    rcases hs with ((((rfl | rfl) | rfl) | rfl) | rfl) | rfl <;> revert h1 <;> decide
theorem Io : ∀ (l cur r : List UInt8), (∀ b, b ∈ l → Lib.isSp b = false) → Lib.fieldsGo cur (l ++ r) = Lib.fieldsGo (cur ++ l) r
  | [], cur, r, _ => by rw [List.nil_append, List.append_nil]
  | b :: l, cur, r, h => by
    rw [List.cons_append, Lib.fieldsGo_more _ _ _ (h b (List.mem_cons_self ..)), Io l _ r fun x hx => h x (List.mem_cons_of_mem _ hx), List.append_assoc, List.singleton_append]
theorem Ip : ∀ {l : List ByteArray}, (∀ y, y ∈ l → Word y) → Z9 (Q6 ⟨#[32]⟩ l) = l
  | [], _ => rfl
  | [a], h => by
    have ha := h a (List.mem_cons_self ..)
    rw [Zh]
    unfold Z9 Lib.fields
    have := Io a.data.toList [] [] fun b hb => ha.sp hb
    rw [List.append_nil, List.nil_append] at this
    rw [this]
    unfold Lib.fieldsGo
    rw [if_neg (by simpa using ha.ne), List.map_cons, List.map_nil, Kl]
  | a :: b :: l, h => by
    have ha := h a (List.mem_cons_self ..)
    have ih := Ip (l := b :: l) fun y hy => h y (List.mem_cons_of_mem _ hy)
    unfold Z9 Lib.fields at ih ⊢
    rw [R8, Io _ _ _ fun b hb => ha.sp hb, List.nil_append, Lib.fieldsGo_end _ _ _ rfl ha.ne, List.map_cons, ih, Kl]
theorem Nj {l : List ByteArray} (h : ∀ y, y ∈ l → Word y) : ∀ b, b ∈ (Q6 ⟨#[32]⟩ l).data.toList → 32 ≤ b.toNat ∧ b.toNat ≤ 126 := by
  match l, h with
  | [], _ => intro b hb; simp [Q6, Lib.join, W0, List.intercalate] at hb
  | [a], h =>
    intro b hb
    rw [Zh] at hb
    have := (h a (List.mem_cons_self ..)).2 b hb
    omega
  | a :: b :: l, h =>
    intro x hx
    rw [R8] at hx
    rcases List.mem_append.1 hx with hx | hx
    · have := (h a (List.mem_cons_self ..)).2 x hx; omega
    rcases List.mem_cons.1 hx with rfl | hx
    · decide
    exact Nj (fun y hy => h y (List.mem_cons_of_mem _ hy)) x hx
theorem HF (v : Jf) : (Xe v).size ≤ 10 := by
  unfold Xe
  cases hv : Qu v with
  | false => exact show (1 : Nat) ≤ 10 by decide
  | true =>
    simp only [Bool.not_true, cond_false]
    cases h1 : (v.1 == (1 : Int)) with
    | true => have h2 := YF hv h1; exact Zk (by omega)
    | false =>
      cases h2 : (v.1 == (2 : Int)) with
      | true => exact Nat.le_trans (Cv (LF hv h2).1).2 (by decide)
      | false => exact show (1 : Nat) ≤ 10 by decide
theorem Qdg (v : Jf) : Yc v = Xe v := rfl
theorem TA (v : Jf) : (Yc v).size ≤ 10 := HF v
theorem Pd {op : Int} (h : Q9 op 1 9 = true) : op = 1 ∨ op = 2 ∨ op = 3 ∨ op = 4 ∨ op = 5 ∨ op = 6 ∨ op = 7 ∨ op = 8 ∨ op = 9 := by
  have := Jv.1 h; omega
theorem BT (op : Int) : Xk op = Qo op := by
  unfold Xk Qo
  rw [← Rl]
  cases h : Q9 op 1 9 with
  | false => rfl
  | true => rcases Pd h with rfl | rfl | rfl | rfl | rfl | rfl | rfl | rfl | rfl <;> rfl
theorem LH (op : Int) : (Qo op).size ≤ 6 := by
  cases h : Q9 op 1 9 with
  | false => unfold Qo; rw [h]; exact show (1 : Nat) ≤ 6 by decide
  | true => rcases Pd h with rfl | rfl | rfl | rfl | rfl | rfl | rfl | rfl | rfl <;> decide
theorem TB (op : Int) : (Xk op).size ≤ 6 := BT op ▸ LH op
theorem QH (p : List ByteArray) : Jm p = Q6 ⟨#[32]⟩ p := by
  have e0 : ∀ a : ByteArray, (⟨#[]⟩ : ByteArray) ++ a = a := fun a => by apply ByteArray.ext; rw [ByteArray.data_append]; simp
  have key : ∀ (l : List ByteArray) (k : Nat) (a s : ByteArray), Yt Vl U3 l (k + 1) (s ++ a) = .brk (s ++ Q6 ⟨#[32]⟩ (a :: l)) := by
    intro l
    induction l with
    | nil => intro k a s; rw [Zh]; rfl
    | cons b l ih =>
      intro k a s
      have hf : Vl (k + 1) b (s ++ a) = .next ((s ++ a ++ ⟨#[32]⟩) ++ b) := by
        unfold Vl
        rw [decide_eq_true (show (((k + 1 : Nat) : Nat) : Int) > 0 by omega), cond_true]
      simp only [Yt, hf]
      have := ih (k + 1) b (s ++ a ++ ⟨#[32]⟩)
      rw [this, Jo]
      simp only [ByteArray.append_assoc]
  unfold Jm
  cases p with
  | nil => rfl
  | cons a l =>
    have h0 : Yt Vl U3 (a :: l) 0 ⟨#[]⟩ = Yt Vl U3 l (0 + 1) ((⟨#[]⟩ : ByteArray) ++ a) := rfl
    rw [h0, key, e0]
    rfl
theorem Qbl {n : Qw} {k : Int} (h : Yo n k = true) : n.2.2.2.1.size ≤ 6 := by
  have e : ∀ {a : ByteArray}, (a.toList == (⟨#[]⟩ : ByteArray).toList) = true → a.size ≤ 6 := fun h => by rw [H6 h]; decide
  have e1 : ∀ {a : ByteArray}, Qs a = true → a.size ≤ 6 := fun h => by rw [YB h]; decide
  have e2 : ∀ {a : ByteArray}, Q0 a = true → a.size ≤ 6 := fun h => (Cv h).2
  unfold Yo at h
  cases h1 : (n.1 == (1 : Int)) <;> cases h2 : (n.1 == (2 : Int)) <;> cases h3 : (n.1 == (3 : Int)) <;> cases h4 : (n.1 == (4 : Int)) <;> cases h5 : (n.1 == (5 : Int)) <;> cases h6 : (n.1 == (6 : Int)) <;> cases h7 : (n.1 == (7 : Int)) <;> cases h8 : (n.1 == (8 : Int)) <;> cases h9 : (n.1 == (9 : Int)) <;> simp only [h1, h2, h3, h4, h5, h6, h7, h8, h9, cond_true, cond_false, Bool.and_eq_true] at h <;> first
    | exact e h.2.2.2.1
    | exact e h.1.2.2.2.1
    | exact e1 h.2
    | exact e1 h.2.1
    | exact e2 h.2
    | cases h
theorem R9 {q : List Qw} {at_ : Int} (hv : Qj q = true) (ha : 0 ≤ at_) (hb : at_ < (q.length : Int)) : (nth q (Int.toNat at_)).2.2.2.1.size ≤ 6 := Qbl (XS hv (G9 (by omega)))
theorem BU {f : Zl} (h : FBd f) : ∀ y, y ∈ [(⟨#[102, 105, 108, 101]⟩ : ByteArray), (Qq f.1), (Qq f.2.1), (bif f.2.2.1 then ⟨#[115]⟩ else ⟨#[111]⟩), (Qq f.2.2.2.1)] → y.size ≤ 10 := fun y hy => by
  have h1 := h.1; have h2 := h.2.1; have h3 := h.2.2.1
  simp only [List.mem_cons, List.mem_nil_iff, or_false] at hy
  rcases hy with rfl | rfl | rfl | rfl | rfl
  · decide
  · exact Zk (by omega)
  · exact Zk (by omega)
  · cases f.2.2.1 <;> decide
  exact Zk (by omega)
theorem LI {f : Zl} (h : FBd f) {l : List ByteArray} {k : Nat} {a : Kz} (ha : f.2.2.2.2[k]? = some a) (hl : ∀ y, y ∈ l → y.size ≤ 10) : ∀ y, y ∈ l ++ [a.1, Xe a.2] → y.size ≤ 10 := fun y hy => by
  rcases List.mem_append.1 hy with hy | hy
  · exact hl y hy
  have := h.2.2.2.2 a (List.mem_of_getElem? ha)
  simp only [List.mem_cons, List.mem_nil_iff, or_false] at hy
  rcases hy with rfl | rfl
  · rw [YB this.1]; decide
  exact HF _
theorem LJ {f : Zl} (h : FBd f) {a : Kz} (ha : a ∈ f.2.2.2.2) : a.1.size ≤ 10 := by
  rw [YB (h.2.2.2.2 a ha).1]; decide
def Bf (b : UInt8) : Bool := decide (32 ≤ b.toNat) && decide (b.toNat ≤ 126)
theorem Dl {s : ByteArray} {k : Nat} {c : UInt8} (h : s.data.toList[k]? = some c) : Yw s ((k : Nat) : Int) = (c.toNat : Int) := by
  unfold Yw
  rw [Int.toNat_natCast, List.getD_eq_getElem?_getD, h]
  rfl
theorem Hf (s : ByteArray) : s.data.toList.length = s.size := Array.length_toList
theorem Ch {α : Type} {l r : List α} {k : Nat} {c : α} (h : l.drop k = c :: r) : l[k]? = some c ∧ l.drop (k + 1) = r ∧ k < l.length := by
  have h1 : l[k]? = some c := by
    have := congrArg (fun x => x[0]?) h
    simpa using this
  refine ⟨h1, ?_, (List.getElem?_eq_some_iff.1 h1).1⟩
  have := congrArg (List.drop 1) h
  rw [List.drop_drop] at this
  simpa [Nat.add_comm] using this
theorem Qeq {c : UInt8} (h : Bf c = true) (h2 : c.toNat ≠ 32) : Lib.isSp c = false := by
  unfold Bf at h
  simp only [Bool.and_eq_true, decide_eq_true_eq] at h
  cases hs : Lib.isSp c with
  | false => rfl
  | true =>
    exfalso
    unfold Lib.isSp at hs
    simp only [Bool.or_eq_true, beq_iff_eq] at hs
    rcases hs with ((((rfl | rfl) | rfl) | rfl) | rfl) | rfl <;> revert h h2 <;> decide
theorem Qdh {c : UInt8} (h : c.toNat = 32) : Lib.isSp c = true := by
  have : c = 32 := UInt8.toNat_inj.1 h
  rw [this]; rfl
theorem Fm (s : ByteArray) (b k : Nat) : ByteArray.extract s b k = W0 ((s.data.toList.drop b).take (k - b)) := by
  apply ByteArray.ext
  rw [ByteArray.data_extract]
  apply Array.toList_inj.1
  rw [Array.toList_extract]
  unfold W0
  simp [List.extract_eq_take_drop]
theorem D7 {R S T : Type} {f : Nat → S → Rd R S T} {e : Nat → S → T} {n k : Nat} {s s' : S} (h : f k s = .next s') : Jn f e (n + 1) k s = Jn f e n (k + 1) s' := by rw [Jn, h]
theorem KK {R S T : Type} {f : Nat → S → Rd R S T} {e : Nat → S → T} {n k : Nat} {s : S} {r : R} (h : f k s = .ret r) : Jn f e (n + 1) k s = .ret r := by rw [Jn, h]
theorem LL (line : ByteArray) : ∀ (rest : List UInt8) (k b : Nat) (s1 : List ByteArray), line.data.toList.drop k = rest → k ≤ line.size → b ≤ k →
    Jn (Jk line) J8 (rest.length + 1) k (s1, (b : Int)) = if rest.all Bf then .brk (s1 ++ (Lib.fieldsGo ((line.data.toList.drop b).take (k - b)) rest).map W0) else .ret ([], false)
  | [], k, b, s1, hr, hk, hb => by
    have hks : k = line.size := by
      have := congrArg List.length hr
      rw [List.length_drop, Hf] at this
      simp only [List.length_nil] at this
      omega
    have hlt : decide (((k : Nat) : Int) < (line.size : Int)) = false := decide_eq_false (by omega)
    simp only [List.length_nil, Jn]
    unfold Jk
    rw [hlt]
    simp only [Bool.false_and, cond_false, List.all_nil, if_true]
    have hl : ((line.data.toList.drop b).take (k - b)).length = k - b := by
      rw [List.length_take, List.length_drop, Hf]; omega
    unfold Lib.fieldsGo
    by_cases hbk : b < k
    · rw [decide_eq_true (show (b : Int) < ((k : Nat) : Int) by omega)]
      have hne : ((line.data.toList.drop b).take (k - b)).isEmpty = false := by
        cases hx : (line.data.toList.drop b).take (k - b) with
        | nil => rw [hx] at hl; simp at hl; omega
        | cons _ _ => rfl
      rw [hne]
      simp only [cond_true, J8, Int.toNat_natCast]
      rw [Fm]
      rfl
    rw [decide_eq_false (show ¬ (b : Int) < ((k : Nat) : Int) by omega)]
    have hne : ((line.data.toList.drop b).take (k - b)).isEmpty = true := by
      rw [show k - b = 0 by omega]; rfl
    rw [hne]
    simp only [cond_false, J8, if_true, List.map_nil, List.append_nil]
  | c :: rest, k, b, s1, hr, hk, hb => by
    obtain ⟨hc, hd, hlt0⟩ := Ch hr
    rw [Hf] at hlt0
    have hlt : decide (((k : Nat) : Int) < (line.size : Int)) = true := decide_eq_true (by omega)
    have hs := Dl hc
    rw [List.length_cons]
    have hf : Jk line k (s1, (b : Int)) = (bif (decide ((c.toNat : Int) < (32 : Int)) || decide ((c.toNat : Int) > (126 : Int))) then (.ret ([], false)) else (bif ((c.toNat : Int) != (32 : Int)) then (.next (s1, (b : Int))) else (bif decide ((b : Int) < ((k : Nat) : Int)) then (.next (s1 ++ [(ByteArray.extract line (Int.toNat (b : Int)) (Int.toNat ((k : Nat) : Int)))], ((k + 1 : Nat) : Int))) else (.next (s1, ((k + 1 : Nat) : Int)))))) := by
      unfold Jk
      rw [hlt, hs, Bool.true_and, Bool.true_and]
    rw [List.all_cons]
    cases hok : Bf c with
    | false =>
      have h1 : (decide ((c.toNat : Int) < (32 : Int)) || decide ((c.toNat : Int) > (126 : Int))) = true := by
        unfold Bf at hok
        simp only [Bool.and_eq_false_iff, decide_eq_false_iff_not] at hok
        simp only [Bool.or_eq_true, decide_eq_true_eq]
        omega
      rw [h1, cond_true] at hf
      rw [KK hf]
      rfl
    | true =>
      have h1 : (decide ((c.toNat : Int) < (32 : Int)) || decide ((c.toNat : Int) > (126 : Int))) = false := by
        unfold Bf at hok
        simp only [Bool.and_eq_true, decide_eq_true_eq] at hok
        simp only [Bool.or_eq_false_iff, decide_eq_false_iff_not]
        omega
      rw [h1, cond_false] at hf
      rw [Bool.true_and]
      by_cases h32 : c.toNat = 32
      · have h2 : ((c.toNat : Int) != (32 : Int)) = false := by rw [h32]; rfl
        rw [h2, cond_false] at hf
        have hsp := Qdh h32
        have hl : ((line.data.toList.drop b).take (k - b)).length = k - b := by
          rw [List.length_take, List.length_drop, Hf]; omega
        have ih := fun s2 => LL line rest (k + 1) (k + 1) s2 hd (by omega) (Nat.le_refl _)
        simp only [Nat.sub_self, List.take_zero] at ih
        by_cases hbk : b < k
        · rw [decide_eq_true (show (b : Int) < ((k : Nat) : Int) by omega), cond_true] at hf
          have hne : (line.data.toList.drop b).take (k - b) ≠ [] := fun e => by rw [e] at hl; simp at hl; omega
          rw [D7 hf, ih, Lib.fieldsGo_end _ _ _ hsp hne, Int.toNat_natCast, Int.toNat_natCast, Fm]
          split
          · rw [List.map_cons, List.append_assoc, List.singleton_append]
          rfl
        rw [decide_eq_false (show ¬ (b : Int) < ((k : Nat) : Int) by omega), cond_false] at hf
        have hne : (line.data.toList.drop b).take (k - b) = [] := by rw [show k - b = 0 by omega]; rfl
        rw [D7 hf, ih, hne, Lib.fieldsGo_sp _ _ hsp]
      have h2 : ((c.toNat : Int) != (32 : Int)) = true := by
        rw [bne_iff_ne]; omega
      rw [h2, cond_true] at hf
      have ih := LL line rest (k + 1) b s1 hd (by omega) (by omega)
      rw [D7 hf, ih, Lib.fieldsGo_more _ _ _ (Qeq hok h32)]
      have e : (line.data.toList.drop b).take (k + 1 - b) = (line.data.toList.drop b).take (k - b) ++ [c] := by
        have : (line.data.toList.drop b)[k - b]? = some c := by rw [List.getElem?_drop, show b + (k - b) = k by omega]; exact hc
        rw [show k + 1 - b = (k - b) + 1 by omega, List.take_add_one, this]
        rfl
      rw [e]
theorem KL (line : ByteArray) : ∀ (rest : List UInt8) (k : Nat), line.data.toList.drop k = rest → Jn (Vd line) Ws rest.length k () = if rest.all Bf then .brk () else .ret ([], false)
  | [], k, _ => rfl
  | c :: rest, k, hr => by
    obtain ⟨hc, hd, _⟩ := Ch hr
    simp only [List.length_cons, Jn]
    unfold Vd
    rw [Dl hc, IntWalk.i64_in (c.toNat : Int) (by have := c.toNat_lt; omega)]
    have e : Q9 (c.toNat : Int) 32 126 = Bf c := by
      unfold Q9 Bf
      congr 1
      · exact decide_eq_decide.2 (by omega)
      exact decide_eq_decide.2 (by omega)
    rw [e, List.all_cons]
    cases hok : Bf c with
    | false => rfl
    | true =>
      simp only [Bool.not_true, cond_false, Bool.true_and]
      exact KL line rest (k + 1) hd
theorem LM (line : ByteArray) : Qb line = Xd line := by
  unfold Qb Xd
  cases decide ((ByteArray.size line : Int) > (600 : Int)) with
  | true => rfl
  | false =>
    simp only [cond_false]
    have h1 := LL line line.data.toList 0 0 [] rfl (Nat.zero_le _) (Nat.le_refl _)
    have h2 := KL line line.data.toList 0 rfl
    rw [Hf] at h1 h2
    rw [show Int.toNat ((ByteArray.size line : Int) + 1) = line.size + 1 by omega, show Int.toNat (ByteArray.size line : Int) = line.size by omega]
    rw [show (([] : List ByteArray), (0 : Int)) = ([], ((0 : Nat) : Int)) from rfl, h1, h2]
    cases line.data.toList.all Bf with
    | false => rfl
    | true =>
      simp only [if_true, Out.on, Nat.sub_self, List.take_zero, List.nil_append]
      rfl
theorem Qdi (line : ByteArray) : (Xd line).1.length ≤ 24 ∧ ∀ y, y ∈ (Xd line).1 → y.size ≤ 600 := by
  unfold Xd
  cases hc : decide ((ByteArray.size line : Int) > (600 : Int)) with
  | true => exact ⟨Nat.zero_le _, fun y hy => by cases hy⟩
  | false =>
    have h6 := of_decide_eq_false hc
    simp only [cond_false]
    have h2 := KL line line.data.toList 0 rfl
    rw [Hf] at h2
    rw [show Int.toNat (ByteArray.size line : Int) = line.size by omega, h2]
    cases line.data.toList.all Bf with
    | false => exact ⟨Nat.zero_le _, fun y hy => by cases hy⟩
    | true =>
      simp only [if_true, Out.on]
      cases h3 : decide (((Z9 line).length : Int) > (24 : Int)) with
      | true => exact ⟨Nat.zero_le _, fun y hy => by cases hy⟩
      | false =>
        have := of_decide_eq_false h3
        simp only [cond_false]
        refine ⟨by omega, fun y hy => ?_⟩
        have := (Lq line).2 y hy
        omega
theorem Dm (line : ByteArray) : (Qb line).1.length ≤ 24 ∧ ∀ y, y ∈ (Qb line).1 → y.size ≤ 600 := by rw [LM]; exact Qdi line
theorem L3 {l : List ByteArray} (h : ∀ y, y ∈ l → Word y) (hl : l.length ≤ 24) (hs : (Q6 ⟨#[32]⟩ l).size ≤ 600) : Xd (Q6 ⟨#[32]⟩ l) = (l, true) := by
  unfold Xd
  rw [decide_eq_false (show ¬ ((Q6 ⟨#[32]⟩ l).size : Int) > 600 by omega)]
  simp only [cond_false]
  have h2 := KL (Q6 ⟨#[32]⟩ l) (Q6 ⟨#[32]⟩ l).data.toList 0 rfl
  rw [Hf] at h2
  rw [show Int.toNat (ByteArray.size (Q6 ⟨#[32]⟩ l) : Int) = (Q6 ⟨#[32]⟩ l).size by omega, h2]
  have ha : (Q6 ⟨#[32]⟩ l).data.toList.all Bf = true := List.all_eq_true.2 fun b hb => by
    have := Nj h b hb
    unfold Bf
    simp only [Bool.and_eq_true, decide_eq_true_eq]
    exact this
  rw [ha, Ip h]
  simp only [if_true, Out.on]
  rw [decide_eq_false (show ¬ (l.length : Int) > 24 by omega)]
  rfl
open GoE (enc wide)
def Al (_ : Nat) (a0 : Kz) (s0 : (List ByteArray)) : Rd (ByteArray) ((List ByteArray)) ((List ByteArray)) := (.next (s0 ++ [a0.1, (Xe a0.2)]))
def Am (_ : Nat) (s0 : (List ByteArray)) : (List ByteArray) := s0
def Ym (f : Zl) : ByteArray := (Out.on (Yt Al Am f.2.2.2.2 0 [(⟨#[102, 105, 108, 101]⟩ : ByteArray), (Qq f.1), (Qq f.2.1), (bif f.2.2.1 then ⟨#[115]⟩ else ⟨#[111]⟩), (Qq f.2.2.2.1)]) (fun y0 => (Q6 ⟨#[32]⟩ y0)))
theorem Oa (f : Zl) (hf : FBd f) : ACalls Tryz.prog 78 [.a [.i f.1, .i f.2.1, .b f.2.2.1, .i f.2.2.2.1, .h f.2.2.2.2]] (.s (Ym f)) := by
 refine en Qa Tryz.func78 fun w0 F0 hG => ?_
 have hf1 := hf.1
 have hf2 := hf.2.1
 have hf3 := hf.2.2.1
 have hf4 := hf.2.2.2.1
 have hfs := BU hf
 refine sn Qa [1, 2] [1] (p0) ?_
 refine tn Qa [1, 2, 3] [1] (p0) ?_
 refine Qc ?_
 refine tu Qa [(1, .p 1 0), (2, .s ⟨#[]⟩), (3, .s ⟨#[111]⟩), (8, .b f.2.2.1)] [0] [(1, [.i f.1, .i f.2.1, .b f.2.2.1, .i f.2.2.2.1, .h f.2.2.2.2])] [] (p0) ?_
 refine jn [(3, .s (bif f.2.2.1 then ⟨#[115]⟩ else ⟨#[111]⟩))] [3, 8] [] [] f.2.2.1 (fun h1 => ?_) (fun h1 => ?_) ?_
 ·
  refine ckt h1 ?_
  refine rn Qa [1, 2, 3] [1] (p0) ?_
  exact ⟨rfl, Qd (by rw [h1] <;> kernel_rfl)⟩
 ·
  refine ckf h1 ?_
  refine Qf ?_
  exact ⟨rfl, Qd (by rw [h1] <;> kernel_rfl)⟩
 have hk2 := Zk (n := f.1) (by omega)
 have hk3 := Zk (n := f.2.1) (by omega)
 have hk4 := Zk (n := f.2.2.2.1) (by omega)
 refine sN Qa Yp [1, 2, 4] [1] (pc 2 (Kv f.1 (by omega)) (pc 5 (Kv f.2.1 (by omega)) (pc 9 (Kv f.2.2.2.1 (by omega)) p0))) ?_
 refine Qc ?_
 refine tn Qa [2, 4, 21, 22, 23] [] (pl 2 f.2.2.2.2 p0) ?_
 refine mz [(4, .o 1216 [(⟨#[102, 105, 108, 101]⟩ : ByteArray), (Qq f.1), (Qq f.2.1), (bif f.2.2.1 then ⟨#[115]⟩ else ⟨#[111]⟩), (Qq f.2.2.2.1)]), (21, .h f.2.2.2.2), (22, .i (f.2.2.2.2.length : Int)), (23, .i 0)] [1, 3] [] [1] ?_
 refine wT 21 0 .sh f.2.2.2.2 (fun hw5 hl6 => ?_)
 refine GV Al Am f.2.2.2.2 [(⟨#[102, 105, 108, 101]⟩ : ByteArray), (Qq f.1), (Qq f.2.1), (bif f.2.2.1 then ⟨#[115]⟩ else ⟨#[111]⟩), (Qq f.2.2.2.1)] (fun k0 s0 => [(4, .o 147201 s0), (23, .i ((k0 : Nat) : Int))]) [4, 23] (fun y0 => [(4, .o 147351 y0)]) [4, 21, 22, 23] (fun k0 s0 => (∀ y, y ∈ s0 → ByteArray.size y ≤ 10) ∧ List.length s0 ≤ 5 + 2 * k0) (fun y0 => (∀ x, x ∈ y0 → ByteArray.size x ≤ 10) ∧ List.length y0 ≤ 15) (Ys [(1216, 147201)] (by kernel_rfl)) ⟨(by first | exact hfs | (simp; done) | decide), (by first | exact hfs | (simp; done) | decide)⟩ (fun k0 s0 hk0 hI0 => ?_) (fun k0 s0 hk0 hI0 => ?_) (fun y0 hD0 => ?_)
 ·
  have hA0_0 := hI0.2.1
  have hA0_1 := hI0.2.2
  obtain ⟨a0, hx0⟩ := Yi (l := f.2.2.2.2) (i := k0) hk0
  refine su Qa [(24, .b true)] [] [] [] (pe 0 (Qz (decide_eq_true (p := ((k0 : Nat) : Int) < (f.2.2.2.2.length : Int)) (by omega))) p0) ?_
  refine Qc ?_
  refine ckT ?_
  refine Qf ?_
  refine Qc ?_
  refine Qy ?_
  refine sn Qa [2, 4, 6, 21, 22, 23] [6] (pn 0 hx0 p0) ?_
  have hk7 := HF a0.2
  refine wT 4 0 (.own true 147201) s0 (fun hw8 hl9 => ?_)
  refine qU Qa Yp [(4, .one (.slc (.own true 2176) 1 ((eL s0) ++ [[.s a0.1], [.s (Xe a0.2)]])))] [4, 24] [] [] (pc 5 (Dk a0.2) (pa s0 [a0.1, (Xe a0.2)] p0)) ?_
  refine eqn [(4, .o 2176 (s0 ++ [a0.1, (Xe a0.2)]))] [4] [] [] (by rw [show ((eL s0) ++ [[.s a0.1], [.s (Xe a0.2)]]) = (eL (s0 ++ [a0.1, (Xe a0.2)])) from Je (rfl) (rfl)]; first | done | kernel_rfl) ?_
  refine rn Qa [2, 4, 21, 22, 23] [] (pe 0 (Jr (Q1 k0 (by omega))) p0) ?_
  exact Exists.intro (s0 ++ [a0.1, (Xe a0.2)]) (And.intro (Ys [(2176, 147201)] (by kernel_rfl)) ⟨Xl hx0 (rfl) hI0.1, (by first | exact LI hf hx0 hA0_0 | (simp; omega)), (by first | exact LI hf hx0 hA0_0 | (simp; omega))⟩)
 ·
  have hA0_0 := hI0.2.1
  have hA0_1 := hI0.2.2
  refine su Qa [(24, .b false)] [] [] [] (pe 0 (Qz (decide_eq_false (p := ((k0 : Nat) : Int) < (f.2.2.2.2.length : Int)) (by omega))) p0) ?_
  refine Qc ?_
  refine ckF ?_
  refine Xs ?_
  exact Exists.intro s0 (And.intro (Ys [(147201, 147351)] (by kernel_rfl)) ⟨Yn hk0 (rfl) hI0.1, by first | exact hA0_0 | omega, by first | exact hA0_0 | omega⟩)
 have hD0_0 := hD0.2.1
 have hD0_1 := hD0.2.2
 refine sn Qa [2] [] (pc 1 (Kj y0 ⟨#[32]⟩ (by first | omega | exact Nat.le_trans (J9 (m := 10) (n := 20) rfl (by assumption) (by omega)) (by decide) | (simp only [Zh, Z3, Zv, ByteArray.size_append]; omega))) p0) ?_
 refine Qe ?_
 exact ps [] (V4 hD0.1 (rfl))
def Ut (_ : Nat) (a0 : Kz) (s0 : ByteArray) : Rd (ByteArray) (ByteArray) (ByteArray) := (.next ((((s0 ++ (⟨#[32]⟩ : ByteArray)) ++ a0.1) ++ (⟨#[32]⟩ : ByteArray)) ++ (Yc a0.2)))
def Uu (_ : Nat) (s0 : ByteArray) : ByteArray := s0
def Zr (f : Zl) : ByteArray := (Out.on (Yt Ut Uu f.2.2.2.2 0 ((bif f.2.2.1 then (((((⟨#[102, 105, 108, 101, 32]⟩ : ByteArray) ++ (Qq f.1)) ++ (⟨#[32]⟩ : ByteArray)) ++ (Qq f.2.1)) ++ (⟨#[32, 115, 32]⟩ : ByteArray)) else (((((⟨#[102, 105, 108, 101, 32]⟩ : ByteArray) ++ (Qq f.1)) ++ (⟨#[32]⟩ : ByteArray)) ++ (Qq f.2.1)) ++ (⟨#[32, 111, 32]⟩ : ByteArray))) ++ (Qq f.2.2.2.1))) (fun y0 => y0))
theorem Oc (f : Zl) (hf : FBd f) : ACalls Tryz.prog 64 [.a [.i f.1, .i f.2.1, .b f.2.2.1, .i f.2.2.2.1, .h f.2.2.2.2]] (.s (Zr f)) := by
 refine en Qa Tryz.func64 fun w0 F0 hG => ?_
 have hf1 := hf.1
 have hf2 := hf.2.1
 have hf3 := hf.2.2.1
 have hf4 := hf.2.2.2.1
 have hq1 : ByteArray.size (⟨#[32]⟩ : ByteArray) = 1 := rfl
 have hq2 : ByteArray.size (⟨#[102, 105, 108, 101, 32]⟩ : ByteArray) = 5 := rfl
 have hq3 : ByteArray.size (⟨#[32, 115, 32]⟩ : ByteArray) = 3 := rfl
 have hq4 : ByteArray.size (⟨#[32, 111, 32]⟩ : ByteArray) = 3 := rfl
 refine sn Qa [1, 2] [1] (p0) ?_
 have hk1 := Zk (n := f.1) (by omega)
 have hk2 := Zk (n := f.2.1) (by omega)
 refine tN Qa Yp [1, 2, 3] [1] (pc 2 (J0 f.1 (by omega)) (px (Yk (n := (ByteArray.size (⟨#[102, 105, 108, 101, 32]⟩ : ByteArray) + ByteArray.size (Qq f.1))) (by have hq0 : ByteArray.size (⟨#[102, 105, 108, 101, 32]⟩ : ByteArray) = 5 := rfl; unfold maxLen; first | omega | (simp only [ByteArray.size_append]; omega) | (cases f.2.2.1 <;> simp only [cond_true, cond_false, ByteArray.size_append] <;> omega))) (px (Yk (n := (ByteArray.size ((⟨#[102, 105, 108, 101, 32]⟩ : ByteArray) ++ (Qq f.1)) + ByteArray.size (⟨#[32]⟩ : ByteArray))) (by have hq0 : ByteArray.size (⟨#[102, 105, 108, 101, 32]⟩ : ByteArray) = 5 := rfl; have hq1 : ByteArray.size (⟨#[32]⟩ : ByteArray) = 1 := rfl; unfold maxLen; first | omega | (simp only [ByteArray.size_append]; omega) | (cases f.2.2.1 <;> simp only [cond_true, cond_false, ByteArray.size_append] <;> omega))) (pc 7 (J0 f.2.1 (by omega)) (px (Yk (n := (ByteArray.size (((⟨#[102, 105, 108, 101, 32]⟩ : ByteArray) ++ (Qq f.1)) ++ (⟨#[32]⟩ : ByteArray)) + ByteArray.size (Qq f.2.1))) (by have hq0 : ByteArray.size (⟨#[102, 105, 108, 101, 32]⟩ : ByteArray) = 5 := rfl; have hq1 : ByteArray.size (⟨#[32]⟩ : ByteArray) = 1 := rfl; unfold maxLen; first | omega | (simp only [ByteArray.size_append]; omega) | (cases f.2.2.1 <;> simp only [cond_true, cond_false, ByteArray.size_append] <;> omega))) p0))))) ?_
 refine Qc ?_
 refine tu Qa [(1, .p 1 0), (2, .s ⟨#[]⟩), (3, .s ((((⟨#[102, 105, 108, 101, 32]⟩ : ByteArray) ++ (Qq f.1)) ++ (⟨#[32]⟩ : ByteArray)) ++ (Qq f.2.1))), (15, .b f.2.2.1)] [0] [(1, [.i f.1, .i f.2.1, .b f.2.2.1, .i f.2.2.2.1, .h f.2.2.2.2])] [] (p0) ?_
 refine jn [(3, .s (bif f.2.2.1 then (((((⟨#[102, 105, 108, 101, 32]⟩ : ByteArray) ++ (Qq f.1)) ++ (⟨#[32]⟩ : ByteArray)) ++ (Qq f.2.1)) ++ (⟨#[32, 115, 32]⟩ : ByteArray)) else (((((⟨#[102, 105, 108, 101, 32]⟩ : ByteArray) ++ (Qq f.1)) ++ (⟨#[32]⟩ : ByteArray)) ++ (Qq f.2.1)) ++ (⟨#[32, 111, 32]⟩ : ByteArray))))] [3, 15] [] [] f.2.2.1 (fun h3 => ?_) (fun h3 => ?_) ?_
 ·
  refine ckt h3 ?_
  refine rn Qa [1, 2, 3] [1] (px (Yk (n := (ByteArray.size ((((⟨#[102, 105, 108, 101, 32]⟩ : ByteArray) ++ (Qq f.1)) ++ (⟨#[32]⟩ : ByteArray)) ++ (Qq f.2.1)) + ByteArray.size (⟨#[32, 115, 32]⟩ : ByteArray))) (by have hq0 : ByteArray.size (⟨#[102, 105, 108, 101, 32]⟩ : ByteArray) = 5 := rfl; have hq1 : ByteArray.size (⟨#[32, 115, 32]⟩ : ByteArray) = 3 := rfl; have hq2 : ByteArray.size (⟨#[32]⟩ : ByteArray) = 1 := rfl; unfold maxLen; first | omega | (simp only [ByteArray.size_append]; omega) | (cases f.2.2.1 <;> simp only [cond_true, cond_false, ByteArray.size_append] <;> omega))) p0) ?_
  exact ⟨rfl, Qd (by rw [h3] <;> kernel_rfl)⟩
 ·
  refine ckf h3 ?_
  refine rn Qa [1, 2, 3] [1] (px (Yk (n := (ByteArray.size ((((⟨#[102, 105, 108, 101, 32]⟩ : ByteArray) ++ (Qq f.1)) ++ (⟨#[32]⟩ : ByteArray)) ++ (Qq f.2.1)) + ByteArray.size (⟨#[32, 111, 32]⟩ : ByteArray))) (by have hq0 : ByteArray.size (⟨#[102, 105, 108, 101, 32]⟩ : ByteArray) = 5 := rfl; have hq1 : ByteArray.size (⟨#[32, 111, 32]⟩ : ByteArray) = 3 := rfl; have hq2 : ByteArray.size (⟨#[32]⟩ : ByteArray) = 1 := rfl; unfold maxLen; first | omega | (simp only [ByteArray.size_append]; omega) | (cases f.2.2.1 <;> simp only [cond_true, cond_false, ByteArray.size_append] <;> omega))) p0) ?_
  exact ⟨rfl, Qd (by rw [h3] <;> kernel_rfl)⟩
 have hk4 := Zk (n := f.2.2.2.1) (by omega)
 refine sn Qa [1, 2, 3] [1] (pc 3 (J0 f.2.2.2.1 (by omega)) (px (Yk (n := (ByteArray.size (bif f.2.2.1 then (((((⟨#[102, 105, 108, 101, 32]⟩ : ByteArray) ++ (Qq f.1)) ++ (⟨#[32]⟩ : ByteArray)) ++ (Qq f.2.1)) ++ (⟨#[32, 115, 32]⟩ : ByteArray)) else (((((⟨#[102, 105, 108, 101, 32]⟩ : ByteArray) ++ (Qq f.1)) ++ (⟨#[32]⟩ : ByteArray)) ++ (Qq f.2.1)) ++ (⟨#[32, 111, 32]⟩ : ByteArray))) + ByteArray.size (Qq f.2.2.2.1))) (by have hq0 : ByteArray.size (⟨#[102, 105, 108, 101, 32]⟩ : ByteArray) = 5 := rfl; have hq1 : ByteArray.size (⟨#[32, 111, 32]⟩ : ByteArray) = 3 := rfl; have hq2 : ByteArray.size (⟨#[32, 115, 32]⟩ : ByteArray) = 3 := rfl; have hq3 : ByteArray.size (⟨#[32]⟩ : ByteArray) = 1 := rfl; unfold maxLen; first | omega | (simp only [ByteArray.size_append]; omega) | (cases f.2.2.1 <;> simp only [cond_true, cond_false, ByteArray.size_append] <;> omega))) p0)) ?_
 refine Qc ?_
 refine tn Qa [1, 2, 3, 4] [1] (p0) ?_
 refine mz [(3, .s ((bif f.2.2.1 then (((((⟨#[102, 105, 108, 101, 32]⟩ : ByteArray) ++ (Qq f.1)) ++ (⟨#[32]⟩ : ByteArray)) ++ (Qq f.2.1)) ++ (⟨#[32, 115, 32]⟩ : ByteArray)) else (((((⟨#[102, 105, 108, 101, 32]⟩ : ByteArray) ++ (Qq f.1)) ++ (⟨#[32]⟩ : ByteArray)) ++ (Qq f.2.1)) ++ (⟨#[32, 111, 32]⟩ : ByteArray))) ++ (Qq f.2.2.2.1))), (4, .i 0)] [3] [] [] ?_
 refine wB 1 4 .sh f.2.2.2.2 (fun hw5 hl6 => ?_)
 refine GW Ut Uu f.2.2.2.2 ((bif f.2.2.1 then (((((⟨#[102, 105, 108, 101, 32]⟩ : ByteArray) ++ (Qq f.1)) ++ (⟨#[32]⟩ : ByteArray)) ++ (Qq f.2.1)) ++ (⟨#[32, 115, 32]⟩ : ByteArray)) else (((((⟨#[102, 105, 108, 101, 32]⟩ : ByteArray) ++ (Qq f.1)) ++ (⟨#[32]⟩ : ByteArray)) ++ (Qq f.2.1)) ++ (⟨#[32, 111, 32]⟩ : ByteArray))) ++ (Qq f.2.2.2.1)) (fun k0 s0 => [(3, .s s0), (4, .i ((k0 : Nat) : Int))]) [3, 4] (fun _ _ => []) [] (fun y0 => [(3, .s y0)]) [1, 3, 4] (fun _ => []) [1] (fun k0 s0 => ByteArray.size s0 ≤ 100 + 30 * k0) wf0 (by first | omega | (simp only [ByteArray.size_append]; omega) | (cases f.2.2.1 <;> simp only [cond_true, cond_false, ByteArray.size_append] <;> omega)) (fun k0 s0 hk0 hI0 => ?_) (fun k0 s0 hk0 hI0 => ?_) (fun y0 hD0 => ?_)
 ·
  have hA0_0 := hI0.2
  obtain ⟨a0, hx0⟩ := Yi (l := f.2.2.2.2) (i := k0) hk0
  have hna := LJ hf (List.mem_of_getElem? hx0)
  refine Qc ?_
  refine sn Qa [1, 2, 3, 4, 29] [1] (pl 3 f.2.2.2.2 (pe 4 (Qz (decide_eq_true (p := ((k0 : Nat) : Int) < (f.2.2.2.2.length : Int)) (by omega))) p0)) ?_
  refine ckT ?_
  refine Qf ?_
  refine Qc ?_
  refine Qy ?_
  have hk7 := TA a0.2
  refine qN Qa Yp [1, 2, 3, 4] [1] (px (Yk (n := (ByteArray.size s0 + ByteArray.size (⟨#[32]⟩ : ByteArray))) (by have hq0 : ByteArray.size (⟨#[32]⟩ : ByteArray) = 1 := rfl; unfold maxLen; first | omega | (simp only [ByteArray.size_append]; omega) | (cases f.2.2.1 <;> simp only [cond_true, cond_false, ByteArray.size_append] <;> omega))) (pn 5 hx0 (px (Yk (n := (ByteArray.size (s0 ++ (⟨#[32]⟩ : ByteArray)) + ByteArray.size a0.1)) (by have hq0 : ByteArray.size (⟨#[32]⟩ : ByteArray) = 1 := rfl; unfold maxLen; first | omega | (simp only [ByteArray.size_append]; omega) | (cases f.2.2.1 <;> simp only [cond_true, cond_false, ByteArray.size_append] <;> omega))) (px (Yk (n := (ByteArray.size ((s0 ++ (⟨#[32]⟩ : ByteArray)) ++ a0.1) + ByteArray.size (⟨#[32]⟩ : ByteArray))) (by have hq0 : ByteArray.size (⟨#[32]⟩ : ByteArray) = 1 := rfl; unfold maxLen; first | omega | (simp only [ByteArray.size_append]; omega) | (cases f.2.2.1 <;> simp only [cond_true, cond_false, ByteArray.size_append] <;> omega))) (pn 13 hx0 (pc 16 (Us a0.2) (px (Yk (n := (ByteArray.size (((s0 ++ (⟨#[32]⟩ : ByteArray)) ++ a0.1) ++ (⟨#[32]⟩ : ByteArray)) + ByteArray.size (Yc a0.2))) (by have hq0 : ByteArray.size (⟨#[32]⟩ : ByteArray) = 1 := rfl; unfold maxLen; first | omega | (simp only [ByteArray.size_append]; omega) | (cases f.2.2.1 <;> simp only [cond_true, cond_false, ByteArray.size_append] <;> omega))) p0))))))) ?_
  refine qu Qa [(3, .s ((((s0 ++ (⟨#[32]⟩ : ByteArray)) ++ a0.1) ++ (⟨#[32]⟩ : ByteArray)) ++ (Yc a0.2))), (4, .i ((k0 + 1 : Nat) : Int))] [3, 4] [] [] (pe 1 (Jr (Q1 k0 (by omega))) p0) ?_
  exact xw ((((s0 ++ (⟨#[32]⟩ : ByteArray)) ++ a0.1) ++ (⟨#[32]⟩ : ByteArray)) ++ (Yc a0.2)) ⟨Xl hx0 (rfl) hI0.1, (by first | omega | (simp only [ByteArray.size_append]; omega))⟩
 ·
  have hA0_0 := hI0.2
  refine Qc ?_
  refine sn Qa [1, 2, 3, 4, 29] [1] (pl 3 f.2.2.2.2 (pe 4 (Qz (decide_eq_false (p := ((k0 : Nat) : Int) < (f.2.2.2.2.length : Int)) (by omega))) p0)) ?_
  refine ckF ?_
  refine Xs ?_
  exact xw _ (Yn hk0 (rfl) hI0.1)
 refine sn Qa [2] [] (p0) ?_
 refine Qe ?_
 exact ps [] (V4 hD0 (rfl))
open GoE (enc wide)
def Xq (n_ : Nat) (q : (List Qw)) (at_ : Int) : ByteArray := match n_ with
 | 0 => default
 | n_ + 1 => (bif ((nth q (Int.toNat at_)).1 == (2 : Int)) then (Q6 ⟨#[32]⟩ [(Qo ((nth q (Int.toNat at_)).1)), (nth q (Int.toNat at_)).2.2.2.1]) else (bif (bif ((nth q (Int.toNat at_)).1 == (8 : Int)) then ((nth q (Int.toNat at_)).1 == (8 : Int)) else ((nth q (Int.toNat at_)).1 == (9 : Int))) then (Q6 ⟨#[32]⟩ [(Qo ((nth q (Int.toNat at_)).1)), (nth q (Int.toNat at_)).2.2.2.1]) else (bif (bif ((nth q (Int.toNat at_)).1 == (3 : Int)) then ((nth q (Int.toNat at_)).1 == (3 : Int)) else ((nth q (Int.toNat at_)).1 == (4 : Int))) then (Q6 ⟨#[32]⟩ [(Qo ((nth q (Int.toNat at_)).1)), (nth q (Int.toNat at_)).2.2.2.1, (Xe ((nth q (Int.toNat at_)).2.2.2.2.1, (nth q (Int.toNat at_)).2.2.2.2.2.1, (nth q (Int.toNat at_)).2.2.2.2.2.2))]) else (bif ((nth q (Int.toNat at_)).1 == (5 : Int)) then (Q6 ⟨#[32]⟩ [(Qo ((nth q (Int.toNat at_)).1)), (Xq n_ q ((nth q (Int.toNat at_)).2.1))]) else (bif ((nth q (Int.toNat at_)).1 == (6 : Int)) then (Q6 ⟨#[32]⟩ [(Qo ((nth q (Int.toNat at_)).1)), (Xq n_ q ((nth q (Int.toNat at_)).2.1)), (Xq n_ q ((nth q (Int.toNat at_)).2.2.1))]) else (bif ((nth q (Int.toNat at_)).1 == (7 : Int)) then (Q6 ⟨#[32]⟩ [(Qo ((nth q (Int.toNat at_)).1)), (Xq n_ q ((nth q (Int.toNat at_)).2.1)), (Xq n_ q ((nth q (Int.toNat at_)).2.2.1))]) else (Q6 ⟨#[32]⟩ [(Qo ((nth q (Int.toNat at_)).1))])))))))
theorem Qe5 : ∀ (n : Nat) {q : List Qw} (_ : Qj q = true) {k : Nat} (_ : k < q.length), (Xq n q (k : Int)).size + 8 ≤ 40 * 2 ^ k
 | 0, q, hv, k, hk => by
  have h1 : 1 ≤ 2 ^ k := Nat.one_le_two_pow
  show 0 + 8 ≤ _
  omega
 | n + 1, q, hv, k, hk => by
  have h1 : 1 ≤ 2 ^ k := Nat.one_le_two_pow
  have e1 : (⟨#[32]⟩ : ByteArray).size = 1 := rfl
  have hnm := R9 hv (at_ := (k : Int)) (by omega) (by omega)
  have hop := LH (nth q (Int.toNat (k : Int))).1
  have hfv := HF ((nth q (Int.toNat (k : Int))).2.2.2.2.1, (nth q (Int.toNat (k : Int))).2.2.2.2.2.1, (nth q (Int.toNat (k : Int))).2.2.2.2.2.2)
  have kid : ∀ j : Int, 0 ≤ j ∧ j < (k : Int) → (Xq n q j).size + 8 ≤ 20 * 2 ^ k := fun j hj => by
   obtain ⟨m, rfl⟩ := Int.eq_ofNat_of_zero_le hj.1
   have h2 := Qe5 n hv (k := m) (by omega)
   have h3 : 2 ^ (m + 1) ≤ 2 ^ k := Nat.pow_le_pow_right (by decide) (by omega)
   rw [Nat.pow_succ] at h3
   omega
  have ka := EP hv (k := (k : Int)) (by omega) (by omega)
  have kb := EQ hv (k := (k : Int)) (by omega) (by omega)
  have kc := ID hv (k := (k : Int)) (by omega) (by omega)
  have kd := ER hv (k := (k : Int)) (by omega) (by omega)
  have ke := IE hv (k := (k : Int)) (by omega) (by omega)
  unfold Xq
  generalize nth q (Int.toNat (k : Int)) = x at *
  simp only [Zh, Z3, Zv]
  cases h2 : (x.1 == (2 : Int)) with
  | true => simp only [cond_true, ByteArray.size_append]; omega
  | false =>
  cases h8 : (x.1 == (8 : Int)) with
  | true => simp only [cond_true, cond_false, ByteArray.size_append]; omega
  | false =>
  cases h9 : (x.1 == (9 : Int)) with
  | true => simp only [cond_true, cond_false, ByteArray.size_append]; omega
  | false =>
  cases h3 : (x.1 == (3 : Int)) with
  | true => simp only [cond_true, cond_false, ByteArray.size_append]; omega
  | false =>
  cases h4 : (x.1 == (4 : Int)) with
  | true => simp only [cond_true, cond_false, ByteArray.size_append]; omega
  | false =>
  cases h5 : (x.1 == (5 : Int)) with
  | true => have := kid _ (ka h5); simp only [cond_true, cond_false, ByteArray.size_append]; omega
  | false =>
  cases h6 : (x.1 == (6 : Int)) with
  | true => have := kid _ (kb h6); have := kid _ (kd h6); simp only [cond_true, cond_false, ByteArray.size_append]; omega
  | false =>
  cases h7 : (x.1 == (7 : Int)) with
  | true => have := kid _ (kc h7); have := kid _ (ke h7); simp only [cond_true, cond_false, ByteArray.size_append]; omega
  | false => simp only [cond_false]; omega
theorem HG (n : Nat) {q : List Qw} (hv : Qj q = true) {k : Int} (h0 : 0 ≤ k) (h1 : k < (q.length : Int)) : (Xq n q k).size ≤ 10240 := by
 obtain ⟨m, rfl⟩ := Int.eq_ofNat_of_zero_le h0
 have h2 := Qe5 n hv (k := m) (by omega)
 have h3 := Ei hv
 have h4 : 2 ^ m ≤ 2 ^ 8 := Nat.pow_le_pow_right (by decide) (by omega)
 omega
theorem Sa : ∀ (n_ : Nat) (q : (List Qw)) (at_ : Int) (hv : Qj q = true) (ha : 0 ≤ at_) (hb : at_ < (q.length : Int)) (hn : at_ < ((n_ : Nat) : Int)), ACalls Tryz.prog 120 [.h q, .i at_] (.s (Xq n_ q at_)) := by
 intro n_
 induction n_ with
 | zero => intro q at_ hv ha hb hn; exact (by omega : False).elim
 | succ n_ ih =>
  intro q at_ hv ha hb hn
  refine en Qa Tryz.func120 fun w0 F0 hG => ?_
  have hnm := R9 hv ha hb
  have hql := Ei hv
  have hq1 : ByteArray.size (⟨#[32]⟩ : ByteArray) = 1 := rfl
  refine sn Qa [0, 1, 4] [] (p0) ?_
  refine wT 0 0 .sh q (fun hw2 hl3 => ?_)
  have hx1 := ng q (Int.toNat at_)
  refine tn Qa [0, 4, 5] [5] (pg 2 at_ hx1 p0) ?_
  have hk4 := LH ((nth q (Int.toNat at_)).1)
  refine tu Qa [(4, .s ⟨#[]⟩), (5, .p 5 0), (6, .o 896 [(Qo ((nth q (Int.toNat at_)).1))])] [1] [(5, [.i ((nth q (Int.toNat at_)).1), .i ((nth q (Int.toNat at_)).2.1), .i ((nth q (Int.toNat at_)).2.2.1), .s ((nth q (Int.toNat at_)).2.2.2.1), .i ((nth q (Int.toNat at_)).2.2.2.2.1), .i ((nth q (Int.toNat at_)).2.2.2.2.2.1), .s ((nth q (Int.toNat at_)).2.2.2.2.2.2)])] [] (pc 2 (Fk ((nth q (Int.toNat at_)).1)) p0) ?_
  refine Qc ?_
  refine sn Qa [0, 4, 5, 6, 16] [5] (p0) ?_
  refine Qy ?_
  refine Qc ?_
  refine tn Qa [0, 4, 5, 6, 16, 17] [5] (p0) ?_
  refine ck ((nth q (Int.toNat at_)).1 == (2 : Int)) (fun h5 => ?_) (fun h5 => ?_)
  ·
   have h5d := eq_of_beq h5
   refine Qf ?_
   refine ckt h5 ?_
   refine wT 6 0 (.own true 896) [(Qo ((nth q (Int.toNat at_)).1))] (fun hw6 hl7 => ?_)
   refine qu Qa [(6, .o 1600 [(Qo ((nth q (Int.toNat at_)).1)), (nth q (Int.toNat at_)).2.2.2.1])] [0, 5, 6] [] [5] (pa [(Qo ((nth q (Int.toNat at_)).1))] [(nth q (Int.toNat at_)).2.2.2.1] p0) ?_
   refine sn Qa [4] [] (pc 1 (Kj [(Qo ((nth q (Int.toNat at_)).1)), (nth q (Int.toNat at_)).2.2.2.1] ⟨#[32]⟩ (by first | omega | exact Nat.le_trans (J9 (m := 10) (n := 20) rfl (by assumption) (by omega)) (by decide) | (simp only [Zh, Z3, Zv, ByteArray.size_append]; omega))) p0) ?_
   refine Qe ?_
   exact ps [] (Xi h5 (rfl))
  have h5d := Yg h5
  refine tu Qa [(16, .i ((nth q (Int.toNat at_)).1)), (17, .b ((nth q (Int.toNat at_)).1 == (8 : Int)))] [] [] [] (p0) ?_
  refine jn [(17, .b (bif ((nth q (Int.toNat at_)).1 == (8 : Int)) then ((nth q (Int.toNat at_)).1 == (8 : Int)) else ((nth q (Int.toNat at_)).1 == (9 : Int))))] [17] [] [] ((nth q (Int.toNat at_)).1 == (8 : Int)) (fun h8 => ?_) (fun h8 => ?_) ?_
  ·
   have h8d := eq_of_beq h8
   refine ckt h8 ?_
   refine Qf ?_
   exact ⟨rfl, Qd (by rw [h8] <;> kernel_rfl)⟩
  ·
   have h8d := Yg h8
   refine ckf h8 ?_
   refine rn Qa [0, 4, 5, 6, 16, 17] [5] (p0) ?_
   exact ⟨rfl, Qd (by rw [h8] <;> kernel_rfl)⟩
  refine ck (bif ((nth q (Int.toNat at_)).1 == (8 : Int)) then ((nth q (Int.toNat at_)).1 == (8 : Int)) else ((nth q (Int.toNat at_)).1 == (9 : Int))) (fun h9 => ?_) (fun h9 => ?_)
  ·
   refine wT 6 0 (.own true 896) [(Qo ((nth q (Int.toNat at_)).1))] (fun hw10 hl11 => ?_)
   refine rn Qa [4, 6] [] (pa [(Qo ((nth q (Int.toNat at_)).1))] [(nth q (Int.toNat at_)).2.2.2.1] p0) ?_
   refine tn Qa [4] [] (pc 1 (Kj [(Qo ((nth q (Int.toNat at_)).1)), (nth q (Int.toNat at_)).2.2.2.1] ⟨#[32]⟩ (by first | omega | exact Nat.le_trans (J9 (m := 10) (n := 20) rfl (by assumption) (by omega)) (by decide) | (simp only [Zh, Z3, Zv, ByteArray.size_append]; omega))) p0) ?_
   refine Qe ?_
   exact ps [] (Qk h5 (Xi h9 (rfl)))
  refine Qc ?_
  refine sn Qa [0, 4, 5, 6, 16, 26] [5] (p0) ?_
  refine mz [(26, .b ((nth q (Int.toNat at_)).1 == (3 : Int)))] [17] [] [] ?_
  refine jn [(26, .b (bif ((nth q (Int.toNat at_)).1 == (3 : Int)) then ((nth q (Int.toNat at_)).1 == (3 : Int)) else ((nth q (Int.toNat at_)).1 == (4 : Int))))] [26] [] [] ((nth q (Int.toNat at_)).1 == (3 : Int)) (fun h12 => ?_) (fun h12 => ?_) ?_
  ·
   have h12d := eq_of_beq h12
   refine ckt h12 ?_
   refine Qf ?_
   exact ⟨rfl, Qd (by rw [h12] <;> kernel_rfl)⟩
  ·
   have h12d := Yg h12
   refine ckf h12 ?_
   refine rn Qa [0, 4, 5, 6, 16, 26] [5] (p0) ?_
   exact ⟨rfl, Qd (by rw [h12] <;> kernel_rfl)⟩
  refine ck (bif ((nth q (Int.toNat at_)).1 == (3 : Int)) then ((nth q (Int.toNat at_)).1 == (3 : Int)) else ((nth q (Int.toNat at_)).1 == (4 : Int))) (fun h13 => ?_) (fun h13 => ?_)
  ·
   have hk14 := HF ((nth q (Int.toNat at_)).2.2.2.2.1, (nth q (Int.toNat at_)).2.2.2.2.2.1, (nth q (Int.toNat at_)).2.2.2.2.2.2)
   refine wT 6 0 (.own true 896) [(Qo ((nth q (Int.toNat at_)).1))] (fun hw15 hl16 => ?_)
   refine rN Qa Yp [4, 6] [] (pc 5 (Dk ((nth q (Int.toNat at_)).2.2.2.2.1, (nth q (Int.toNat at_)).2.2.2.2.2.1, (nth q (Int.toNat at_)).2.2.2.2.2.2)) (pa [(Qo ((nth q (Int.toNat at_)).1))] [(nth q (Int.toNat at_)).2.2.2.1, (Xe ((nth q (Int.toNat at_)).2.2.2.2.1, (nth q (Int.toNat at_)).2.2.2.2.2.1, (nth q (Int.toNat at_)).2.2.2.2.2.2))] p0)) ?_
   refine tn Qa [4] [] (pc 1 (Kj [(Qo ((nth q (Int.toNat at_)).1)), (nth q (Int.toNat at_)).2.2.2.1, (Xe ((nth q (Int.toNat at_)).2.2.2.2.1, (nth q (Int.toNat at_)).2.2.2.2.2.1, (nth q (Int.toNat at_)).2.2.2.2.2.2))] ⟨#[32]⟩ (by first | omega | exact Nat.le_trans (J9 (m := 10) (n := 20) rfl (by assumption) (by omega)) (by decide) | (simp only [Zh, Z3, Zv, ByteArray.size_append]; omega))) p0) ?_
   refine Qe ?_
   exact ps [] (Qk h5 (Qk h9 (Xi h13 (rfl))))
  refine sn Qa [0, 4, 5, 6, 16, 37] [5] (p0) ?_
  refine ck ((nth q (Int.toNat at_)).1 == (5 : Int)) (fun h17 => ?_) (fun h17 => ?_)
  ·
   have h17k := EP hv ha hb h17; have h17z := HG n_ hv h17k.1 (by omega)
   have h17d := eq_of_beq h17
   refine wT 6 0 (.own true 896) [(Qo ((nth q (Int.toNat at_)).1))] (fun hw18 hl19 => ?_)
   refine qn Qa [4, 6] [] (pc 4 (ih q ((nth q (Int.toNat at_)).2.1) hv (by have hz := EP hv ha hb h17; omega) (by have hz := EP hv ha hb h17; omega) (by have hz := EP hv ha hb h17; omega)) (pa [(Qo ((nth q (Int.toNat at_)).1))] [(Xq n_ q ((nth q (Int.toNat at_)).2.1))] p0)) ?_
   refine tu Qa [(4, .s (Q6 ⟨#[32]⟩ [(Qo ((nth q (Int.toNat at_)).1)), (Xq n_ q ((nth q (Int.toNat at_)).2.1))]))] [0, 4, 5, 6, 16, 26] [] [5] (pc 1 (Kj [(Qo ((nth q (Int.toNat at_)).1)), (Xq n_ q ((nth q (Int.toNat at_)).2.1))] ⟨#[32]⟩ (by first | omega | exact Nat.le_trans (J9 (m := 10) (n := 20) rfl (by assumption) (by omega)) (by decide) | (simp only [Zh, Z3, Zv, ByteArray.size_append]; omega))) p0) ?_
   refine Qe ?_
   exact ps [] (Qk h5 (Qk h9 (Qk h13 (Xi h17 (rfl)))))
  have h17d := Yg h17
  refine Qc ?_
  refine tn Qa [0, 4, 5, 6, 16, 46] [5] (p0) ?_
  refine ck ((nth q (Int.toNat at_)).1 == (6 : Int)) (fun h20 => ?_) (fun h20 => ?_)
  ·
   have h20k := EQ hv ha hb h20; have h20z := HG n_ hv h20k.1 (by omega); have h20m := ER hv ha hb h20; have h20y := HG n_ hv h20m.1 (by omega)
   have h20d := eq_of_beq h20
   refine Qf ?_
   refine ckt h20 ?_
   refine wT 6 0 (.own true 896) [(Qo ((nth q (Int.toNat at_)).1))] (fun hw21 hl22 => ?_)
   refine qU Qa Yp [(6, .o 3776 [(Qo ((nth q (Int.toNat at_)).1)), (Xq n_ q ((nth q (Int.toNat at_)).2.1)), (Xq n_ q ((nth q (Int.toNat at_)).2.2.1))])] [0, 5, 6, 16, 26] [] [5] (pc 4 (ih q ((nth q (Int.toNat at_)).2.1) hv (by have hz := EQ hv ha hb h20; omega) (by have hz := EQ hv ha hb h20; omega) (by have hz := EQ hv ha hb h20; omega)) (pc 8 (ih q ((nth q (Int.toNat at_)).2.2.1) hv (by have hz := ER hv ha hb h20; omega) (by have hz := ER hv ha hb h20; omega) (by have hz := ER hv ha hb h20; omega)) (pa [(Qo ((nth q (Int.toNat at_)).1))] [(Xq n_ q ((nth q (Int.toNat at_)).2.1)), (Xq n_ q ((nth q (Int.toNat at_)).2.2.1))] p0))) ?_
   refine sn Qa [4] [] (pc 1 (Kj [(Qo ((nth q (Int.toNat at_)).1)), (Xq n_ q ((nth q (Int.toNat at_)).2.1)), (Xq n_ q ((nth q (Int.toNat at_)).2.2.1))] ⟨#[32]⟩ (by first | omega | exact Nat.le_trans (J9 (m := 10) (n := 20) rfl (by assumption) (by omega)) (by decide) | (simp only [Zh, Z3, Zv, ByteArray.size_append]; omega))) p0) ?_
   refine Qe ?_
   exact ps [] (Qk h5 (Qk h9 (Qk h13 (Qk h17 (Xi h20 (rfl))))))
  have h20d := Yg h20
  refine qu Qa [(46, .b ((nth q (Int.toNat at_)).1 == (7 : Int)))] [16, 26] [] [] (p0) ?_
  refine ck ((nth q (Int.toNat at_)).1 == (7 : Int)) (fun h23 => ?_) (fun h23 => ?_)
  ·
   have h23k := ID hv ha hb h23; have h23z := HG n_ hv h23k.1 (by omega); have h23m := IE hv ha hb h23; have h23y := HG n_ hv h23m.1 (by omega)
   have h23d := eq_of_beq h23
   refine wT 6 0 (.own true 896) [(Qo ((nth q (Int.toNat at_)).1))] (fun hw24 hl25 => ?_)
   refine rN Qa Yp [4, 6] [] (pc 4 (ih q ((nth q (Int.toNat at_)).2.1) hv (by have hz := ID hv ha hb h23; omega) (by have hz := ID hv ha hb h23; omega) (by have hz := ID hv ha hb h23; omega)) (pc 8 (ih q ((nth q (Int.toNat at_)).2.2.1) hv (by have hz := IE hv ha hb h23; omega) (by have hz := IE hv ha hb h23; omega) (by have hz := IE hv ha hb h23; omega)) (pa [(Qo ((nth q (Int.toNat at_)).1))] [(Xq n_ q ((nth q (Int.toNat at_)).2.1)), (Xq n_ q ((nth q (Int.toNat at_)).2.2.1))] p0))) ?_
   refine tn Qa [4] [] (pc 1 (Kj [(Qo ((nth q (Int.toNat at_)).1)), (Xq n_ q ((nth q (Int.toNat at_)).2.1)), (Xq n_ q ((nth q (Int.toNat at_)).2.2.1))] ⟨#[32]⟩ (by first | omega | exact Nat.le_trans (J9 (m := 10) (n := 20) rfl (by assumption) (by omega)) (by decide) | (simp only [Zh, Z3, Zv, ByteArray.size_append]; omega))) p0) ?_
   refine Qe ?_
   exact ps [] (Qk h5 (Qk h9 (Qk h13 (Qk h17 (Qk h20 (Xi h23 (rfl)))))))
  have h23d := Yg h23
  refine Qf ?_
  refine sn Qa [4] [] (pc 1 (Kj [(Qo ((nth q (Int.toNat at_)).1))] ⟨#[32]⟩ (by first | omega | exact Nat.le_trans (J9 (m := 10) (n := 20) rfl (by assumption) (by omega)) (by decide) | (simp only [Zh, Z3, Zv, ByteArray.size_append]; omega))) p0) ?_
  refine Qe ?_
  exact ps [] (Qk h5 (Qk h9 (Qk h13 (Qk h17 (Qk h20 (Qk h23 (rfl)))))))
def Y6 (n_ : Nat) (q : (List Qw)) (at_ : Int) : ByteArray := match n_ with
 | 0 => default
 | n_ + 1 => (bif ((nth q (Int.toNat at_)).1 == (2 : Int)) then (((Xk ((nth q (Int.toNat at_)).1)) ++ (⟨#[32]⟩ : ByteArray)) ++ ((nth q (Int.toNat at_)).2.2.2.1)) else (bif (bif ((nth q (Int.toNat at_)).1 == (8 : Int)) then ((nth q (Int.toNat at_)).1 == (8 : Int)) else ((nth q (Int.toNat at_)).1 == (9 : Int))) then (((Xk ((nth q (Int.toNat at_)).1)) ++ (⟨#[32]⟩ : ByteArray)) ++ ((nth q (Int.toNat at_)).2.2.2.1)) else (bif (bif ((nth q (Int.toNat at_)).1 == (3 : Int)) then ((nth q (Int.toNat at_)).1 == (3 : Int)) else ((nth q (Int.toNat at_)).1 == (4 : Int))) then (((((Xk ((nth q (Int.toNat at_)).1)) ++ (⟨#[32]⟩ : ByteArray)) ++ ((nth q (Int.toNat at_)).2.2.2.1)) ++ (⟨#[32]⟩ : ByteArray)) ++ (Yc ((nth q (Int.toNat at_)).2.2.2.2.1, (nth q (Int.toNat at_)).2.2.2.2.2.1, (nth q (Int.toNat at_)).2.2.2.2.2.2))) else (bif ((nth q (Int.toNat at_)).1 == (5 : Int)) then (((Xk ((nth q (Int.toNat at_)).1)) ++ (⟨#[32]⟩ : ByteArray)) ++ (Y6 n_ q ((nth q (Int.toNat at_)).2.1))) else (bif ((nth q (Int.toNat at_)).1 == (6 : Int)) then (((((Xk ((nth q (Int.toNat at_)).1)) ++ (⟨#[32]⟩ : ByteArray)) ++ (Y6 n_ q ((nth q (Int.toNat at_)).2.1))) ++ (⟨#[32]⟩ : ByteArray)) ++ (Y6 n_ q ((nth q (Int.toNat at_)).2.2.1))) else (bif ((nth q (Int.toNat at_)).1 == (7 : Int)) then (((((Xk ((nth q (Int.toNat at_)).1)) ++ (⟨#[32]⟩ : ByteArray)) ++ (Y6 n_ q ((nth q (Int.toNat at_)).2.1))) ++ (⟨#[32]⟩ : ByteArray)) ++ (Y6 n_ q ((nth q (Int.toNat at_)).2.2.1))) else (Xk ((nth q (Int.toNat at_)).1))))))))
theorem LN : ∀ (n : Nat) (q : List Qw) (k : Int), Y6 n q k = Xq n q k
 | 0, _, _ => rfl
 | n + 1, q, k => by
  unfold Y6 Xq
  simp only [Zh, Z3, Zv, BT, Qdg, LN n]
theorem KM (n : Nat) {q : List Qw} (hv : Qj q = true) {k : Int} (h0 : 0 ≤ k) (h1 : k < (q.length : Int)) : (Y6 n q k).size ≤ 10240 := by rw [LN]; exact HG n hv h0 h1
theorem YH : ∀ (n_ : Nat) (q : (List Qw)) (at_ : Int) (hv : Qj q = true) (ha : 0 ≤ at_) (hb : at_ < (q.length : Int)) (hn : at_ < ((n_ : Nat) : Int)), ACalls Tryz.prog 103 [.h q, .i at_] (.s (Y6 n_ q at_)) := by
 intro n_
 induction n_ with
 | zero => intro q at_ hv ha hb hn; exact (by omega : False).elim
 | succ n_ ih =>
  intro q at_ hv ha hb hn
  refine en Qa Tryz.func103 fun w0 F0 hG => ?_
  have hnm := R9 hv ha hb
  have hql := Ei hv
  have hq1 : ByteArray.size (⟨#[32]⟩ : ByteArray) = 1 := rfl
  refine sn Qa [0, 1, 4] [] (p0) ?_
  refine wT 0 0 .sh q (fun hw2 hl3 => ?_)
  have hx1 := ng q (Int.toNat at_)
  refine tn Qa [0, 4, 5] [5] (pg 2 at_ hx1 p0) ?_
  have hk4 := TB ((nth q (Int.toNat at_)).1)
  refine tu Qa [(4, .s ⟨#[]⟩), (5, .p 5 0), (6, .s (Xk ((nth q (Int.toNat at_)).1)))] [1] [(5, [.i ((nth q (Int.toNat at_)).1), .i ((nth q (Int.toNat at_)).2.1), .i ((nth q (Int.toNat at_)).2.2.1), .s ((nth q (Int.toNat at_)).2.2.2.1), .i ((nth q (Int.toNat at_)).2.2.2.2.1), .i ((nth q (Int.toNat at_)).2.2.2.2.2.1), .s ((nth q (Int.toNat at_)).2.2.2.2.2.2)])] [] (pc 2 (Fl ((nth q (Int.toNat at_)).1)) p0) ?_
  refine Qc ?_
  refine sn Qa [0, 4, 5, 6, 15] [5] (p0) ?_
  refine Qy ?_
  refine Qc ?_
  refine tn Qa [0, 4, 5, 6, 15, 16] [5] (p0) ?_
  refine ck ((nth q (Int.toNat at_)).1 == (2 : Int)) (fun h5 => ?_) (fun h5 => ?_)
  ·
   have h5d := eq_of_beq h5
   refine Qf ?_
   refine ckt h5 ?_
   refine tu Qa [(4, .s (((Xk ((nth q (Int.toNat at_)).1)) ++ (⟨#[32]⟩ : ByteArray)) ++ ((nth q (Int.toNat at_)).2.2.2.1)))] [0, 4, 5] [] [5] (px (Yk (n := (ByteArray.size (Xk ((nth q (Int.toNat at_)).1)) + ByteArray.size (⟨#[32]⟩ : ByteArray))) (by have hq0 : ByteArray.size (⟨#[32]⟩ : ByteArray) = 1 := rfl; unfold maxLen; first | omega | (simp only [ByteArray.size_append]; omega))) (px (Yk (n := (ByteArray.size ((Xk ((nth q (Int.toNat at_)).1)) ++ (⟨#[32]⟩ : ByteArray)) + ByteArray.size ((nth q (Int.toNat at_)).2.2.2.1))) (by have hq0 : ByteArray.size (⟨#[32]⟩ : ByteArray) = 1 := rfl; unfold maxLen; first | omega | (simp only [ByteArray.size_append]; omega))) p0)) ?_
   refine Qe ?_
   exact ps [] (Xi h5 (rfl))
  have h5d := Yg h5
  refine tu Qa [(15, .i ((nth q (Int.toNat at_)).1)), (16, .b ((nth q (Int.toNat at_)).1 == (8 : Int)))] [] [] [] (p0) ?_
  refine jn [(16, .b (bif ((nth q (Int.toNat at_)).1 == (8 : Int)) then ((nth q (Int.toNat at_)).1 == (8 : Int)) else ((nth q (Int.toNat at_)).1 == (9 : Int))))] [16] [] [] ((nth q (Int.toNat at_)).1 == (8 : Int)) (fun h6 => ?_) (fun h6 => ?_) ?_
  ·
   refine ckt h6 ?_
   refine Qf ?_
   exact ⟨rfl, Qd (by rw [h6] <;> kernel_rfl)⟩
  ·
   refine ckf h6 ?_
   refine rn Qa [0, 4, 5, 6, 15, 16] [5] (p0) ?_
   exact ⟨rfl, Qd (by rw [h6] <;> kernel_rfl)⟩
  refine ck (bif ((nth q (Int.toNat at_)).1 == (8 : Int)) then ((nth q (Int.toNat at_)).1 == (8 : Int)) else ((nth q (Int.toNat at_)).1 == (9 : Int))) (fun h7 => ?_) (fun h7 => ?_)
  ·
   refine sn Qa [4, 6] [] (px (Yk (n := (ByteArray.size (Xk ((nth q (Int.toNat at_)).1)) + ByteArray.size (⟨#[32]⟩ : ByteArray))) (by have hq0 : ByteArray.size (⟨#[32]⟩ : ByteArray) = 1 := rfl; unfold maxLen; first | omega | (simp only [ByteArray.size_append]; omega))) (px (Yk (n := (ByteArray.size ((Xk ((nth q (Int.toNat at_)).1)) ++ (⟨#[32]⟩ : ByteArray)) + ByteArray.size ((nth q (Int.toNat at_)).2.2.2.1))) (by have hq0 : ByteArray.size (⟨#[32]⟩ : ByteArray) = 1 := rfl; unfold maxLen; first | omega | (simp only [ByteArray.size_append]; omega))) p0)) ?_
   refine Qe ?_
   exact ps [] (Qk h5 (Xi h7 (rfl)))
  refine Qc ?_
  refine sn Qa [0, 4, 5, 6, 15, 25] [5] (p0) ?_
  refine mz [(25, .b ((nth q (Int.toNat at_)).1 == (3 : Int)))] [16] [] [] ?_
  refine jn [(25, .b (bif ((nth q (Int.toNat at_)).1 == (3 : Int)) then ((nth q (Int.toNat at_)).1 == (3 : Int)) else ((nth q (Int.toNat at_)).1 == (4 : Int))))] [25] [] [] ((nth q (Int.toNat at_)).1 == (3 : Int)) (fun h8 => ?_) (fun h8 => ?_) ?_
  ·
   refine ckt h8 ?_
   refine Qf ?_
   exact ⟨rfl, Qd (by rw [h8] <;> kernel_rfl)⟩
  ·
   refine ckf h8 ?_
   refine rn Qa [0, 4, 5, 6, 15, 25] [5] (p0) ?_
   exact ⟨rfl, Qd (by rw [h8] <;> kernel_rfl)⟩
  refine ck (bif ((nth q (Int.toNat at_)).1 == (3 : Int)) then ((nth q (Int.toNat at_)).1 == (3 : Int)) else ((nth q (Int.toNat at_)).1 == (4 : Int))) (fun h9 => ?_) (fun h9 => ?_)
  ·
   have hk10 := TA ((nth q (Int.toNat at_)).2.2.2.2.1, (nth q (Int.toNat at_)).2.2.2.2.2.1, (nth q (Int.toNat at_)).2.2.2.2.2.2)
   refine sN Qa Yp [4, 6] [] (px (Yk (n := (ByteArray.size (Xk ((nth q (Int.toNat at_)).1)) + ByteArray.size (⟨#[32]⟩ : ByteArray))) (by have hq0 : ByteArray.size (⟨#[32]⟩ : ByteArray) = 1 := rfl; unfold maxLen; first | omega | (simp only [ByteArray.size_append]; omega))) (px (Yk (n := (ByteArray.size ((Xk ((nth q (Int.toNat at_)).1)) ++ (⟨#[32]⟩ : ByteArray)) + ByteArray.size ((nth q (Int.toNat at_)).2.2.2.1))) (by have hq0 : ByteArray.size (⟨#[32]⟩ : ByteArray) = 1 := rfl; unfold maxLen; first | omega | (simp only [ByteArray.size_append]; omega))) (px (Yk (n := (ByteArray.size (((Xk ((nth q (Int.toNat at_)).1)) ++ (⟨#[32]⟩ : ByteArray)) ++ ((nth q (Int.toNat at_)).2.2.2.1)) + ByteArray.size (⟨#[32]⟩ : ByteArray))) (by have hq0 : ByteArray.size (⟨#[32]⟩ : ByteArray) = 1 := rfl; unfold maxLen; first | omega | (simp only [ByteArray.size_append]; omega))) (pc 8 (Us ((nth q (Int.toNat at_)).2.2.2.2.1, (nth q (Int.toNat at_)).2.2.2.2.2.1, (nth q (Int.toNat at_)).2.2.2.2.2.2)) (px (Yk (n := (ByteArray.size ((((Xk ((nth q (Int.toNat at_)).1)) ++ (⟨#[32]⟩ : ByteArray)) ++ ((nth q (Int.toNat at_)).2.2.2.1)) ++ (⟨#[32]⟩ : ByteArray)) + ByteArray.size (Yc ((nth q (Int.toNat at_)).2.2.2.2.1, (nth q (Int.toNat at_)).2.2.2.2.2.1, (nth q (Int.toNat at_)).2.2.2.2.2.2)))) (by have hq0 : ByteArray.size (⟨#[32]⟩ : ByteArray) = 1 := rfl; unfold maxLen; first | omega | (simp only [ByteArray.size_append]; omega))) p0))))) ?_
   refine Qe ?_
   exact ps [] (Qk h5 (Qk h7 (Xi h9 (rfl))))
  refine sn Qa [0, 4, 5, 6, 15, 38] [5] (p0) ?_
  refine ck ((nth q (Int.toNat at_)).1 == (5 : Int)) (fun h11 => ?_) (fun h11 => ?_)
  ·
   have h11k := EP hv ha hb h11; have h11z := KM n_ hv h11k.1 (by omega)
   have h11d := eq_of_beq h11
   refine tn Qa [4, 6] [] (px (Yk (n := (ByteArray.size (Xk ((nth q (Int.toNat at_)).1)) + ByteArray.size (⟨#[32]⟩ : ByteArray))) (by have hq0 : ByteArray.size (⟨#[32]⟩ : ByteArray) = 1 := rfl; unfold maxLen; first | omega | (simp only [ByteArray.size_append]; omega))) (pc 5 (ih q ((nth q (Int.toNat at_)).2.1) hv (by have hz := EP hv ha hb h11; omega) (by have hz := EP hv ha hb h11; omega) (by have hz := EP hv ha hb h11; omega)) (px (Yk (n := (ByteArray.size ((Xk ((nth q (Int.toNat at_)).1)) ++ (⟨#[32]⟩ : ByteArray)) + ByteArray.size (Y6 n_ q ((nth q (Int.toNat at_)).2.1)))) (by have hq0 : ByteArray.size (⟨#[32]⟩ : ByteArray) = 1 := rfl; unfold maxLen; first | omega | (simp only [ByteArray.size_append]; omega))) p0))) ?_
   refine Qe ?_
   exact ps [] (Qk h5 (Qk h7 (Qk h9 (Xi h11 (rfl)))))
  have h11d := Yg h11
  refine Qc ?_
  refine tn Qa [0, 4, 5, 6, 15, 47] [5] (p0) ?_
  refine ck ((nth q (Int.toNat at_)).1 == (6 : Int)) (fun h12 => ?_) (fun h12 => ?_)
  ·
   have h12k := EQ hv ha hb h12; have h12z := KM n_ hv h12k.1 (by omega); have h12m := ER hv ha hb h12; have h12y := KM n_ hv h12m.1 (by omega)
   have h12d := eq_of_beq h12
   refine Qf ?_
   refine ckt h12 ?_
   refine tU Qa Yp [(4, .s (((((Xk ((nth q (Int.toNat at_)).1)) ++ (⟨#[32]⟩ : ByteArray)) ++ (Y6 n_ q ((nth q (Int.toNat at_)).2.1))) ++ (⟨#[32]⟩ : ByteArray)) ++ (Y6 n_ q ((nth q (Int.toNat at_)).2.2.1))))] [0, 4, 5, 15, 25] [] [5] (px (Yk (n := (ByteArray.size (Xk ((nth q (Int.toNat at_)).1)) + ByteArray.size (⟨#[32]⟩ : ByteArray))) (by have hq0 : ByteArray.size (⟨#[32]⟩ : ByteArray) = 1 := rfl; unfold maxLen; first | omega | (simp only [ByteArray.size_append]; omega))) (pc 5 (ih q ((nth q (Int.toNat at_)).2.1) hv (by have hz := EQ hv ha hb h12; omega) (by have hz := EQ hv ha hb h12; omega) (by have hz := EQ hv ha hb h12; omega)) (px (Yk (n := (ByteArray.size ((Xk ((nth q (Int.toNat at_)).1)) ++ (⟨#[32]⟩ : ByteArray)) + ByteArray.size (Y6 n_ q ((nth q (Int.toNat at_)).2.1)))) (by have hq0 : ByteArray.size (⟨#[32]⟩ : ByteArray) = 1 := rfl; unfold maxLen; first | omega | (simp only [ByteArray.size_append]; omega))) (px (Yk (n := (ByteArray.size (((Xk ((nth q (Int.toNat at_)).1)) ++ (⟨#[32]⟩ : ByteArray)) ++ (Y6 n_ q ((nth q (Int.toNat at_)).2.1))) + ByteArray.size (⟨#[32]⟩ : ByteArray))) (by have hq0 : ByteArray.size (⟨#[32]⟩ : ByteArray) = 1 := rfl; unfold maxLen; first | omega | (simp only [ByteArray.size_append]; omega))) (pc 11 (ih q ((nth q (Int.toNat at_)).2.2.1) hv (by have hz := ER hv ha hb h12; omega) (by have hz := ER hv ha hb h12; omega) (by have hz := ER hv ha hb h12; omega)) (px (Yk (n := (ByteArray.size ((((Xk ((nth q (Int.toNat at_)).1)) ++ (⟨#[32]⟩ : ByteArray)) ++ (Y6 n_ q ((nth q (Int.toNat at_)).2.1))) ++ (⟨#[32]⟩ : ByteArray)) + ByteArray.size (Y6 n_ q ((nth q (Int.toNat at_)).2.2.1)))) (by have hq0 : ByteArray.size (⟨#[32]⟩ : ByteArray) = 1 := rfl; unfold maxLen; first | omega | (simp only [ByteArray.size_append]; omega))) p0)))))) ?_
   refine Qe ?_
   exact ps [] (Qk h5 (Qk h7 (Qk h9 (Qk h11 (Xi h12 (rfl))))))
  have h12d := Yg h12
  refine qu Qa [(47, .b ((nth q (Int.toNat at_)).1 == (7 : Int)))] [15, 25] [] [] (p0) ?_
  refine ck ((nth q (Int.toNat at_)).1 == (7 : Int)) (fun h13 => ?_) (fun h13 => ?_)
  ·
   have h13k := ID hv ha hb h13; have h13z := KM n_ hv h13k.1 (by omega); have h13m := IE hv ha hb h13; have h13y := KM n_ hv h13m.1 (by omega)
   have h13d := eq_of_beq h13
   refine sN Qa Yp [4, 6] [] (px (Yk (n := (ByteArray.size (Xk ((nth q (Int.toNat at_)).1)) + ByteArray.size (⟨#[32]⟩ : ByteArray))) (by have hq0 : ByteArray.size (⟨#[32]⟩ : ByteArray) = 1 := rfl; unfold maxLen; first | omega | (simp only [ByteArray.size_append]; omega))) (pc 5 (ih q ((nth q (Int.toNat at_)).2.1) hv (by have hz := ID hv ha hb h13; omega) (by have hz := ID hv ha hb h13; omega) (by have hz := ID hv ha hb h13; omega)) (px (Yk (n := (ByteArray.size ((Xk ((nth q (Int.toNat at_)).1)) ++ (⟨#[32]⟩ : ByteArray)) + ByteArray.size (Y6 n_ q ((nth q (Int.toNat at_)).2.1)))) (by have hq0 : ByteArray.size (⟨#[32]⟩ : ByteArray) = 1 := rfl; unfold maxLen; first | omega | (simp only [ByteArray.size_append]; omega))) (px (Yk (n := (ByteArray.size (((Xk ((nth q (Int.toNat at_)).1)) ++ (⟨#[32]⟩ : ByteArray)) ++ (Y6 n_ q ((nth q (Int.toNat at_)).2.1))) + ByteArray.size (⟨#[32]⟩ : ByteArray))) (by have hq0 : ByteArray.size (⟨#[32]⟩ : ByteArray) = 1 := rfl; unfold maxLen; first | omega | (simp only [ByteArray.size_append]; omega))) (pc 11 (ih q ((nth q (Int.toNat at_)).2.2.1) hv (by have hz := IE hv ha hb h13; omega) (by have hz := IE hv ha hb h13; omega) (by have hz := IE hv ha hb h13; omega)) (px (Yk (n := (ByteArray.size ((((Xk ((nth q (Int.toNat at_)).1)) ++ (⟨#[32]⟩ : ByteArray)) ++ (Y6 n_ q ((nth q (Int.toNat at_)).2.1))) ++ (⟨#[32]⟩ : ByteArray)) + ByteArray.size (Y6 n_ q ((nth q (Int.toNat at_)).2.2.1)))) (by have hq0 : ByteArray.size (⟨#[32]⟩ : ByteArray) = 1 := rfl; unfold maxLen; first | omega | (simp only [ByteArray.size_append]; omega))) p0)))))) ?_
   refine Qe ?_
   exact ps [] (Qk h5 (Qk h7 (Qk h9 (Qk h11 (Qk h12 (Xi h13 (rfl)))))))
  refine Qf ?_
  refine sn Qa [4] [] (p0) ?_
  refine Qe ?_
  exact ps [] (Qk h5 (Qk h7 (Qk h9 (Qk h11 (Qk h12 (Qk h13 (rfl)))))))
def Qx (q : (List Qw)) : ByteArray := (bif (!(Qj q)) then ⟨#[]⟩ else (Xq (List.length q) q ((q.length : Int) - 1)))
theorem Nk (q : (List Qw)) : ACalls Tryz.prog 79 [.h q] (.s (Qx q)) := by
 refine en Qa Tryz.func79 fun w0 F0 hG => ?_
 refine sn Qa [0, 2] [] (p0) ?_
 refine Qc ?_
 refine tn Qa [0, 2, 5] [] (pc 1 (K7 q) p0) ?_
 refine ck (!(Qj q)) (fun h1 => ?_) (fun h1 => ?_)
 ·
  refine tu Qa [(2, .s ⟨#[]⟩)] [] [] [] (p0) ?_
  refine Qe ?_
  exact ps [] (Xi h1 (rfl))
 have h1n : (Qj q) = true := Jb h1
 refine Qf ?_
 refine wT 0 0 .sh q (fun hw2 hl3 => ?_)
 refine tu Qa [(2, .s (Xq (List.length q) q ((q.length : Int) - 1)))] [0] [] [] (pl 2 q (pe 3 (Jr (IntWalk.i64_in ((q.length : Int) - 1) (by omega))) (pc 4 (Sa (List.length q) q ((q.length : Int) - 1) h1n (by have := Ei h1n; omega) (by omega) (by omega)) p0))) ?_
 refine Qe ?_
 exact ps [] (Qk h1 (rfl))
def Xw (q : (List Qw)) : ByteArray := (bif (!(Yj q)) then ⟨#[]⟩ else (Y6 (List.length q) q ((q.length : Int) - 1)))
theorem Dn (q : (List Qw)) : ACalls Tryz.prog 65 [.h q] (.s (Xw q)) := by
 refine en Qa Tryz.func65 fun w0 F0 hG => ?_
 refine sn Qa [0, 2] [] (p0) ?_
 refine Qc ?_
 refine tn Qa [0, 2, 5] [] (pc 1 (K8 q) p0) ?_
 refine ck (!(Yj q)) (fun h1 => ?_) (fun h1 => ?_)
 ·
  refine tu Qa [(2, .s ⟨#[]⟩)] [] [] [] (p0) ?_
  refine Qe ?_
  exact ps [] (Xi h1 (rfl))
 have h1n : (Yj q) = true := Jb h1
 refine Qf ?_
 refine wT 0 0 .sh q (fun hw2 hl3 => ?_)
 refine tu Qa [(2, .s (Y6 (List.length q) q ((q.length : Int) - 1)))] [0] [] [] (pl 2 q (pe 3 (Jr (IntWalk.i64_in ((q.length : Int) - 1) (by omega))) (pc 4 (YH (List.length q) q ((q.length : Int) - 1) (Ia h1n) (by have := Ei (Ia h1n); omega) (by omega) (by omega)) p0))) ?_
 refine Qe ?_
 exact ps [] (Qk h1 (rfl))
theorem Qbm (q : List Qw) : (Qx q).size ≤ 10240 := by
  unfold Qx
  cases hv : Qj q with
  | false => exact Nat.zero_le _
  | true =>
    have := Ei hv
    exact HG _ hv (by omega) (by omega)
theorem Qbn (q : List Qw) : Xw q = Qx q := by
  unfold Xw Qx
  rw [← PI, LN]
theorem TC (q : List Qw) : (Xw q).size ≤ 10240 := by rw [Qbn]; exact Qbm q
theorem LO {x : Qp} (h : Qi x = true) : Zm x.2 = true := by
  unfold Qi Kc at h
  simp only [Bool.and_eq_true] at h
  have h2 := h.2
  unfold Vv at h2
  cases hv : Zm x.2 with
  | true => rfl
  | false => rw [hv] at h2; cases h2
theorem Ci {x : Qp} (h : Qi x = true) : x.1.1.length ≤ 5 ∧ x.1.2.1.length ≤ 12 ∧ x.2.length ≤ 5 := by
  have h1 := C3 h
  exact ⟨h1.1, h1.2.1, Lo (LO h)⟩
theorem Pe {x : Qp} (h : Qi x = true) {d : Zw} (hd : d ∈ x.2) : d.1.size ≤ 6 ∧ Q0 d.1 = true ∧ Qj d.2 = true := by
  have h1 := LO h
  unfold Zm at h1
  obtain ⟨_, h2⟩ := Lu (fun _ _ _ => rfl) h1
  obtain ⟨i, hi⟩ := List.getElem?_of_mem hd
  have h3 := bo (h2 i d hi)
  have h4 := bn h3.1
  have h5 : Qj d.2 = true := by
    have h6 := h3.2
    cases hc : decide (((i : Nat) : Int) > (0 : Int)) with
    | true => rw [hc] at h6; exact bn (bo h6).2
    | false => rw [hc] at h6; exact bn h6
  exact ⟨(Cv h4).2, h4, h5⟩
/-! ### a file's words -/
theorem LP {α β : Type} {R : Type} {f : Nat → α → List β → Rd R (List β) (List β)} {e : Nat → List β → List β} {g : α → List β} (hf : ∀ k a s, f k a s = .next (s ++ g a)) (he : ∀ k s, e k s = s) : ∀ (l : List α) (k : Nat) (s : List β), Yt f e l k s = .brk (s ++ l.flatMap g)
  | [], k, s => by simp [Yt, he]
  | a :: l, k, s => by
    simp only [Yt, hf]
    rw [LP hf he l, List.flatMap_cons, List.append_assoc]
def U4 (f : Zl) : List ByteArray := [(⟨#[102, 105, 108, 101]⟩ : ByteArray), (Qq f.1), (Qq f.2.1), (bif f.2.2.1 then ⟨#[115]⟩ else ⟨#[111]⟩), (Qq f.2.2.2.1)] ++ f.2.2.2.2.flatMap fun a => [a.1, Xe a.2]
theorem Pf (f : Zl) : Ym f = Q6 ⟨#[32]⟩ (U4 f) := by
  unfold Ym
  rw [LP (f := Al) (e := Am) (g := fun a => [a.1, Xe a.2]) (fun _ _ _ => rfl) (fun _ _ => rfl)]
  rfl
theorem BV : ∀ (l : List Kz) (k : Nat) (p : List ByteArray), p ≠ [] → Yt Ut Uu l k (Q6 ⟨#[32]⟩ p) = .brk (Q6 ⟨#[32]⟩ (p ++ l.flatMap fun a => [a.1, Xe a.2]))
  | [], k, p, _ => by simp [Yt, Uu]
  | a :: l, k, p, hp => by
    simp only [Yt, Ut]
    rw [show (((Q6 ⟨#[32]⟩ p ++ (⟨#[32]⟩ : ByteArray)) ++ a.1) ++ (⟨#[32]⟩ : ByteArray)) ++ (Yc a.2) = Q6 ⟨#[32]⟩ (p ++ [a.1, Xe a.2]) by
      rw [Ak _ hp (fun e => by cases e), Z3, Qdg]; simp only [ByteArray.append_assoc]]
    rw [BV l (k + 1) _ (by simp), List.flatMap_cons, List.append_assoc]
theorem RC (f : Zl) : Zr f = Q6 ⟨#[32]⟩ (U4 f) := by
  have h0 : ((bif f.2.2.1 then (((((⟨#[102, 105, 108, 101, 32]⟩ : ByteArray) ++ (Qq f.1)) ++ (⟨#[32]⟩ : ByteArray)) ++ (Qq f.2.1)) ++ (⟨#[32, 115, 32]⟩ : ByteArray)) else (((((⟨#[102, 105, 108, 101, 32]⟩ : ByteArray) ++ (Qq f.1)) ++ (⟨#[32]⟩ : ByteArray)) ++ (Qq f.2.1)) ++ (⟨#[32, 111, 32]⟩ : ByteArray))) ++ (Qq f.2.2.2.1)) = Q6 ⟨#[32]⟩ [(⟨#[102, 105, 108, 101]⟩ : ByteArray), (Qq f.1), (Qq f.2.1), (bif f.2.2.1 then ⟨#[115]⟩ else ⟨#[111]⟩), (Qq f.2.2.2.1)] := by
    rw [Jo, Jo, Zv]
    rw [show (⟨#[102, 105, 108, 101, 32]⟩ : ByteArray) = (⟨#[102, 105, 108, 101]⟩ : ByteArray) ++ (⟨#[32]⟩ : ByteArray) from rfl, show (⟨#[32, 115, 32]⟩ : ByteArray) = (⟨#[32]⟩ : ByteArray) ++ (⟨#[115]⟩ : ByteArray) ++ (⟨#[32]⟩ : ByteArray) from rfl, show (⟨#[32, 111, 32]⟩ : ByteArray) = (⟨#[32]⟩ : ByteArray) ++ (⟨#[111]⟩ : ByteArray) ++ (⟨#[32]⟩ : ByteArray) from rfl]
    cases f.2.2.1 <;> simp only [cond_true, cond_false, ByteArray.append_assoc]
  unfold Zr
  rw [h0, BV _ _ _ (fun e => by cases e)]
  rfl
theorem RD (f : Zl) : Zr f = Ym f := by rw [RC, Pf]
theorem KN {f : Zl} (h : FBd f) : (U4 f).length ≤ 15 ∧ ∀ y, y ∈ U4 f → y.size ≤ 10 := by
  have hl := h.2.2.2.1
  have hlen : ∀ l : List Kz, (l.flatMap fun a => [a.1, Xe a.2]).length = 2 * l.length := fun l => by
    induction l with
    | nil => rfl
    | cons a l ih => rw [List.flatMap_cons, List.length_append, ih]; simp only [List.length_cons, List.length_nil]; omega
  refine ⟨by unfold U4; rw [List.length_append, hlen]; simp only [List.length_cons, List.length_nil]; omega, fun y hy => ?_⟩
  rcases List.mem_append.1 hy with hy | hy
  · exact BU h y hy
  obtain ⟨a, ha, hy⟩ := List.mem_flatMap.1 hy
  simp only [List.mem_cons, List.mem_nil_iff, or_false] at hy
  rcases hy with rfl | rfl
  · exact LJ h ha
  exact HF _
theorem Qbo {f : Zl} (h : FBd f) : (Ym f).size ≤ 200 := by
  rw [Pf]
  have h1 := KN h
  exact Nat.le_trans (J9 (m := 10) (n := 15) rfl h1.2 h1.1) (by decide)
open GoE (enc wide)
def W2 (_ : Nat) (a0 : X6) (s0 : (List ByteArray)) : Rd ((List ByteArray)) ((List ByteArray)) ((List ByteArray)) := (.next (s0 ++ [(X0 a0)]))
def W3 (_ : Nat) (s0 : (List ByteArray)) : (List ByteArray) := s0
def W4 (_ : Nat) (a1 : Zl) (s1 : (List ByteArray)) : Rd ((List ByteArray)) ((List ByteArray)) ((List ByteArray)) := (.next (s1 ++ [(Ym a1)]))
def W5 (_ : Nat) (s1 : (List ByteArray)) : (List ByteArray) := s1
def W6 (_ : Nat) (a2 : Zw) (s2 : (List ByteArray)) : Rd ((List ByteArray)) ((List ByteArray)) ((List ByteArray)) := (.next (s2 ++ [((((⟨#[100, 105, 114, 32]⟩ : ByteArray) ++ a2.1) ++ (⟨#[32]⟩ : ByteArray)) ++ (Qx a2.2))]))
def W7 (_ : Nat) (s2 : (List ByteArray)) : (List ByteArray) := s2
def Qt (x : Qp) : (List ByteArray) := (bif (!(Qi x)) then [] else (Out.on (Yt W2 W3 x.1.1 0 []) (fun y0 => (Out.on (Yt W4 W5 x.1.2.1 0 (y0 ++ [((⟨#[110, 101, 120, 116, 32]⟩ : ByteArray) ++ (Qq x.1.2.2))])) (fun y1 => (Out.on (Yt W6 W7 x.2 0 y1) (fun y2 => y2)))))))
theorem Vq (x : Qp) : ACalls Tryz.prog 46 [.a [.h x.1.1, .h x.1.2.1, .i x.1.2.2, .h x.2]] (.o 0 (Qt x)) := by
 refine en Qa Tryz.func46 fun w0 F0 hG => ?_
 refine sn Qa [1, 2] [1] (p0) ?_
 refine Qc ?_
 refine tn Qa [1, 2, 12] [1] (pc 1 (J3 x) p0) ?_
 refine ck (!(Qi x)) (fun h1 => ?_) (fun h1 => ?_)
 ·
  have h1n : (Qi x) = false := Vz h1
  refine tu Qa [(1, .p 1 0), (2, .e 0)] [0] [(1, [.h x.1.1, .h x.1.2.1, .i x.1.2.2, .h x.2])] [] (p0) ?_
  refine opn [(false, 2, 0, true, 384000, 1)] ?_
  refine Qe ?_
  exact po0 [] (Xi h1 (rfl))
 have h1n : (Qi x) = true := Jb h1
 have h1nn := (C3 h1n).2.2.1; have h1nl := Ci h1n
 refine Qf ?_
 refine tu Qa [(1, .p 1 0), (2, .e 0), (3, .one (.slc (.own true 832) 1 []))] [0] [(1, [.h x.1.1, .h x.1.2.1, .i x.1.2.2, .h x.2])] [] (p0) ?_
 refine Qc ?_
 refine sn Qa [1, 2, 3, 16, 17, 18] [1] (pl 3 x.1.1 p0) ?_
 refine mz [(16, .h x.1.1), (17, .i (x.1.1.length : Int)), (18, .i 0)] [] [] [] ?_
 refine wT 16 0 .sh x.1.1 (fun hw2 hl3 => ?_)
 refine GV W2 W3 x.1.1 [] (fun k0 s0 => [(3, .o 147202 s0), (18, .i ((k0 : Nat) : Int))]) [3, 18] (fun y0 => [(3, .o 147352 y0)]) [3, 16, 17, 18] (fun k0 s0 => List.length s0 ≤ k0 ∧ List.length s0 ≤ k0) (fun y0 => List.length y0 ≤ 5) (Ys [(832, 147202)] (by kernel_rfl)) ⟨(by simp), (by simp)⟩ (fun k0 s0 hk0 hI0 => ?_) (fun k0 s0 hk0 hI0 => ?_) (fun y0 hD0 => ?_)
 ·
  have hA0_0 := hI0.2.1
  have hA0_1 := hI0.2.2
  obtain ⟨a0, hx0⟩ := Yi (l := x.1.1) (i := k0) hk0
  refine su Qa [(19, .b true)] [] [] [] (pe 0 (Qz (decide_eq_true (p := ((k0 : Nat) : Int) < (x.1.1.length : Int)) (by omega))) p0) ?_
  refine Qc ?_
  refine ckT ?_
  refine Qf ?_
  refine Qc ?_
  refine Qy ?_
  refine sn Qa [1, 2, 3, 5, 16, 17, 18] [1, 5] (pn 0 hx0 p0) ?_
  refine wT 3 0 (.own true 147202) s0 (fun hw4 hl5 => ?_)
  refine qu Qa [(3, .one (.slc (.own true 1664) 1 ((eL s0) ++ [[.s (X0 a0)]])))] [3, 19] [] [] (pc 2 (M9 a0) (pa s0 [(X0 a0)] p0)) ?_
  refine eqn [(3, .o 1664 (s0 ++ [(X0 a0)]))] [3] [] [] (by rw [show ((eL s0) ++ [[.s (X0 a0)]]) = (eL (s0 ++ [(X0 a0)])) from Je (rfl) (rfl)]; first | done | kernel_rfl) ?_
  refine rn Qa [1, 2, 3, 16, 17, 18] [1] (pe 0 (Jr (Q1 k0 (by omega))) p0) ?_
  exact Exists.intro (s0 ++ [(X0 a0)]) (And.intro (Ys [(1664, 147202)] (by kernel_rfl)) ⟨Xl hx0 (rfl) hI0.1, by first | omega | (simp; omega) | simp, (by (simp; omega))⟩)
 ·
  have hA0_0 := hI0.2.1
  have hA0_1 := hI0.2.2
  refine su Qa [(19, .b false)] [] [] [] (pe 0 (Qz (decide_eq_false (p := ((k0 : Nat) : Int) < (x.1.1.length : Int)) (by omega))) p0) ?_
  refine Qc ?_
  refine ckF ?_
  refine Xs ?_
  exact Exists.intro s0 (And.intro (Ys [(147202, 147352)] (by kernel_rfl)) ⟨Yn hk0 (rfl) hI0.1, by first | omega | (simp only [List.length_set]; omega)⟩)
 have hD0_0 := hD0.2
 have hk6 := Zk (n := x.1.2.2) (by omega)
 refine wT 3 0 (.own true 147352) y0 (fun hw7 hl8 => ?_)
 refine su Qa [(3, .one (.slc (.own true 2240) 1 ((eL y0) ++ [[.s ((⟨#[110, 101, 120, 116, 32]⟩ : ByteArray) ++ (Qq x.1.2.2))]])))] [3] [] [] (pc 4 (Kv x.1.2.2 (by omega)) (px (Yk (n := (ByteArray.size (⟨#[110, 101, 120, 116, 32]⟩ : ByteArray) + ByteArray.size (Qq x.1.2.2))) (by have hq0 : ByteArray.size (⟨#[110, 101, 120, 116, 32]⟩ : ByteArray) = 5 := rfl; unfold maxLen; first | omega | (simp only [ByteArray.size_append]; omega))) (pa y0 [((⟨#[110, 101, 120, 116, 32]⟩ : ByteArray) ++ (Qq x.1.2.2))] p0))) ?_
 refine eqn [(3, .o 2240 (y0 ++ [((⟨#[110, 101, 120, 116, 32]⟩ : ByteArray) ++ (Qq x.1.2.2))]))] [3] [] [] (by rw [show ((eL y0) ++ [[.s ((⟨#[110, 101, 120, 116, 32]⟩ : ByteArray) ++ (Qq x.1.2.2))]]) = (eL (y0 ++ [((⟨#[110, 101, 120, 116, 32]⟩ : ByteArray) ++ (Qq x.1.2.2))])) from Je (rfl) (rfl)]; first | done | kernel_rfl) ?_
 refine Qc ?_
 refine sn Qa [1, 2, 3, 38, 39, 40] [1] (pl 3 x.1.2.1 p0) ?_
 refine mz [(38, .h x.1.2.1), (39, .i (x.1.2.1.length : Int)), (40, .i 0)] [] [] [] ?_
 refine wT 38 0 .sh x.1.2.1 (fun hw9 hl10 => ?_)
 refine GV W4 W5 x.1.2.1 (y0 ++ [((⟨#[110, 101, 120, 116, 32]⟩ : ByteArray) ++ (Qq x.1.2.2))]) (fun k1 s1 => [(3, .o 147202 s1), (40, .i ((k1 : Nat) : Int))]) [3, 40] (fun y1 => [(3, .o 147352 y1)]) [3, 38, 39, 40] (fun k1 s1 => List.length s1 ≤ (y0 ++ [((⟨#[110, 101, 120, 116, 32]⟩ : ByteArray) ++ (Qq x.1.2.2))]).length + k1 ∧ List.length s1 ≤ 6 + k1) (fun y1 => List.length y1 ≤ 18) (Ys [(2240, 147202)] (by kernel_rfl)) ⟨(by simp), (by (simp; omega))⟩ (fun k1 s1 hk1 hI1 => ?_) (fun k1 s1 hk1 hI1 => ?_) (fun y1 hD1 => ?_)
 ·
  have hA1_0 := hI1.2.1
  have hA1_1 := hI1.2.2
  obtain ⟨a1, hx1⟩ := Yi (l := x.1.2.1) (i := k1) hk1
  have hfb := (C3 ‹Qi x = true›).2.2.2 _ (List.mem_of_getElem? hx1)
  have hA9 := hA1_0; simp only [List.length_append, List.length_cons, List.length_nil] at hA9
  refine su Qa [(41, .b true)] [] [] [] (pe 0 (Qz (decide_eq_true (p := ((k1 : Nat) : Int) < (x.1.2.1.length : Int)) (by omega))) p0) ?_
  refine Qc ?_
  refine ckT ?_
  refine Qf ?_
  refine Qc ?_
  refine Qy ?_
  refine sn Qa [1, 2, 3, 7, 38, 39, 40] [1, 7] (pn 0 hx1 p0) ?_
  refine wT 3 0 (.own true 147202) s1 (fun hw11 hl12 => ?_)
  refine qu Qa [(3, .one (.slc (.own true 3072) 1 ((eL s1) ++ [[.s (Ym a1)]])))] [3, 41] [] [] (pc 2 (Oa a1 (by assumption)) (pa s1 [(Ym a1)] p0)) ?_
  refine eqn [(3, .o 3072 (s1 ++ [(Ym a1)]))] [3] [] [] (by rw [show ((eL s1) ++ [[.s (Ym a1)]]) = (eL (s1 ++ [(Ym a1)])) from Je (rfl) (rfl)]; first | done | kernel_rfl) ?_
  refine rn Qa [1, 2, 3, 38, 39, 40] [1] (pe 0 (Jr (Q1 k1 (by omega))) p0) ?_
  exact Exists.intro (s1 ++ [(Ym a1)]) (And.intro (Ys [(3072, 147202)] (by kernel_rfl)) ⟨Xl hx1 (rfl) hI1.1, by first | omega | (simp; omega) | simp, (by (simp; omega))⟩)
 ·
  have hA1_0 := hI1.2.1
  have hA1_1 := hI1.2.2
  refine su Qa [(41, .b false)] [] [] [] (pe 0 (Qz (decide_eq_false (p := ((k1 : Nat) : Int) < (x.1.2.1.length : Int)) (by omega))) p0) ?_
  refine Qc ?_
  refine ckF ?_
  refine Xs ?_
  exact Exists.intro s1 (And.intro (Ys [(147202, 147352)] (by kernel_rfl)) ⟨Yn hk1 (rfl) hI1.1, by first | omega | (simp only [List.length_set]; omega)⟩)
 have hD1_0 := hD1.2
 refine Qc ?_
 refine sn Qa [2, 3, 51, 52, 53] [] (pl 2 x.2 p0) ?_
 refine mz [(51, .h x.2), (52, .i (x.2.length : Int)), (53, .i 0)] [1] [] [1] ?_
 refine wT 51 0 .sh x.2 (fun hw13 hl14 => ?_)
 refine Qa3 W6 W7 x.2 y1 (fun k2 s2 => [(3, .o 147201 s2), (53, .i ((k2 : Nat) : Int))]) [3, 53] (fun y2 => [(3, .o 147351 y2)]) [3, 51, 52, 53] (fun k2 s2 => List.length s2 ≤ y1.length + k2 ∧ List.length s2 ≤ 18 + k2) (Ys [(147352, 147201)] (by kernel_rfl)) ⟨(by simp), (by (simp; omega))⟩ (fun k2 s2 hk2 hI2 => ?_) (fun k2 s2 hk2 hI2 => ?_) (fun y2 hD2 => ?_)
 ·
  have hA2_0 := hI2.2.1
  have hA2_1 := hI2.2.2
  obtain ⟨a2, hx2⟩ := Yi (l := x.2) (i := k2) hk2
  have hdn := (Pe ‹Qi x = true› (List.mem_of_getElem? hx2)).1
  refine su Qa [(54, .b true)] [] [] [] (pe 0 (Qz (decide_eq_true (p := ((k2 : Nat) : Int) < (x.2.length : Int)) (by omega))) p0) ?_
  refine Qc ?_
  refine ckT ?_
  refine Qf ?_
  refine Qc ?_
  refine Qy ?_
  refine sn Qa [2, 3, 9, 51, 52, 53] [9] (pn 0 hx2 p0) ?_
  have hk15 := Qbm a2.2
  refine wT 3 0 (.own true 147201) s2 (fun hw16 hl17 => ?_)
  refine qU Qa Yp [(3, .one (.slc (.own true 4288) 1 ((eL s2) ++ [[.s ((((⟨#[100, 105, 114, 32]⟩ : ByteArray) ++ a2.1) ++ (⟨#[32]⟩ : ByteArray)) ++ (Qx a2.2))]])))] [3, 54] [] [] (px (Yk (n := (ByteArray.size (⟨#[100, 105, 114, 32]⟩ : ByteArray) + ByteArray.size a2.1)) (by have hq0 : ByteArray.size (⟨#[100, 105, 114, 32]⟩ : ByteArray) = 4 := rfl; unfold maxLen; first | omega | (simp only [ByteArray.size_append]; omega))) (px (Yk (n := (ByteArray.size ((⟨#[100, 105, 114, 32]⟩ : ByteArray) ++ a2.1) + ByteArray.size (⟨#[32]⟩ : ByteArray))) (by have hq0 : ByteArray.size (⟨#[100, 105, 114, 32]⟩ : ByteArray) = 4 := rfl; have hq1 : ByteArray.size (⟨#[32]⟩ : ByteArray) = 1 := rfl; unfold maxLen; first | omega | (simp only [ByteArray.size_append]; omega))) (pc 7 (Nk a2.2) (px (Yk (n := (ByteArray.size (((⟨#[100, 105, 114, 32]⟩ : ByteArray) ++ a2.1) ++ (⟨#[32]⟩ : ByteArray)) + ByteArray.size (Qx a2.2))) (by have hq0 : ByteArray.size (⟨#[100, 105, 114, 32]⟩ : ByteArray) = 4 := rfl; have hq1 : ByteArray.size (⟨#[32]⟩ : ByteArray) = 1 := rfl; unfold maxLen; first | omega | (simp only [ByteArray.size_append]; omega))) (pa s2 [((((⟨#[100, 105, 114, 32]⟩ : ByteArray) ++ a2.1) ++ (⟨#[32]⟩ : ByteArray)) ++ (Qx a2.2))] p0))))) ?_
  refine eqn [(3, .o 4288 (s2 ++ [((((⟨#[100, 105, 114, 32]⟩ : ByteArray) ++ a2.1) ++ (⟨#[32]⟩ : ByteArray)) ++ (Qx a2.2))]))] [3] [] [] (by rw [show ((eL s2) ++ [[.s ((((⟨#[100, 105, 114, 32]⟩ : ByteArray) ++ a2.1) ++ (⟨#[32]⟩ : ByteArray)) ++ (Qx a2.2))]]) = (eL (s2 ++ [((((⟨#[100, 105, 114, 32]⟩ : ByteArray) ++ a2.1) ++ (⟨#[32]⟩ : ByteArray)) ++ (Qx a2.2))])) from Je (rfl) (rfl)]; first | done | kernel_rfl) ?_
  refine rn Qa [2, 3, 51, 52, 53] [] (pe 0 (Jr (Q1 k2 (by omega))) p0) ?_
  exact Exists.intro (s2 ++ [((((⟨#[100, 105, 114, 32]⟩ : ByteArray) ++ a2.1) ++ (⟨#[32]⟩ : ByteArray)) ++ (Qx a2.2))]) (And.intro (Ys [(4288, 147201)] (by kernel_rfl)) ⟨Xl hx2 (rfl) hI2.1, by first | omega | (simp; omega) | simp, (by (simp; omega))⟩)
 ·
  have hA2_0 := hI2.2.1
  have hA2_1 := hI2.2.2
  refine su Qa [(54, .b false)] [] [] [] (pe 0 (Qz (decide_eq_false (p := ((k2 : Nat) : Int) < (x.2.length : Int)) (by omega))) p0) ?_
  refine Qc ?_
  refine ckF ?_
  refine Xs ?_
  exact Exists.intro _ (And.intro (Ys [(147201, 147351)] (by kernel_rfl)) (Yn hk2 (rfl) hI2.1))
 refine sn Qa [2] [] (p0) ?_
 refine Qe ?_
 exact po0 [] (Qk h1 (V4 hD0.1 (V4 hD1.1 (V4 hD2 (rfl)))))
def W8 (_ : Nat) (a0 : X6) (s0 : (List ByteArray)) : Rd ((List ByteArray)) ((List ByteArray)) ((List ByteArray)) := (.next (s0 ++ [(Zo a0)]))
def W9 (_ : Nat) (s0 : (List ByteArray)) : (List ByteArray) := s0
def Ua (_ : Nat) (a1 : Zl) (s1 : (List ByteArray)) : Rd ((List ByteArray)) ((List ByteArray)) ((List ByteArray)) := (.next (s1 ++ [(Zr a1)]))
def Ub (_ : Nat) (s1 : (List ByteArray)) : (List ByteArray) := s1
def Uc (_ : Nat) (a2 : Zw) (s2 : (List ByteArray)) : Rd ((List ByteArray)) ((List ByteArray)) ((List ByteArray)) := (.next (s2 ++ [((((⟨#[100, 105, 114, 32]⟩ : ByteArray) ++ a2.1) ++ (⟨#[32]⟩ : ByteArray)) ++ (Xw a2.2))]))
def Ud (_ : Nat) (s2 : (List ByteArray)) : (List ByteArray) := s2
def Xh (x : Qp) : (List ByteArray) := (bif (!(Q4 x)) then [] else (Out.on (Yt W8 W9 x.1.1 0 []) (fun y0 => (Out.on (Yt Ua Ub x.1.2.1 0 (y0 ++ [((⟨#[110, 101, 120, 116, 32]⟩ : ByteArray) ++ (Qq x.1.2.2))])) (fun y1 => (Out.on (Yt Uc Ud x.2 0 y1) (fun y2 => y2)))))))
theorem Vr (x : Qp) : ACalls Tryz.prog 37 [.a [.h x.1.1, .h x.1.2.1, .i x.1.2.2, .h x.2]] (.o 0 (Xh x)) := by
 refine en Qa Tryz.func37 fun w0 F0 hG => ?_
 refine sn Qa [1, 2] [1] (p0) ?_
 refine tn Qa [1, 2, 3] [1] (p0) ?_
 refine Qc ?_
 refine tu Qa [(1, .p 1 0), (2, .e 0), (3, .one (.slc (.own true 448) 1 [])), (10, .b (!(Q4 x)))] [0] [(1, [.h x.1.1, .h x.1.2.1, .i x.1.2.2, .h x.2])] [] (pc 1 (J4 x) p0) ?_
 refine ck (!(Q4 x)) (fun h1 => ?_) (fun h1 => ?_)
 ·
  have h1n : (Q4 x) = false := Vz h1
  refine sn Qa [1, 2, 3] [1] (p0) ?_
  refine Qe ?_
  exact po0 [] (Xi h1 (rfl))
 have h1n : (Q4 x) = true := Jb h1
 have h1nn := (YE h1n).2.2.1; have h1nl := Ci ((Bq x).symm.trans h1n)
 refine Qf ?_
 refine Qc ?_
 refine sn Qa [1, 2, 3, 4] [1] (p0) ?_
 refine mz [(4, .i 0)] [10] [] [] ?_
 refine wB 1 0 .sh x.1.1 (fun hw2 hl3 => ?_)
 refine GV W8 W9 x.1.1 [] (fun k0 s0 => [(3, .o 147202 s0), (4, .i ((k0 : Nat) : Int))]) [3, 4] (fun y0 => [(3, .o 147352 y0)]) [3, 4] (fun k0 s0 => List.length s0 ≤ k0 ∧ List.length s0 ≤ k0) (fun y0 => List.length y0 ≤ 5) (Ys [(448, 147202)] (by kernel_rfl)) ⟨(by simp), (by simp)⟩ (fun k0 s0 hk0 hI0 => ?_) (fun k0 s0 hk0 hI0 => ?_) (fun y0 hD0 => ?_)
 ·
  have hA0_0 := hI0.2.1
  have hA0_1 := hI0.2.2
  obtain ⟨a0, hx0⟩ := Yi (l := x.1.1) (i := k0) hk0
  refine Qc ?_
  refine sn Qa [1, 2, 3, 4, 17] [1] (pl 4 x.1.1 (pe 5 (Qz (decide_eq_true (p := ((k0 : Nat) : Int) < (x.1.1.length : Int)) (by omega))) p0)) ?_
  refine ckT ?_
  refine Qf ?_
  refine Qc ?_
  refine Qy ?_
  refine wT 3 0 (.own true 147202) s0 (fun hw4 hl5 => ?_)
  refine qu Qa [(3, .one (.slc (.own true 1856) 1 ((eL s0) ++ [[.s (Zo a0)]])))] [3] [] [] (pn 5 hx0 (pc 7 (Na a0) (pa s0 [(Zo a0)] p0))) ?_
  refine eqn [(3, .o 1856 (s0 ++ [(Zo a0)]))] [3] [] [] (by rw [show ((eL s0) ++ [[.s (Zo a0)]]) = (eL (s0 ++ [(Zo a0)])) from Je (rfl) (rfl)]; first | done | kernel_rfl) ?_
  refine rn Qa [1, 2, 3, 4] [1] (pe 1 (Jr (Q1 k0 (by omega))) p0) ?_
  exact Exists.intro (s0 ++ [(Zo a0)]) (And.intro (Ys [(1856, 147202)] (by kernel_rfl)) ⟨Xl hx0 (rfl) hI0.1, by first | omega | (simp; omega) | simp, (by (simp; omega))⟩)
 ·
  have hA0_0 := hI0.2.1
  have hA0_1 := hI0.2.2
  refine Qc ?_
  refine sn Qa [1, 2, 3, 4, 17] [1] (pl 4 x.1.1 (pe 5 (Qz (decide_eq_false (p := ((k0 : Nat) : Int) < (x.1.1.length : Int)) (by omega))) p0)) ?_
  refine ckF ?_
  refine Xs ?_
  exact Exists.intro s0 (And.intro (Ys [(147202, 147352)] (by kernel_rfl)) ⟨Yn hk0 (rfl) hI0.1, by first | omega | (simp only [List.length_set]; omega)⟩)
 have hD0_0 := hD0.2
 have hk6 := Zk (n := x.1.2.2) (by omega)
 refine wT 3 0 (.own true 147352) y0 (fun hw7 hl8 => ?_)
 refine su Qa [(3, .one (.slc (.own true 2368) 1 ((eL y0) ++ [[.s ((⟨#[110, 101, 120, 116, 32]⟩ : ByteArray) ++ (Qq x.1.2.2))]])))] [3] [] [] (pc 4 (J0 x.1.2.2 (by omega)) (px (Yk (n := (ByteArray.size (⟨#[110, 101, 120, 116, 32]⟩ : ByteArray) + ByteArray.size (Qq x.1.2.2))) (by have hq0 : ByteArray.size (⟨#[110, 101, 120, 116, 32]⟩ : ByteArray) = 5 := rfl; unfold maxLen; first | omega | (simp only [ByteArray.size_append]; omega))) (pa y0 [((⟨#[110, 101, 120, 116, 32]⟩ : ByteArray) ++ (Qq x.1.2.2))] p0))) ?_
 refine eqn [(3, .o 2368 (y0 ++ [((⟨#[110, 101, 120, 116, 32]⟩ : ByteArray) ++ (Qq x.1.2.2))]))] [3] [] [] (by rw [show ((eL y0) ++ [[.s ((⟨#[110, 101, 120, 116, 32]⟩ : ByteArray) ++ (Qq x.1.2.2))]]) = (eL (y0 ++ [((⟨#[110, 101, 120, 116, 32]⟩ : ByteArray) ++ (Qq x.1.2.2))])) from Je (rfl) (rfl)]; first | done | kernel_rfl) ?_
 refine Qc ?_
 refine sn Qa [1, 2, 3, 5] [1] (p0) ?_
 refine mz [(5, .i 0)] [] [] [] ?_
 refine wB 1 1 .sh x.1.2.1 (fun hw9 hl10 => ?_)
 refine GV Ua Ub x.1.2.1 (y0 ++ [((⟨#[110, 101, 120, 116, 32]⟩ : ByteArray) ++ (Qq x.1.2.2))]) (fun k1 s1 => [(3, .o 147202 s1), (5, .i ((k1 : Nat) : Int))]) [3, 5] (fun y1 => [(3, .o 147352 y1)]) [3, 5] (fun k1 s1 => List.length s1 ≤ (y0 ++ [((⟨#[110, 101, 120, 116, 32]⟩ : ByteArray) ++ (Qq x.1.2.2))]).length + k1 ∧ List.length s1 ≤ 6 + k1) (fun y1 => List.length y1 ≤ 18) (Ys [(2368, 147202)] (by kernel_rfl)) ⟨(by simp), (by (simp; omega))⟩ (fun k1 s1 hk1 hI1 => ?_) (fun k1 s1 hk1 hI1 => ?_) (fun y1 hD1 => ?_)
 ·
  have hA1_0 := hI1.2.1
  have hA1_1 := hI1.2.2
  obtain ⟨a1, hx1⟩ := Yi (l := x.1.2.1) (i := k1) hk1
  have hfb := (C3 ((Bq x).symm.trans ‹Q4 x = true›)).2.2.2 _ (List.mem_of_getElem? hx1)
  have hA9 := hA1_0; simp only [List.length_append, List.length_cons, List.length_nil] at hA9
  refine Qc ?_
  refine sn Qa [1, 2, 3, 5, 43] [1] (pl 4 x.1.2.1 (pe 5 (Qz (decide_eq_true (p := ((k1 : Nat) : Int) < (x.1.2.1.length : Int)) (by omega))) p0)) ?_
  refine ckT ?_
  refine Qf ?_
  refine Qc ?_
  refine Qy ?_
  refine wT 3 0 (.own true 147202) s1 (fun hw11 hl12 => ?_)
  refine qu Qa [(3, .one (.slc (.own true 3520) 1 ((eL s1) ++ [[.s (Zr a1)]])))] [3] [] [] (pn 5 hx1 (pc 7 (Oc a1 (by assumption)) (pa s1 [(Zr a1)] p0))) ?_
  refine eqn [(3, .o 3520 (s1 ++ [(Zr a1)]))] [3] [] [] (by rw [show ((eL s1) ++ [[.s (Zr a1)]]) = (eL (s1 ++ [(Zr a1)])) from Je (rfl) (rfl)]; first | done | kernel_rfl) ?_
  refine rn Qa [1, 2, 3, 5] [1] (pe 1 (Jr (Q1 k1 (by omega))) p0) ?_
  exact Exists.intro (s1 ++ [(Zr a1)]) (And.intro (Ys [(3520, 147202)] (by kernel_rfl)) ⟨Xl hx1 (rfl) hI1.1, by first | omega | (simp; omega) | simp, (by (simp; omega))⟩)
 ·
  have hA1_0 := hI1.2.1
  have hA1_1 := hI1.2.2
  refine Qc ?_
  refine sn Qa [1, 2, 3, 5, 43] [1] (pl 4 x.1.2.1 (pe 5 (Qz (decide_eq_false (p := ((k1 : Nat) : Int) < (x.1.2.1.length : Int)) (by omega))) p0)) ?_
  refine ckF ?_
  refine Xs ?_
  exact Exists.intro s1 (And.intro (Ys [(147202, 147352)] (by kernel_rfl)) ⟨Yn hk1 (rfl) hI1.1, by first | omega | (simp only [List.length_set]; omega)⟩)
 have hD1_0 := hD1.2
 refine Qc ?_
 refine sn Qa [1, 2, 3, 6] [1] (p0) ?_
 refine mz [(6, .i 0)] [] [] [] ?_
 refine wB 1 3 .sh x.2 (fun hw13 hl14 => ?_)
 refine GW Uc Ud x.2 y1 (fun k2 s2 => [(3, .o 147202 s2), (6, .i ((k2 : Nat) : Int))]) [3, 6] (fun _ _ => []) [] (fun y2 => [(3, .o 147352 y2)]) [1, 3, 6] (fun _ => []) [1] (fun k2 s2 => List.length s2 ≤ y1.length + k2 ∧ List.length s2 ≤ 18 + k2) (Ys [(147352, 147202)] (by kernel_rfl)) ⟨(by simp), (by (simp; omega))⟩ (fun k2 s2 hk2 hI2 => ?_) (fun k2 s2 hk2 hI2 => ?_) (fun y2 hD2 => ?_)
 ·
  have hA2_0 := hI2.2.1
  have hA2_1 := hI2.2.2
  obtain ⟨a2, hx2⟩ := Yi (l := x.2) (i := k2) hk2
  have hdn := (Pe ((Bq x).symm.trans ‹Q4 x = true›) (List.mem_of_getElem? hx2)).1
  refine Qc ?_
  refine sn Qa [1, 2, 3, 6, 60] [1] (pl 3 x.2 (pe 4 (Qz (decide_eq_true (p := ((k2 : Nat) : Int) < (x.2.length : Int)) (by omega))) p0)) ?_
  refine ckT ?_
  refine Qf ?_
  refine Qc ?_
  refine Qy ?_
  have hk15 := TC a2.2
  refine wT 3 0 (.own true 147202) s2 (fun hw16 hl17 => ?_)
  refine qU Qa Yp [(3, .one (.slc (.own true 5184) 1 ((eL s2) ++ [[.s ((((⟨#[100, 105, 114, 32]⟩ : ByteArray) ++ a2.1) ++ (⟨#[32]⟩ : ByteArray)) ++ (Xw a2.2))]])))] [3] [] [] (pn 4 hx2 (px (Yk (n := (ByteArray.size (⟨#[100, 105, 114, 32]⟩ : ByteArray) + ByteArray.size a2.1)) (by have hq0 : ByteArray.size (⟨#[100, 105, 114, 32]⟩ : ByteArray) = 4 := rfl; unfold maxLen; first | omega | (simp only [ByteArray.size_append]; omega))) (px (Yk (n := (ByteArray.size ((⟨#[100, 105, 114, 32]⟩ : ByteArray) ++ a2.1) + ByteArray.size (⟨#[32]⟩ : ByteArray))) (by have hq0 : ByteArray.size (⟨#[100, 105, 114, 32]⟩ : ByteArray) = 4 := rfl; have hq1 : ByteArray.size (⟨#[32]⟩ : ByteArray) = 1 := rfl; unfold maxLen; first | omega | (simp only [ByteArray.size_append]; omega))) (pn 12 hx2 (pc 15 (Dn a2.2) (px (Yk (n := (ByteArray.size (((⟨#[100, 105, 114, 32]⟩ : ByteArray) ++ a2.1) ++ (⟨#[32]⟩ : ByteArray)) + ByteArray.size (Xw a2.2))) (by have hq0 : ByteArray.size (⟨#[100, 105, 114, 32]⟩ : ByteArray) = 4 := rfl; have hq1 : ByteArray.size (⟨#[32]⟩ : ByteArray) = 1 := rfl; unfold maxLen; first | omega | (simp only [ByteArray.size_append]; omega))) (pa s2 [((((⟨#[100, 105, 114, 32]⟩ : ByteArray) ++ a2.1) ++ (⟨#[32]⟩ : ByteArray)) ++ (Xw a2.2))] p0))))))) ?_
  refine eqn [(3, .o 5184 (s2 ++ [((((⟨#[100, 105, 114, 32]⟩ : ByteArray) ++ a2.1) ++ (⟨#[32]⟩ : ByteArray)) ++ (Xw a2.2))]))] [3] [] [] (by rw [show ((eL s2) ++ [[.s ((((⟨#[100, 105, 114, 32]⟩ : ByteArray) ++ a2.1) ++ (⟨#[32]⟩ : ByteArray)) ++ (Xw a2.2))]]) = (eL (s2 ++ [((((⟨#[100, 105, 114, 32]⟩ : ByteArray) ++ a2.1) ++ (⟨#[32]⟩ : ByteArray)) ++ (Xw a2.2))])) from Je (rfl) (rfl)]; first | done | kernel_rfl) ?_
  refine rn Qa [1, 2, 3, 6] [1] (pe 1 (Jr (Q1 k2 (by omega))) p0) ?_
  exact Exists.intro (s2 ++ [((((⟨#[100, 105, 114, 32]⟩ : ByteArray) ++ a2.1) ++ (⟨#[32]⟩ : ByteArray)) ++ (Xw a2.2))]) (And.intro (Ys [(5184, 147202)] (by kernel_rfl)) ⟨Xl hx2 (rfl) hI2.1, by first | omega | (simp; omega) | simp, (by (simp; omega))⟩)
 ·
  have hA2_0 := hI2.2.1
  have hA2_1 := hI2.2.2
  refine Qc ?_
  refine sn Qa [1, 2, 3, 6, 60] [1] (pl 3 x.2 (pe 4 (Qz (decide_eq_false (p := ((k2 : Nat) : Int) < (x.2.length : Int)) (by omega))) p0)) ?_
  refine ckF ?_
  refine Xs ?_
  exact Exists.intro _ (And.intro (Ys [(147202, 147352)] (by kernel_rfl)) (Yn hk2 (rfl) hI2.1))
 refine sn Qa [2] [] (p0) ?_
 refine Qe ?_
 exact po0 [] (Qk h1 (V4 hD0.1 (V4 hD1.1 (V4 hD2 (rfl)))))
def Kw (d : Zw) : ByteArray := (((⟨#[100, 105, 114, 32]⟩ : ByteArray) ++ d.1) ++ (⟨#[32]⟩ : ByteArray)) ++ (Qx d.2)
theorem Sb (x : Qp) : Qt x = bif !(Qi x) then [] else ((x.1.1.map X0 ++ [((⟨#[110, 101, 120, 116, 32]⟩ : ByteArray) ++ (Qq x.1.2.2))]) ++ x.1.2.1.map Ym) ++ x.2.map Kw := by
  unfold Qt
  cases Qi x with
  | false => rfl
  | true =>
    simp only [Bool.not_true, cond_false]
    rw [Ht (f := W2) (e := W3) (g := X0) (fun _ _ _ => rfl)]
    simp only [Out.on]
    rw [Ht (f := W4) (e := W5) (g := Ym) (fun _ _ _ => rfl)]
    simp only [Out.on]
    rw [Ht (f := W6) (e := W7) (g := Kw) (fun _ _ _ => rfl)]
    rfl
theorem enc_eq (x : Qp) : Xh x = Qt x := by
  rw [Sb]
  unfold Xh
  rw [Bq]
  cases Qi x with
  | false => rfl
  | true =>
    simp only [Bool.not_true, cond_false]
    rw [Ht (f := W8) (e := W9) (g := Zo) (fun _ _ _ => rfl)]
    simp only [Out.on]
    rw [Ht (f := Ua) (e := Ub) (g := Zr) (fun _ _ _ => rfl)]
    simp only [Out.on]
    rw [Ht (f := Uc) (e := Ud) (g := fun d => (((⟨#[100, 105, 114, 32]⟩ : ByteArray) ++ d.1) ++ (⟨#[32]⟩ : ByteArray)) ++ (Xw d.2)) (fun _ _ _ => rfl)]
    rw [show Zo = X0 from funext LC, show Zr = Ym from funext RD, show (fun d : Zw => (((⟨#[100, 105, 114, 32]⟩ : ByteArray) ++ d.1) ++ (⟨#[32]⟩ : ByteArray)) ++ (Xw d.2)) = Kw from funext fun d => by rw [Qbn]; rfl]
    rfl
theorem LQ (x : Qp) : (Qt x).length ≤ 23 ∧ ∀ y, y ∈ Qt x → y.size ≤ 10300 := by
  rw [Sb]
  cases hv : Qi x with
  | false => exact ⟨Nat.zero_le _, fun y hy => by cases hy⟩
  | true =>
    have h1 := Ci hv
    have h2 := C3 hv
    simp only [Bool.not_true, cond_false]
    refine ⟨by simp only [List.length_append, List.length_map, List.length_cons, List.length_nil]; omega, fun y hy => ?_⟩
    rcases List.mem_append.1 hy with hy | hy
    · rcases List.mem_append.1 hy with hy | hy
      · rcases List.mem_append.1 hy with hy | hy
        · obtain ⟨f, _, rfl⟩ := List.mem_map.1 hy
          have := UZ f; omega
        rw [List.mem_singleton.1 hy, ByteArray.size_append]
        have h3 := Zk (n := x.1.2.2) (by omega)
        have e1 : (⟨#[110, 101, 120, 116, 32]⟩ : ByteArray).size = 5 := rfl
        omega
      obtain ⟨f, hf, rfl⟩ := List.mem_map.1 hy
      have := Qbo (h2.2.2.2 f hf); omega
    obtain ⟨d, hd, rfl⟩ := List.mem_map.1 hy
    have h3 := (Pe hv hd).1
    have h4 := Qbm d.2
    have e1 : (⟨#[100, 105, 114, 32]⟩ : ByteArray).size = 4 := rfl
    have e2 : (⟨#[32]⟩ : ByteArray).size = 1 := rfl
    unfold Kw
    simp only [ByteArray.size_append]
    omega
theorem Qbp (x : Qp) : (Xh x).length ≤ 23 ∧ ∀ y, y ∈ Xh x → y.size ≤ 10300 := by rw [enc_eq]; exact LQ x
theorem BW {R S T : Type} {f : S → Rd R S T} (hf : ∀ s r, f s ≠ .ret r) : ∀ (n : Nat) (s : S) (o : Out R T), whl f n s = some o → ∃ t, o = .brk t
  | 0, s, o, h => by cases h
  | n + 1, s, o, h => by
    simp only [whl] at h
    cases hs : f s with
    | next s' => rw [hs] at h; exact BW hf n s' o h
    | brk t => rw [hs] at h; exact ⟨t, (Option.some.inj h).symm⟩
    | ret r => exact absurd hs (hf s r)
/-! ### words for operations -/
theorem Qdj (op : Int) : 1 ≤ (Qo op).size := by
  cases h : Q9 op 1 9 with
  | false => unfold Qo; rw [h]; exact Nat.le_refl 1
  | true => rcases Pd h with rfl | rfl | rfl | rfl | rfl | rfl | rfl | rfl | rfl <;> decide
def Fn (p : Nat → Bool) : Nat → Nat → Int → Int
  | 0, _, s => s
  | n + 1, k, s => Fn p n (k + 1) (bif p k then ((k + 1 : Nat) : Int) else s)
theorem Fo {R : Type} {f : Nat → Int → Rd R Int Int} {e : Nat → Int → Int} {p : Nat → Bool} (hf : ∀ k s, f k s = bif p k then .next ((k + 1 : Nat) : Int) else .next s) (he : ∀ k s, e k s = s) : ∀ (n k : Nat) (s : Int), Jn f e n k s = .brk (Fn p n k s)
  | 0, k, s => by simp only [Jn, he]; rfl
  | n + 1, k, s => by
    simp only [Jn, hf]
    cases hp : p k with
    | true => simp only [cond_true]; rw [Fo hf he n]; simp only [Fn, hp, cond_true]
    | false => simp only [cond_false]; rw [Fo hf he n]; simp only [Fn, hp, cond_false]
def Gu (w : ByteArray) : Int := Fn (fun k => (Qo ((k + 1 : Nat) : Int)).toList == w.toList) 9 0 0
theorem HH (p : Nat → Bool) : ∀ (n k : Nat) (s : Int), 0 ≤ s → s ≤ k → 0 ≤ Fn p n k s ∧ Fn p n k s ≤ k + n
  | 0, k, s, h0, h1 => ⟨h0, by unfold Fn; omega⟩
  | n + 1, k, s, h0, h1 => by
    unfold Fn
    cases hp : p k with
    | true => have := HH p n (k + 1) ((k + 1 : Nat) : Int) (by omega) (by omega); simp only [cond_true]; omega
    | false => have := HH p n (k + 1) s h0 (by omega); simp only [cond_false]; omega
theorem Qbq (w : ByteArray) : 0 ≤ Gu w ∧ Gu w ≤ 9 := by
  have := HH (fun k => (Qo ((k + 1 : Nat) : Int)).toList == w.toList) 9 0 0 (by omega) (by omega)
  unfold Gu; omega
theorem YI : Gu ⟨#[]⟩ = 0 := by kernel_rfl
theorem Qer {s : ByteArray} (h : s.size = 0) : s = ⟨#[]⟩ := by
  apply ByteArray.ext
  exact Array.eq_empty_of_size_eq_zero h
theorem LR {w : ByteArray} (h : Gu w ≠ 0) : 1 ≤ w.size := by
  refine Classical.byContradiction fun hn => h ?_
  rw [Qer (s := w) (by omega)]
  exact YI
open GoE (enc wide)
def Vx (_ : Nat) (a0 : ByteArray) (s0 : ByteArray) : Rd (ByteArray) (ByteArray) (ByteArray) := (.next (s0 ++ (a0 ++ (⟨#[10]⟩ : ByteArray))))
def Uv (_ : Nat) (s0 : ByteArray) : ByteArray := s0
def Kn (version : Int) (x : Qp) : ByteArray := (bif ((!(Qi x)) || (!(Q9 version 1 1000000000))) then ⟨#[]⟩ else (Out.on (Yt Vx Uv (Qt x) 0 ((Qq version) ++ (⟨#[10]⟩ : ByteArray))) (fun y0 => ((y0 ++ (Qq (J5 y0))) ++ (⟨#[46]⟩ : ByteArray)))))
theorem Od (version : Int) (x : Qp) : ACalls Tryz.prog 112 [.i version, .a [.h x.1.1, .h x.1.2.1, .i x.1.2.2, .h x.2]] (.s (Kn version x)) := by
 refine en Qa Tryz.func112 fun w0 F0 hG => ?_
 have hes := LQ x
 refine sn Qa [0, 3, 4] [3] (p0) ?_
 refine Qc ?_
 refine Qc ?_
 refine mz [(3, .p 3 0), (4, .s ⟨#[]⟩)] [1] [(3, [.h x.1.1, .h x.1.2.1, .i x.1.2.2, .h x.2])] [] ?_
 refine jn [(15, .b ((!(Qi x)) || (!(Q9 version 1 1000000000))))] [] [] [] (!(Qi x)) (fun h1 => ?_) (fun h1 => ?_) ?_
 ·
  have h1n : (Qi x) = false := Vz h1
  refine rn Qa [0, 3, 4, 15] [3] (pc 1 (cb h1n (J3 x)) (pe 2 (show .b (!false) = .b true from rfl) p0)) ?_
  exact ⟨rfl, Qd (by rw [h1] <;> kernel_rfl)⟩
 ·
  have h1n : (Qi x) = true := Jb h1
  have h1nn := (C3 h1n).2.2.1; have h1nl := Ci h1n
  refine rn Qa [0, 3, 4, 15] [3] (pc 1 (cb h1n (J3 x)) (pe 2 (show .b (!true) = .b false from rfl) (pc 5 (Zc version 1 1000000000) p0))) ?_
  exact ⟨rfl, Qd (by rw [h1] <;> kernel_rfl)⟩
 refine ck ((!(Qi x)) || (!(Q9 version 1 1000000000))) (fun h2 => ?_) (fun h2 => ?_)
 ·
  refine su Qa [] [15] [] [] (p0) ?_
  refine Qe ?_
  exact ps [] (Xi h2 (rfl))
 have h2l : ((!(Qi x))) = false := UE h2
 have h2ln : (Qi x) = true := Jb h2l
 have h2lnn := (C3 h2ln).2.2.1; have h2lnl := Ci h2ln
 have h2r : ((!(Q9 version 1 1000000000))) = false := UF h2
 have h2rn : (Q9 version 1 1000000000) = true := Jb h2r
 have h2rnw := Jv.1 h2rn
 refine Qf ?_
 have hk3 := Zk (n := version) (by omega)
 refine sn Qa [3, 4, 5] [3] (pc 1 (Kv version (by omega)) (px (Yk (n := (ByteArray.size (Qq version) + ByteArray.size (⟨#[10]⟩ : ByteArray))) (by have hq0 : ByteArray.size (⟨#[10]⟩ : ByteArray) = 1 := rfl; unfold maxLen; first | omega | (simp only [ByteArray.size_append]; omega))) p0)) ?_
 refine Qc ?_
 refine tn Qa [4, 5, 20, 21, 22] [] (pc 1 (Vq x) (pl 2 (Qt x) p0)) ?_
 refine mz [(5, .s ((Qq version) ++ (⟨#[10]⟩ : ByteArray))), (20, .o 1280 (Qt x)), (21, .i ((Qt x).length : Int)), (22, .i 0)] [0, 3, 15] [] [3] ?_
 refine wT 20 0 (.own true 1280) (Qt x) (fun hw4 hl5 => ?_)
 refine GV Vx Uv (Qt x) ((Qq version) ++ (⟨#[10]⟩ : ByteArray)) (fun k0 s0 => [(5, .s s0), (22, .i ((k0 : Nat) : Int))]) [5, 22] (fun y0 => [(5, .s y0)]) [5, 20, 21, 22] (fun k0 s0 => ByteArray.size s0 ≤ 40 + 10400 * k0) (fun y0 => ByteArray.size y0 ≤ 400000) wf0 (by have hq1 : ByteArray.size (⟨#[10]⟩ : ByteArray) = 1 := rfl; simp only [ByteArray.size_append]; omega) (fun k0 s0 hk0 hI0 => ?_) (fun k0 s0 hk0 hI0 => ?_) (fun y0 hD0 => ?_)
 ·
  have hA0_0 := hI0.2
  obtain ⟨a0, hx0⟩ := Yi (l := Qt x) (i := k0) hk0
  have hxs := hes.2 _ (List.mem_of_getElem? hx0)
  have hll := hes.1
  refine su Qa [(23, .b true)] [] [] [] (pe 0 (Qz (decide_eq_true (p := ((k0 : Nat) : Int) < ((Qt x).length : Int)) (by omega))) p0) ?_
  refine Qc ?_
  refine ckT ?_
  refine Qf ?_
  refine Qc ?_
  refine Qy ?_
  refine su Qa [(7, .s a0)] [23] [] [] (pN 0 hx0 p0) ?_
  refine rn Qa [4, 5, 20, 21, 22] [] (px (Yk (n := (ByteArray.size a0 + ByteArray.size (⟨#[10]⟩ : ByteArray))) (by have hq0 : ByteArray.size (⟨#[10]⟩ : ByteArray) = 1 := rfl; unfold maxLen; first | omega | (simp only [ByteArray.size_append]; omega))) (px (Yk (n := (ByteArray.size s0 + ByteArray.size (a0 ++ (⟨#[10]⟩ : ByteArray)))) (by have hq0 : ByteArray.size (⟨#[10]⟩ : ByteArray) = 1 := rfl; unfold maxLen; first | omega | (simp only [ByteArray.size_append]; omega))) p0)) ?_
  refine qn Qa [4, 5, 20, 21, 22] [] (pe 0 (Jr (Q1 k0 (by omega))) p0) ?_
  exact xw (s0 ++ (a0 ++ (⟨#[10]⟩ : ByteArray))) ⟨Xl hx0 (rfl) hI0.1, (by have hq1 : ByteArray.size (⟨#[10]⟩ : ByteArray) = 1 := rfl; simp only [ByteArray.size_append]; omega)⟩
 ·
  have hA0_0 := hI0.2
  refine su Qa [(23, .b false)] [] [] [] (pe 0 (Qz (decide_eq_false (p := ((k0 : Nat) : Int) < ((Qt x).length : Int)) (by omega))) p0) ?_
  refine Qc ?_
  refine ckF ?_
  refine Xs ?_
  exact xw s0 ⟨Yn hk0 (rfl) hI0.1, by first | omega | (simp only [List.length_set]; omega)⟩
 have hD0_0 := hD0.2
 have hk6 := BQ y0
 have hk7 := Zk (n := J5 y0) (by omega)
 refine sn Qa [4] [] (pc 2 (Sx y0) (pc 3 (Kv (J5 y0) (by omega)) (px (Yk (n := (ByteArray.size y0 + ByteArray.size (Qq (J5 y0)))) (by unfold maxLen; first | omega | (simp only [ByteArray.size_append]; omega))) (px (Yk (n := (ByteArray.size (y0 ++ (Qq (J5 y0))) + ByteArray.size (⟨#[46]⟩ : ByteArray))) (by have hq0 : ByteArray.size (⟨#[46]⟩ : ByteArray) = 1 := rfl; unfold maxLen; first | omega | (simp only [ByteArray.size_append]; omega))) p0)))) ?_
 refine Qe ?_
 exact ps [] (Qk h2 (V4 hD0.1 (rfl)))
def Uw (_ : Nat) (a0 : ByteArray) (s0 : ByteArray) : Rd (ByteArray) (ByteArray) (ByteArray) := (.next ((s0 ++ a0) ++ (⟨#[10]⟩ : ByteArray)))
def An (_ : Nat) (s0 : ByteArray) : ByteArray := s0
def Wk (version : Int) (x : Qp) : ByteArray := (bif ((!(Q4 x)) || (!(Xf version 1 1000000000))) then ⟨#[]⟩ else (Out.on (Yt Uw An (Xh x) 0 ((Qq version) ++ (⟨#[10]⟩ : ByteArray))) (fun y0 => ((y0 ++ (Qq (Km y0))) ++ (⟨#[46]⟩ : ByteArray)))))
theorem Oe (version : Int) (x : Qp) : ACalls Tryz.prog 96 [.i version, .a [.h x.1.1, .h x.1.2.1, .i x.1.2.2, .h x.2]] (.s (Wk version x)) := by
 refine en Qa Tryz.func96 fun w0 F0 hG => ?_
 have hes := Qbp x
 refine sn Qa [0, 3, 4] [3] (p0) ?_
 refine Qc ?_
 refine Qc ?_
 refine mz [(3, .p 3 0), (4, .s ⟨#[]⟩)] [1] [(3, [.h x.1.1, .h x.1.2.1, .i x.1.2.2, .h x.2])] [] ?_
 refine jn [(15, .b ((!(Q4 x)) || (!(Xf version 1 1000000000))))] [] [] [] (!(Q4 x)) (fun h1 => ?_) (fun h1 => ?_) ?_
 ·
  have h1n : (Q4 x) = false := Vz h1
  refine rn Qa [0, 3, 4, 15] [3] (pc 1 (cb h1n (J4 x)) (pe 2 (show .b (!false) = .b true from rfl) p0)) ?_
  exact ⟨rfl, Qd (by rw [h1] <;> kernel_rfl)⟩
 ·
  have h1n : (Q4 x) = true := Jb h1
  have h1nn := (YE h1n).2.2.1; have h1nl := Ci ((Bq x).symm.trans h1n)
  refine rn Qa [0, 3, 4, 15] [3] (pc 1 (cb h1n (J4 x)) (pe 2 (show .b (!true) = .b false from rfl) (pc 5 (Y5 version 1 1000000000) p0))) ?_
  exact ⟨rfl, Qd (by rw [h1] <;> kernel_rfl)⟩
 refine ck ((!(Q4 x)) || (!(Xf version 1 1000000000))) (fun h2 => ?_) (fun h2 => ?_)
 ·
  refine su Qa [] [15] [] [] (p0) ?_
  refine Qe ?_
  exact ps [] (Xi h2 (rfl))
 have h2l : ((!(Q4 x))) = false := UE h2
 have h2ln : (Q4 x) = true := Jb h2l
 have h2lnn := (YE h2ln).2.2.1; have h2lnl := Ci ((Bq x).symm.trans h2ln)
 have h2r : ((!(Xf version 1 1000000000))) = false := UF h2
 have h2rn : (Xf version 1 1000000000) = true := Jb h2r
 have h2rnw := Rm.1 h2rn
 refine Qf ?_
 have hk3 := Zk (n := version) (by omega)
 refine sn Qa [3, 4, 5] [3] (pc 1 (J0 version (by omega)) (px (Yk (n := (ByteArray.size (Qq version) + ByteArray.size (⟨#[10]⟩ : ByteArray))) (by have hq0 : ByteArray.size (⟨#[10]⟩ : ByteArray) = 1 := rfl; unfold maxLen; first | omega | (simp only [ByteArray.size_append]; omega))) p0)) ?_
 refine tn Qa [4, 5, 6] [] (pc 1 (Vr x) p0) ?_
 refine Qc ?_
 refine tu Qa [(5, .s ((Qq version) ++ (⟨#[10]⟩ : ByteArray))), (6, .o 1280 (Xh x)), (7, .i 0)] [0, 3, 15] [] [3] (p0) ?_
 refine wT 6 0 (.own true 1280) (Xh x) (fun hw4 hl5 => ?_)
 refine GV Uw An (Xh x) ((Qq version) ++ (⟨#[10]⟩ : ByteArray)) (fun k0 s0 => [(5, .s s0), (7, .i ((k0 : Nat) : Int))]) [5, 7] (fun y0 => [(5, .s y0)]) [5, 6, 7] (fun k0 s0 => ByteArray.size s0 ≤ 40 + 10400 * k0) (fun y0 => ByteArray.size y0 ≤ 400000) wf0 (by have hq1 : ByteArray.size (⟨#[10]⟩ : ByteArray) = 1 := rfl; simp only [ByteArray.size_append]; omega) (fun k0 s0 hk0 hI0 => ?_) (fun k0 s0 hk0 hI0 => ?_) (fun y0 hD0 => ?_)
 ·
  have hA0_0 := hI0.2
  obtain ⟨a0, hx0⟩ := Yi (l := Xh x) (i := k0) hk0
  have hxs := hes.2 _ (List.mem_of_getElem? hx0)
  have hll := hes.1
  refine Qc ?_
  refine sn Qa [4, 5, 6, 7, 24] [] (pl 2 (Xh x) (pe 3 (Qz (decide_eq_true (p := ((k0 : Nat) : Int) < ((Xh x).length : Int)) (by omega))) p0)) ?_
  refine ckT ?_
  refine Qf ?_
  refine Qc ?_
  refine Qy ?_
  refine qn Qa [4, 5, 6, 7] [] (pN 3 hx0 (px (Yk (n := (ByteArray.size s0 + ByteArray.size a0)) (by unfold maxLen; first | omega | (simp only [ByteArray.size_append]; omega))) (px (Yk (n := (ByteArray.size (s0 ++ a0) + ByteArray.size (⟨#[10]⟩ : ByteArray))) (by have hq0 : ByteArray.size (⟨#[10]⟩ : ByteArray) = 1 := rfl; unfold maxLen; first | omega | (simp only [ByteArray.size_append]; omega))) p0))) ?_
  refine qu Qa [(5, .s ((s0 ++ a0) ++ (⟨#[10]⟩ : ByteArray))), (7, .i ((k0 + 1 : Nat) : Int))] [5, 7] [] [] (pe 1 (Jr (Q1 k0 (by omega))) p0) ?_
  exact xw ((s0 ++ a0) ++ (⟨#[10]⟩ : ByteArray)) ⟨Xl hx0 (rfl) hI0.1, (by have hq1 : ByteArray.size (⟨#[10]⟩ : ByteArray) = 1 := rfl; simp only [ByteArray.size_append]; omega)⟩
 ·
  have hA0_0 := hI0.2
  refine Qc ?_
  refine sn Qa [4, 5, 6, 7, 24] [] (pl 2 (Xh x) (pe 3 (Qz (decide_eq_false (p := ((k0 : Nat) : Int) < ((Xh x).length : Int)) (by omega))) p0)) ?_
  refine ckF ?_
  refine Xs ?_
  exact xw s0 ⟨Yn hk0 (rfl) hI0.1, by first | omega | (simp only [List.length_set]; omega)⟩
 have hD0_0 := hD0.2
 have hk6 := LE y0
 have hk7 := Zk (n := Km y0) (by omega)
 refine sn Qa [4] [] (pc 2 (Sy y0) (pc 3 (J0 (Km y0) (by omega)) (px (Yk (n := (ByteArray.size y0 + ByteArray.size (Qq (Km y0)))) (by unfold maxLen; first | omega | (simp only [ByteArray.size_append]; omega))) (px (Yk (n := (ByteArray.size (y0 ++ (Qq (Km y0))) + ByteArray.size (⟨#[46]⟩ : ByteArray))) (by have hq0 : ByteArray.size (⟨#[46]⟩ : ByteArray) = 1 := rfl; unfold maxLen; first | omega | (simp only [ByteArray.size_append]; omega))) p0)))) ?_
 refine Qe ?_
 exact ps [] (Qk h2 (V4 hD0.1 (rfl)))
end
end Go.Proofs.YtkbmchfkaibelaaGreatDoor
