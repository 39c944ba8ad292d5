/- Texts of this proof, put together by a program: Ste, Isa, Isb, Yn0, In, Nf, Ws0, Sp, Sq, By, Gb, Wsa, Wsb, Np, Wsc, Sw, Wsd, Wst, Wse, Wsf, Wsg, Wsh, Wsi. -/
import Derived.Test.YtbemokhfcmepjaaGreatDoorP4
import Derived.KernelRfl
import Derived.Test.YtbemokhfcmepjaaGreatDoorProg
import Derived.Outline
import Derived.Laws.IdiomStrings
import Derived.Lib.ItoaNum
import Derived.Lib.ConvBytes
import Derived.Lib.SlBytesRow
import Derived.Lib.SmallJoins
import Derived.Lib.SplitLaws
import Derived.Lib.Fields
import Derived.Lib.Join
import Derived.Lib.Atoi
set_option linter.unusedVariables false
set_option linter.unusedSimpArgs false
namespace Go.Proofs.YtbemokhfcmepjaaGreatDoor
section
open Go.RowKit
def Low (b : Int) (L : List Int) : Prop := ∀ j, 0 ≤ nth L j ∧ nth L j ≤ b
theorem UI {b w : Int} {i : Nat} {L : List Int} {p : Nat} (hi : i < L.length) (hw : 0 ≤ w ∧ w ≤ 1) (h : Low b L) : Low (b + w) (Iw i L (p, w)) := fun j => by
  rw [Nc _ hi]
  have h1 := h j
  have h2 := h p
  have h3 := h i
  split
  · show 0 ≤ max (nth L i) (nth L p + w) ∧ max (nth L i) (nth L p + w) ≤ b + w; omega
  omega
theorem KX (d : List Z9) (k0 : Nat) : ∀ (l : List ByteArray) (k : Nat) (s : List Int) (b : Int), k0 < s.length → Low b s → Yr (Vj d k0) Wj l k s = .brk (Uu k0 (Jb d 0 l) s) ∧ Low b (Uu k0 (Jb d 0 l) s)
  | [], k, s, b, _, h => ⟨rfl, h⟩
  | a :: l, k, s, b, hk, h => by
    have hf : Vj d k0 k a s = (bif (decide (0 ≤ X4 d a) && decide (nth s k0 < nth s (Int.toNat (X4 d a)))) then .next (List.set s k0 (nth s (Int.toNat (X4 d a)))) else .next s) := rfl
    simp only [Yr, hf, Jb]
    by_cases h0 : 0 ≤ X4 d a
    · rw [if_pos h0, decide_eq_true h0, Bool.true_and]
      have hb : Low b (Iw k0 s (Int.toNat (X4 d a), 0)) := by have := UI (w := 0) (p := Int.toNat (X4 d a)) hk (by omega) h; simpa using this
      have hbk : Uu k0 ((Int.toNat (X4 d a), 0) :: Jb d 0 l) s = Uu k0 (Jb d 0 l) (Iw k0 s (Int.toNat (X4 d a), 0)) := rfl
      rw [hbk]
      have ih := KX d k0 l (k + 1) (Iw k0 s (Int.toNat (X4 d a), 0)) b (by rw [C4]; exact hk) hb
      by_cases h1 : nth s k0 < nth s (Int.toNat (X4 d a))
      · have e : Iw k0 s (Int.toNat (X4 d a), 0) = List.set s k0 (nth s (Int.toNat (X4 d a))) := by unfold Iw; simp [h1]
        rw [decide_eq_true h1, cond_true]
        rw [e] at ih ⊢; exact ih
      have e : Iw k0 s (Int.toNat (X4 d a), 0) = s := by unfold Iw; simp [h1]
      rw [decide_eq_false h1, cond_false]
      rw [e] at ih ⊢; exact ih
    rw [if_neg h0, decide_eq_false h0, Bool.false_and, cond_false]
    exact KX d k0 l (k + 1) s b hk h
theorem KY (d : List Z9) (k0 : Nat) : ∀ (l : List ByteArray) (k : Nat) (s : List Int) (b : Int), k0 < s.length → Low b s → b + l.length ≤ 1000000 → Yr (Vk d k0) Hh l k s = .brk (Uu k0 (Jb d 1 l) s) ∧ Low (b + l.length) (Uu k0 (Jb d 1 l) s)
  | [], k, s, b, _, h, _ => ⟨rfl, by show Low (b + ((0 : Nat) : Int)) s; simpa using h⟩
  | a :: l, k, s, b, hk, h, hb => by
    rw [List.length_cons] at hb ⊢
    have hf : Vk d k0 k a s = (bif (decide (0 ≤ X4 d a) && decide (nth s k0 < IntKind.i64.wrap (nth s (Int.toNat (X4 d a)) + 1))) then .next (List.set s k0 (IntKind.i64.wrap (nth s (Int.toNat (X4 d a)) + 1))) else .next s) := rfl
    simp only [Yr, hf, Jb]
    have hl : b + ((l.length + 1 : Nat) : Int) = b + 1 + (l.length : Int) := by omega
    have hw : IntKind.i64.wrap (nth s (Int.toNat (X4 d a)) + 1) = nth s (Int.toNat (X4 d a)) + 1 := IntWalk.i64_in _ (by have := h (Int.toNat (X4 d a)); omega)
    rw [hl] at hb ⊢
    by_cases h0 : 0 ≤ X4 d a
    · rw [if_pos h0, decide_eq_true h0, Bool.true_and, hw]
      have hlow := UI (w := 1) (p := Int.toNat (X4 d a)) hk (by omega) h
      have hbk : Uu k0 ((Int.toNat (X4 d a), 1) :: Jb d 1 l) s = Uu k0 (Jb d 1 l) (Iw k0 s (Int.toNat (X4 d a), 1)) := rfl
      rw [hbk]
      have ih := KY d k0 l (k + 1) (Iw k0 s (Int.toNat (X4 d a), 1)) (b + 1) (by rw [C4]; exact hk) hlow hb
      by_cases h1 : nth s k0 < nth s (Int.toNat (X4 d a)) + 1
      · have e : Iw k0 s (Int.toNat (X4 d a), 1) = List.set s k0 (nth s (Int.toNat (X4 d a)) + 1) := by unfold Iw; rw [if_pos h1]
        rw [decide_eq_true h1, cond_true]
        rw [e] at ih ⊢; exact ih
      have e : Iw k0 s (Int.toNat (X4 d a), 1) = s := by unfold Iw; rw [if_neg h1]
      rw [decide_eq_false h1, cond_false]
      rw [e] at ih ⊢; exact ih
    rw [if_neg h0, decide_eq_false h0, Bool.false_and, cond_false]
    exact KY d k0 l (k + 1) s (b + 1) hk (fun j => by have := h j; omega) hb
theorem Pf (q : List Qw) (b : Bool) : ∀ (l : List Bool) (k : Nat) (s : List ByteArray), ∃ t, Yr (Kt q b) Vz l k s = .brk t ∧ t.length ≤ s.length + l.length
  | [], k, s => ⟨s, rfl, by simp⟩
  | a :: l, k, s => by
    simp only [Yr, Kt]
    cases (Ke (nth q k) && (a == b)) with
    | true =>
      obtain ⟨t, h1, h2⟩ := Pf q b l (k + 1) (s ++ [(nth q k).2.2.2.1])
      exact ⟨t, h1, by simp at h2 ⊢; omega⟩
    | false =>
      obtain ⟨t, h1, h2⟩ := Pf q b l (k + 1) s
      exact ⟨t, h1, by simp at h2 ⊢; omega⟩
theorem LO (q : List Qw) : List.length (Ye q) ≤ 9 := by
  cases hv : Qk q with
  | true => have := Fx q; have := (Df hv).2; omega
  | false => unfold Ye; rw [hv]; simp
theorem Qbq (q : List Qw) (b : Bool) : List.length (Kc q b) ≤ 9 := by
  unfold Kc
  obtain ⟨t, h1, h2⟩ := Pf q b (Ye q) 0 []
  rw [h1]
  have h3 := LO q
  have h4 := DW (D8 t)
  rw [YG] at h4
  show (Oy (D8 t)).length ≤ 9
  simp at h2
  omega
theorem EK (i : Nat) (E1 E2 : Jp) (L : List Int) : Uu i (E1 ++ E2) L = Uu i E2 (Uu i E1 L) := List.foldl_append
theorem RO {d : List Z9} {k : Nat} {a : Z9} {s : List Int} {b : Int} (hk : d[k]? = some a) (hs : s.length = d.length) (h : Low b s) (hb : b + 9 ≤ 1000000) : Kl d k a s = .next (Uu k (Z8 d k) s) ∧ Low (b + 9) (Uu k (Z8 d k) s) := by
  have hkl : k < d.length := (List.getElem?_eq_some_iff.1 hk).1
  have ha : nth d k = a := NN hk
  obtain ⟨h1, h2⟩ := KX d k (Xx a.2) 0 s b (by omega) h
  have h9 : (Xy a.2).length ≤ 9 := Qbq a.2 true
  obtain ⟨h3, h4⟩ := KY d k (Xy a.2) 0 (Uu k (Jb d 0 (Xx a.2)) s) b (by rw [Bd]; omega) h2 (by omega)
  have he : Z8 d k = Jb d 0 (Xx a.2) ++ Jb d 1 (Xy a.2) := by unfold Z8; rw [if_pos hkl, ha]
  rw [he, EK]
  refine ⟨?_, fun j => by have := h4 j; omega⟩
  unfold Kl
  rw [AN, AO, h1]
  simp only [Out.on]
  rw [h3]
theorem Sp {d : List Z9} : ∀ (l : List Z9) (k : Nat) (s : List Int) (b : Int), d.drop k = l → s.length = d.length → Low b s → b + 9 * l.length ≤ 1000000 → Yr (Kl d) Hi l k s = .brk (Uf (Z8 d) (List.range' k l.length) s) ∧ Low (b + 9 * l.length) (Uf (Z8 d) (List.range' k l.length) s)
  | [], k, s, b, _, _, h, _ => ⟨rfl, by show Low (b + 9 * ((0 : Nat) : Int)) s; simpa using h⟩
  | a :: l, k, s, b, hl, hs, h, hb => by
    have hk : d[k]? = some a := by
      have := congrArg (·[0]?) hl
      simpa using this
    have hrest : d.drop (k + 1) = l := by rw [← List.drop_drop, hl]; rfl
    rw [List.length_cons] at hb ⊢
    obtain ⟨h1, h2⟩ := RO hk hs h (by omega)
    have e : b + 9 * ((l.length + 1 : Nat) : Int) = b + 9 + 9 * (l.length : Int) := by omega
    rw [e] at hb ⊢
    obtain ⟨h3, h4⟩ := Sp l (k + 1) (Uu k (Z8 d k) s) (b + 9) hrest (by rw [Bd]; exact hs) h2 hb
    simp only [Yr, h1, List.range'_succ]
    exact ⟨h3, h4⟩
theorem Sq {d : List Z9} {s : List Int} {b : Int} (hs : s.length = d.length) (h : Low b s) (hb : b + 9 * d.length ≤ 1000000) : Js d s = Uf (Z8 d) (List.range d.length) s ∧ Low (b + 9 * d.length) (Uf (Z8 d) (List.range d.length) s) := by
  obtain ⟨h1, h2⟩ := Sp d 0 s b rfl hs h hb
  have e1 : List.range' 0 d.length = List.range d.length := (List.range_eq_range' ..).symm
  rw [e1] at h1 h2
  refine ⟨?_, h2⟩
  unfold Js
  rw [h1]
  rfl
theorem Pg {d : List Z9} (hd : d.length ≤ 5) : ∀ (n k m : Nat), m + n ≤ 1000 → Low (45 * m) (Wh (Z8 d) d.length m) → Jg (A0 d) C5 n k (Wh (Z8 d) d.length m) = .brk (Wh (Z8 d) d.length (m + n)) ∧ Low (45 * (m + n)) (Wh (Z8 d) d.length (m + n))
  | 0, k, m, _, h => ⟨rfl, by simpa using h⟩
  | n + 1, k, m, hm, h => by
    obtain ⟨h1, h2⟩ := Sq (Ev (Z8 d) d.length m) h (by omega)
    have e : Wh (Z8 d) d.length (m + 1) = Uf (Z8 d) (List.range d.length) (Wh (Z8 d) d.length m) := rfl
    simp only [Jg, A0, h1]
    rw [← e] at h2 ⊢
    have := Pg hd n (k + 1) (m + 1) (by omega) (fun j => by have := h2 j; omega)
    rw [show m + (n + 1) = m + 1 + n by omega]
    refine ⟨this.1, fun j => by have := this.2 j; omega⟩
theorem EL (b : List Int) : ∀ (l : List Int) (k : Nat), l.length = (b.drop k).length → Out.on (Yr (Ui b) Aa l k ()) (fun _ => true) = decide (l = b.drop k)
  | [], k, h => by
    have : b.drop k = [] := List.eq_nil_of_length_eq_zero (by rw [← h]; rfl)
    rw [this]; rfl
  | a :: l, k, h => by
    have hk : k < b.length := by simp only [List.length_cons, List.length_drop] at h; omega
    have hd : b.drop k = nth b k :: b.drop (k + 1) := by
      rw [List.drop_eq_getElem_cons hk, show nth b k = b[k] by simp [nth, List.getD, hk]]
    rw [hd] at h ⊢
    simp only [Yr, Ui]
    by_cases e : a = nth b k
    · rw [show (a != nth b k) = false by simp [e], cond_false, EL b l (k + 1) (by simpa using h)]
      simp [e]
    rw [show (a != nth b k) = true by simp [e], cond_true]
    simp [e, Out.on]
theorem RP (a b : List Int) (h : a.length = b.length) : Bg a b = decide (a = b) := by
  unfold Bg
  rw [show ((a.length : Int) != (b.length : Int)) = false by simp [h], cond_false, EL b a 0 (by simpa using h), List.drop_zero]
theorem YT (d : List Z9) : V3 d = Vl d := by
  unfold V3 Vl
  rw [← T4]
  cases hv : Zh d with
  | false => rfl
  | true =>
    have h5 := G8 hv
    obtain ⟨hn, _⟩ := Qac ((T4 d).symm.trans hv)
    simp only [Bool.not_true, cond_false]
    have hz : Wh (Z8 d) d.length 0 = List.replicate (Int.toNat (d.length : Int)) (0 : Int) := by rw [Int.toNat_natCast]; rfl
    have hnn : d.length * d.length ≤ 25 := Nat.le_trans (Nat.mul_le_mul h5 h5) (by decide)
    obtain ⟨h1, h2⟩ := Pg (d := d) h5 (d.length * d.length + 2) 0 0 (by omega) (fun j => by rw [hz, Int.toNat_natCast, Na]; omega)
    rw [hz, Nat.zero_add] at h1
    rw [Nat.zero_add] at h2
    rw [hn, show Int.toNat (((d.length * d.length + 1 : Nat) : Int) + 1) = d.length * d.length + 2 by omega, h1]
    simp only [Out.on]
    have hlen := Ev (Z8 d) d.length (d.length * d.length + 2)
    obtain ⟨h3, _⟩ := Sq (d := d) hlen h2 (by omega)
    rw [h3, RP _ _ (by rw [F3])]
    have hw := Pe (d := d) (f := Hj d) (e := Hk) (F := Vt d) (fun _ _ _ => rfl) (fun _ _ => rfl) (fun _ => rfl) (by omega) (d.length * d.length + 3) (List.replicate d.length 0) true (Ew _).1 (Ew _).2
    have hsome : (Re (Z8 d) d.length d.length (d.length * d.length + 3) (true, List.replicate d.length 0)).isSome = true := by
      have := Mh d h5
      rw [Int.toNat_natCast, hw, Option.isSome_map] at this
      exact this
    obtain ⟨r, hr⟩ := Option.isSome_iff_exists.1 hsome
    unfold YC
    rw [Int.toNat_natCast, hw, hr]
    obtain ⟨h6, h7⟩ := ED (E := Z8 d) (n := d.length) (fun i e he => EH d i e he) hr
    by_cases hfix : Uf (Z8 d) (List.range d.length) (Wh (Z8 d) d.length (d.length * d.length + 2)) = Wh (Z8 d) d.length (d.length * d.length + 2)
    · rw [h6 hfix, decide_eq_true hfix]
      rfl
    rw [h7 hfix, decide_eq_false hfix]
    rfl
open GoE (enc wide)
def V0 (name : ByteArray) (_ : Nat) (a0 : X9) (_ : Unit) : Rd (Int) (Unit) (Unit) := (bif (a0.1.toList == name.toList) then (.ret a0.2) else (.next ()))
def Uo (_ : Nat) (_ : Unit) : Unit := ()
def Vu (s_ : (List X9)) (name : ByteArray) : Int := (Out.on (Yr (V0 name) Uo s_ 0 ()) (fun _ => 0))
theorem Ph (s_ : (List X9)) (name : ByteArray) : ACalls Tryz.prog 164 [.h s_, .s name] (.i (Vu s_ name)) := by
 refine en Qa Tryz.func164 fun w0 F0 hG => ?_
 refine sn Qa [0, 1, 4] [] (p0) ?_
 refine Qc ?_
 refine tn Qa [1, 4, 7, 8, 9] [] (pl 1 s_ p0) ?_
 refine mz [(4, .i 0), (7, .h s_), (8, .i (s_.length : Int)), (9, .i 0)] [0] [] [] ?_
 refine wT 7 0 .sh s_ (fun hw1 hl2 => ?_)
 refine Rb (V0 name) Uo s_ () (fun k0 _ => [(9, .i ((k0 : Nat) : Int))]) [9] (fun _ => []) [1, 7, 8, 9] wf0 (fun k0 s0 hk0 hI0 => ?_) (fun k0 s0 hk0 hI0 => ?_) (fun y0 hD0 => ?_)
 ·
  obtain ⟨a0, hx0⟩ := Yp (l := s_) (i := k0) hk0
  refine sn Qa [1, 4, 7, 8, 9, 10] [] (pe 0 (Q1 (decide_eq_true (p := ((k0 : Nat) : Int) < (s_.length : Int)) (by omega))) p0) ?_
  refine Qc ?_
  refine ckT ?_
  refine Qf ?_
  refine Qc ?_
  refine Qz ?_
  refine tn Qa [1, 4, 6, 7, 8, 9] [6] (pn 0 hx0 p0) ?_
  refine tu Qa [(6, .p 6 0), (16, .b (a0.1.toList == name.toList))] [] [(6, [.s a0.1, .i a0.2])] [] (p0) ?_
  refine ck (a0.1.toList == name.toList) (fun h3 => ?_) (fun h3 => ?_)
  ·
   refine sn Qa [1, 4, 7, 8, 9] [] (p0) ?_
   refine Qe ?_
   have hr4 : (Yr (V0 name) Uo s_ 0 ()) = .ret a0.2 := Kb hx0 (Xh h3 (rfl)) hI0
   exact pi [] (Mo hr4)
  refine Qf ?_
  refine rn Qa [1, 4, 7, 8, 9] [] (pe 0 (Jq (Q4 k0 (by omega))) p0) ?_
  exact xw _ (Xp hx0 (Qj h3 (rfl)) hI0)
 ·
  refine sn Qa [1, 4, 7, 8, 9, 10] [] (pe 0 (Q1 (decide_eq_false (p := ((k0 : Nat) : Int) < (s_.length : Int)) (by omega))) p0) ?_
  refine Qc ?_
  refine ckF ?_
  refine Xu ?_
  exact xw _ (Yq hk0 (rfl) hI0)
 refine sn Qa [4] [] (p0) ?_
 refine Qe ?_
 exact pi [] (V4 hD0 (rfl))
def Yu (s_ : (List X9)) (name : ByteArray) (v : Z7) : Bool := ((Qt v) && ((v.1 != (0 : Int)) && (v.1 == (Vu s_ name))))
theorem Bh (s_ : (List X9)) (name : ByteArray) (v : Z7) : ACalls Tryz.prog 137 [.h s_, .s name, .a [.i v.1, .i v.2.1, .s v.2.2]] (.b (Yu s_ name v)) := by
 refine en Qa Tryz.func137 fun w0 F0 hG => ?_
 refine sn Qa [0, 1, 5, 6] [5] (p0) ?_
 refine Qc ?_
 refine mz [(5, .p 5 0), (6, .b false)] [2] [(5, [.i v.1, .i v.2.1, .s v.2.2])] [] ?_
 refine jn [(6, .b ((Qt v) && ((v.1 != (0 : Int)) && (v.1 == (Vu s_ name)))))] [0, 1, 5, 6] [] [5] (Qt v) (fun h1 => ?_) (fun h1 => ?_) ?_
 ·
  refine Xo (v.1 != (0 : Int)) (fun h2 => ?_) (fun h2 => ?_)
  ·
   refine rN Qa Yz [6] [] (pc 1 (cb h1 (Zb v)) (pt 5 h2 (pc 12 (Ph s_ name) p0))) ?_
   exact ⟨rfl, Qd (by rw [h1, h2] <;> kernel_rfl)⟩
  refine rN Qa Yz [6] [] (pc 1 (cb h1 (Zb v)) (pf 5 h2 p0)) ?_
  exact ⟨rfl, Qd (by rw [h1, h2] <;> kernel_rfl)⟩
 ·
  refine rN Qa Yz [6] [] (pc 1 (cb h1 (Zb v)) p0) ?_
  exact ⟨rfl, Qd (by rw [h1] <;> kernel_rfl)⟩
 refine Qe ?_
 exact pb [] (show Yu s_ name v = ((Qt v) && ((v.1 != (0 : Int)) && (v.1 == (Vu s_ name)))) from rfl)
def H0 (n : Int) : Bool := (Q9 n 0 2)
theorem Eb (n : Int) : ACalls Tryz.prog 138 [.i n] (.b (H0 n)) := by
 refine en Qa Tryz.func138 fun w0 F0 hG => ?_
 refine sn Qa [0, 2] [] (p0) ?_
 refine tn Qa [2] [] (pc 1 (Za n 0 2) p0) ?_
 refine Qe ?_
 exact pb [] (show H0 n = (Q9 n 0 2) from rfl)
def J8 (s_ : (List X9)) (k0 : Nat) (a0 : X9) (_ : Unit) : Rd (Bool) (Unit) (Unit) := (bif ((!(Qs a0.1)) || (bif (a0.2 != (1 : Int)) then ((a0.2 != (2 : Int)) || (decide (((k0 : Nat) : Int) > (0 : Int)) && (!(Op.bytesLess ((nth s_ (Int.toNat (((k0 : Nat) : Int) - 1))).1).toList a0.1.toList)))) else (decide (((k0 : Nat) : Int) > (0 : Int)) && (!(Op.bytesLess ((nth s_ (Int.toNat (((k0 : Nat) : Int) - 1))).1).toList a0.1.toList))))) then (.ret false) else (.next ()))
def Vh (_ : Nat) (_ : Unit) : Unit := ()
def Y7 (s_ : (List X9)) : Bool := (Out.on (Yr (J8 s_) Vh s_ 0 ()) (fun _ => decide ((s_.length : Int) ≤ (5 : Int))))
theorem Vv (s_ : (List X9)) : ACalls Tryz.prog 112 [.h s_] (.b (Y7 s_)) := by
 refine en Qa Tryz.func112 fun w0 F0 hG => ?_
 refine sn Qa [0, 2] [] (p0) ?_
 refine Qc ?_
 refine tn Qa [0, 2, 5, 6, 7] [] (pl 1 s_ p0) ?_
 refine mz [(2, .b false), (5, .h s_), (6, .i (s_.length : Int)), (7, .i 0)] [] [] [] ?_
 refine wT 0 0 .sh s_ (fun hw1 hl2 => ?_)
 refine Rb (J8 s_) Vh s_ () (fun k0 _ => [(7, .i ((k0 : Nat) : Int))]) [7] (fun _ => []) [5, 6, 7] wf0 (fun k0 s0 hk0 hI0 => ?_) (fun k0 s0 hk0 hI0 => ?_) (fun y0 hD0 => ?_)
 ·
  obtain ⟨a0, hx0⟩ := Yp (l := s_) (i := k0) hk0
  refine sn Qa [0, 2, 5, 6, 7, 8] [] (pe 0 (Q1 (decide_eq_true (p := ((k0 : Nat) : Int) < (s_.length : Int)) (by omega))) p0) ?_
  refine Qc ?_
  refine ckT ?_
  refine Qf ?_
  refine Qc ?_
  refine Qz ?_
  refine tn Qa [0, 2, 3, 4, 5, 6, 7] [4] (pn 1 hx0 p0) ?_
  refine Qc ?_
  refine mz [(3, .i ((k0 : Nat) : Int)), (4, .p 4 0)] [] [(4, [.s a0.1, .i a0.2])] [] ?_
  refine jn [(40, .b ((!(Qs a0.1)) || (bif (a0.2 != (1 : Int)) then ((a0.2 != (2 : Int)) || (decide (((k0 : Nat) : Int) > (0 : Int)) && (!(Op.bytesLess ((nth s_ (Int.toNat (((k0 : Nat) : Int) - 1))).1).toList a0.1.toList)))) else (decide (((k0 : Nat) : Int) > (0 : Int)) && (!(Op.bytesLess ((nth s_ (Int.toNat (((k0 : Nat) : Int) - 1))).1).toList a0.1.toList))))))] [3, 4] [] [4] (!(Qs a0.1)) (fun h3 => ?_) (fun h3 => ?_) ?_
  ·
   have h3n : (Qs a0.1) = false := Vp h3
   refine rN Qa Yz [0, 2, 5, 6, 7, 40] [] (pc 2 (cb h3n (Yb a0.1)) (pe 3 (show .b (!false) = .b true from rfl) p0)) ?_
   exact ⟨rfl, Qd (by rw [h3] <;> kernel_rfl)⟩
  ·
   have h3n : (Qs a0.1) = true := Z4 h3
   refine Xo (a0.2 != (1 : Int)) (fun h4 => ?_) (fun h4 => ?_)
   ·
    have h4d := Ot h4
    refine Xo (a0.2 != (2 : Int)) (fun h5 => ?_) (fun h5 => ?_)
    ·
     refine rN Qa Yz [0, 2, 5, 6, 7, 40] [] (pc 2 (cb h3n (Yb a0.1)) (pe 3 (show .b (!true) = .b false from rfl) (pt 7 h4 (pt 11 h5 p0)))) ?_
     exact ⟨rfl, Qd (by rw [h3, h4, h5] <;> kernel_rfl)⟩
    have h5d := Hb h5
    refine Xo (decide (((k0 : Nat) : Int) > (0 : Int))) (fun h6 => ?_) (fun h6 => ?_)
    ·
     have h6d := of_decide_eq_true h6
     have hx7 := ng s_ (Int.toNat (((k0 : Nat) : Int) - 1))
     refine rN Qa Yz [0, 2, 5, 6, 7, 40] [] (pc 2 (cb h3n (Yb a0.1)) (pe 3 (show .b (!true) = .b false from rfl) (pt 7 h4 (pf 11 h5 (pt 16 h6 (pe 20 (Jq (IntWalk.i64_in (((k0 : Nat) : Int) - 1) (by omega))) (pg 21 (((k0 : Nat) : Int) - 1) hx7 p0))))))) ?_
     exact ⟨rfl, Qd (by rw [h3, h4, h5, h6] <;> kernel_rfl)⟩
    refine rN Qa Yz [0, 2, 5, 6, 7, 40] [] (pc 2 (cb h3n (Yb a0.1)) (pe 3 (show .b (!true) = .b false from rfl) (pt 7 h4 (pf 11 h5 (pf 16 h6 p0))))) ?_
    exact ⟨rfl, Qd (by rw [h3, h4, h5, h6] <;> kernel_rfl)⟩
   have h4d := Hb h4
   refine Xo (decide (((k0 : Nat) : Int) > (0 : Int))) (fun h8 => ?_) (fun h8 => ?_)
   ·
    have h8d := of_decide_eq_true h8
    have hx9 := ng s_ (Int.toNat (((k0 : Nat) : Int) - 1))
    refine rN Qa Yz [0, 2, 5, 6, 7, 40] [] (pc 2 (cb h3n (Yb a0.1)) (pe 3 (show .b (!true) = .b false from rfl) (pf 7 h4 (pt 16 h8 (pe 20 (Jq (IntWalk.i64_in (((k0 : Nat) : Int) - 1) (by omega))) (pg 21 (((k0 : Nat) : Int) - 1) hx9 p0)))))) ?_
    exact ⟨rfl, Qd (by rw [h3, h4, h8] <;> kernel_rfl)⟩
   refine rN Qa Yz [0, 2, 5, 6, 7, 40] [] (pc 2 (cb h3n (Yb a0.1)) (pe 3 (show .b (!true) = .b false from rfl) (pf 7 h4 (pf 16 h8 p0)))) ?_
   exact ⟨rfl, Qd (by rw [h3, h4, h8] <;> kernel_rfl)⟩
  refine ck ((!(Qs a0.1)) || (bif (a0.2 != (1 : Int)) then ((a0.2 != (2 : Int)) || (decide (((k0 : Nat) : Int) > (0 : Int)) && (!(Op.bytesLess ((nth s_ (Int.toNat (((k0 : Nat) : Int) - 1))).1).toList a0.1.toList)))) else (decide (((k0 : Nat) : Int) > (0 : Int)) && (!(Op.bytesLess ((nth s_ (Int.toNat (((k0 : Nat) : Int) - 1))).1).toList a0.1.toList))))) (fun h10 => ?_) (fun h10 => ?_)
  ·
   refine su Qa [] [40] [] [] (p0) ?_
   refine Qe ?_
   have hr11 : (Yr (J8 s_) Vh s_ 0 ()) = .ret false := Kb hx0 (Xh h10 (rfl)) hI0
   exact pb [] (Mo hr11)
  refine Qf ?_
  refine rn Qa [0, 2, 5, 6, 7] [] (pe 0 (Jq (Q4 k0 (by omega))) p0) ?_
  exact xw _ (Xp hx0 (Qj h10 (rfl)) hI0)
 ·
  refine sn Qa [0, 2, 5, 6, 7, 8] [] (pe 0 (Q1 (decide_eq_false (p := ((k0 : Nat) : Int) < (s_.length : Int)) (by omega))) p0) ?_
  refine Qc ?_
  refine ckF ?_
  refine Xu ?_
  exact xw _ (Yq hk0 (rfl) hI0)
 refine sn Qa [2] [] (pl 1 s_ p0) ?_
 refine Qe ?_
 exact pb [] (V4 hD0 (rfl))
def K4 (s_ : (List X9)) (f : Jk) (k0 : Nat) (a0 : Vc) (_ : Unit) : Rd (Bool) (Unit) (Unit) := (bif (bif decide (((k0 : Nat) : Int) > (0 : Int)) then ((!(Op.bytesLess ((nth f.2.2.2.2 (Int.toNat (((k0 : Nat) : Int) - 1))).1).toList a0.1.toList)) || (!(Yu s_ a0.1 a0.2))) else (!(Yu s_ a0.1 a0.2))) then (.ret false) else (.next ()))
def Wa (_ : Nat) (_ : Unit) : Unit := ()
def Zi (s_ : (List X9)) (f : Jk) : Bool := (Out.on (Yr (K4 s_ f) Wa f.2.2.2.2 0 ()) (fun _ => ((Q9 f.1 1 60) && ((H0 f.2.1) && ((Q9 f.2.2.2.1 0 60) && (Y7 s_))))))
theorem W7 (s_ : (List X9)) (f : Jk) : ACalls Tryz.prog 111 [.h s_, .a [.i f.1, .i f.2.1, .b f.2.2.1, .i f.2.2.2.1, .h f.2.2.2.2]] (.b (Zi s_ f)) := by
 refine en Qa Tryz.func111 fun w0 F0 hG => ?_
 refine sn Qa [0, 3, 4] [3] (p0) ?_
 refine Qc ?_
 refine tn Qa [0, 3, 4, 8, 9, 10] [3] (pl 2 f.2.2.2.2 p0) ?_
 refine mz [(3, .p 3 0), (4, .b false), (8, .h f.2.2.2.2), (9, .i (f.2.2.2.2.length : Int)), (10, .i 0)] [1] [(3, [.i f.1, .i f.2.1, .b f.2.2.1, .i f.2.2.2.1, .h f.2.2.2.2])] [] ?_
 refine wT 8 0 .sh f.2.2.2.2 (fun hw1 hl2 => ?_)
 refine Rb (K4 s_ f) Wa f.2.2.2.2 () (fun k0 _ => [(10, .i ((k0 : Nat) : Int))]) [10] (fun _ => []) [8, 9, 10] wf0 (fun k0 s0 hk0 hI0 => ?_) (fun k0 s0 hk0 hI0 => ?_) (fun y0 hD0 => ?_)
 ·
  obtain ⟨a0, hx0⟩ := Yp (l := f.2.2.2.2) (i := k0) hk0
  refine su Qa [(11, .b true)] [] [] [] (pe 0 (Q1 (decide_eq_true (p := ((k0 : Nat) : Int) < (f.2.2.2.2.length : Int)) (by omega))) p0) ?_
  refine Qc ?_
  refine ckT ?_
  refine Qf ?_
  refine Qc ?_
  refine Qz ?_
  refine sn Qa [0, 3, 4, 5, 6, 8, 9, 10] [3, 6] (pn 1 hx0 p0) ?_
  refine Qc ?_
  refine mz [(5, .i ((k0 : Nat) : Int)), (6, .p 6 0)] [11] [(6, [.s a0.1, .i a0.2.1, .i a0.2.2.1, .s a0.2.2.2])] [] ?_
  refine jn [(37, .b (bif decide (((k0 : Nat) : Int) > (0 : Int)) then ((!(Op.bytesLess ((nth f.2.2.2.2 (Int.toNat (((k0 : Nat) : Int) - 1))).1).toList a0.1.toList)) || (!(Yu s_ a0.1 a0.2))) else (!(Yu s_ a0.1 a0.2))))] [5, 6] [] [6] (decide (((k0 : Nat) : Int) > (0 : Int))) (fun h3 => ?_) (fun h3 => ?_) ?_
  ·
   have h3d := of_decide_eq_true h3
   refine Xo (!(Op.bytesLess ((nth f.2.2.2.2 (Int.toNat (((k0 : Nat) : Int) - 1))).1).toList a0.1.toList)) (fun h4 => ?_) (fun h4 => ?_)
   ·
    have hx5 := ng f.2.2.2.2 (Int.toNat (((k0 : Nat) : Int) - 1))
    refine rN Qa Yz [0, 3, 4, 8, 9, 10, 37] [3] (pt 1 h3 (pe 6 (Jq (IntWalk.i64_in (((k0 : Nat) : Int) - 1) (by omega))) (pg 7 (((k0 : Nat) : Int) - 1) hx5 (pt 12 h4 p0)))) ?_
    exact ⟨rfl, Qd (by rw [h3, h4] <;> kernel_rfl)⟩
   have hx6 := ng f.2.2.2.2 (Int.toNat (((k0 : Nat) : Int) - 1))
   refine rN Qa Yz [0, 3, 4, 8, 9, 10, 37] [3] (pt 1 h3 (pe 6 (Jq (IntWalk.i64_in (((k0 : Nat) : Int) - 1) (by omega))) (pg 7 (((k0 : Nat) : Int) - 1) hx6 (pf 12 h4 (pc 20 (Bh s_ a0.1 a0.2) p0))))) ?_
   exact ⟨rfl, Qd (by rw [h3, h4] <;> kernel_rfl)⟩
  ·
   refine rN Qa Yz [0, 3, 4, 8, 9, 10, 37] [3] (pf 1 h3 (pc 20 (Bh s_ a0.1 a0.2) p0)) ?_
   exact ⟨rfl, Qd (by rw [h3] <;> kernel_rfl)⟩
  refine ck (bif decide (((k0 : Nat) : Int) > (0 : Int)) then ((!(Op.bytesLess ((nth f.2.2.2.2 (Int.toNat (((k0 : Nat) : Int) - 1))).1).toList a0.1.toList)) || (!(Yu s_ a0.1 a0.2))) else (!(Yu s_ a0.1 a0.2))) (fun h7 => ?_) (fun h7 => ?_)
  ·
   refine su Qa [] [37] [] [] (p0) ?_
   refine Qe ?_
   have hr8 : (Yr (K4 s_ f) Wa f.2.2.2.2 0 ()) = .ret false := Kb hx0 (Xh h7 (rfl)) hI0
   exact pb [] (Mo hr8)
  refine Qf ?_
  refine rn Qa [0, 3, 4, 8, 9, 10] [3] (pe 0 (Jq (Q4 k0 (by omega))) p0) ?_
  exact xw _ (Xp hx0 (Qj h7 (rfl)) hI0)
 ·
  refine su Qa [(11, .b false)] [] [] [] (pe 0 (Q1 (decide_eq_false (p := ((k0 : Nat) : Int) < (f.2.2.2.2.length : Int)) (by omega))) p0) ?_
  refine Qc ?_
  refine ckF ?_
  refine Xu ?_
  exact xw _ (Yq hk0 (rfl) hI0)
 refine Qc ?_
 refine jn [(4, .b ((Q9 f.1 1 60) && ((H0 f.2.1) && ((Q9 f.2.2.2.1 0 60) && (Y7 s_)))))] [0, 3, 4] [] [3] (Q9 f.1 1 60) (fun h9 => ?_) (fun h9 => ?_) ?_
 ·
  refine Xo (H0 f.2.1) (fun h10 => ?_) (fun h10 => ?_)
  ·
   refine Xo (Q9 f.2.2.2.1 0 60) (fun h11 => ?_) (fun h11 => ?_)
   ·
    refine rn Qa [4] [] (pc 2 (cb h9 (Za f.1 1 60)) (pc 6 (cb h10 (Eb f.2.1)) (pc 11 (cb h11 (Za f.2.2.2.1 0 60)) (pc 15 (Vv s_) p0)))) ?_
    exact ⟨rfl, Qd (by rw [h9, h10, h11] <;> kernel_rfl)⟩
   refine rn Qa [4] [] (pc 2 (cb h9 (Za f.1 1 60)) (pc 6 (cb h10 (Eb f.2.1)) (pc 11 (cb h11 (Za f.2.2.2.1 0 60)) p0))) ?_
   exact ⟨rfl, Qd (by rw [h9, h10, h11] <;> kernel_rfl)⟩
  refine rn Qa [4] [] (pc 2 (cb h9 (Za f.1 1 60)) (pc 6 (cb h10 (Eb f.2.1)) p0)) ?_
  exact ⟨rfl, Qd (by rw [h9, h10] <;> kernel_rfl)⟩
 ·
  refine rn Qa [4] [] (pc 2 (cb h9 (Za f.1 1 60)) p0) ?_
  exact ⟨rfl, Qd (by rw [h9] <;> kernel_rfl)⟩
 refine Qe ?_
 exact pb [] (V4 hD0 (rfl))
def Km (s_ : Ao) (k0 : Nat) (a0 : Jk) (_ : Unit) : Rd (Bool) (Unit) (Unit) := (bif ((!(Zi s_.1 a0)) || (decide (a0.1 ≥ s_.2.2) || (decide (((k0 : Nat) : Int) > (0 : Int)) && decide ((nth s_.2.1 (Int.toNat (((k0 : Nat) : Int) - 1))).1 ≥ a0.1)))) then (.ret false) else (.next ()))
def Vw (_ : Nat) (_ : Unit) : Unit := ()
def Zu (s_ : Ao) : Bool := (Out.on (Yr (Km s_) Vw s_.2.1 0 ()) (fun _ => ((Y7 s_.1) && (decide ((s_.2.1.length : Int) ≤ (12 : Int)) && (Q9 s_.2.2 1 61)))))
theorem Bx (s_ : Ao) : ACalls Tryz.prog 80 [.a [.h s_.1, .h s_.2.1, .i s_.2.2]] (.b (Zu s_)) := by
 refine en Qa Tryz.func80 fun w0 F0 hG => ?_
 refine sn Qa [1, 2] [1] (p0) ?_
 refine Qc ?_
 refine tn Qa [1, 2, 6, 7, 8] [1] (pl 2 s_.2.1 p0) ?_
 refine mz [(1, .p 1 0), (2, .b false), (6, .h s_.2.1), (7, .i (s_.2.1.length : Int)), (8, .i 0)] [0] [(1, [.h s_.1, .h s_.2.1, .i s_.2.2])] [] ?_
 refine wT 6 0 .sh s_.2.1 (fun hw1 hl2 => ?_)
 refine Rb (Km s_) Vw s_.2.1 () (fun k0 _ => [(8, .i ((k0 : Nat) : Int))]) [8] (fun _ => []) [6, 7, 8] wf0 (fun k0 s0 hk0 hI0 => ?_) (fun k0 s0 hk0 hI0 => ?_) (fun y0 hD0 => ?_)
 ·
  obtain ⟨a0, hx0⟩ := Yp (l := s_.2.1) (i := k0) hk0
  refine sn Qa [1, 2, 6, 7, 8, 9] [1] (pe 0 (Q1 (decide_eq_true (p := ((k0 : Nat) : Int) < (s_.2.1.length : Int)) (by omega))) p0) ?_
  refine Qc ?_
  refine ckT ?_
  refine Qf ?_
  refine Qc ?_
  refine Qz ?_
  refine tn Qa [1, 2, 3, 4, 6, 7, 8] [1, 4] (pn 1 hx0 p0) ?_
  refine Qc ?_
  refine mz [(3, .i ((k0 : Nat) : Int)), (4, .p 4 0)] [] [(4, [.i a0.1, .i a0.2.1, .b a0.2.2.1, .i a0.2.2.2.1, .h a0.2.2.2.2])] [] ?_
  refine jn [(40, .b ((!(Zi s_.1 a0)) || (decide (a0.1 ≥ s_.2.2) || (decide (((k0 : Nat) : Int) > (0 : Int)) && decide ((nth s_.2.1 (Int.toNat (((k0 : Nat) : Int) - 1))).1 ≥ a0.1)))))] [3, 4] [] [4] (!(Zi s_.1 a0)) (fun h3 => ?_) (fun h3 => ?_) ?_
  ·
   have h3n : (Zi s_.1 a0) = false := Vp h3
   refine rN Qa Yz [1, 2, 6, 7, 8, 40] [1] (pc 3 (cb h3n (W7 s_.1 a0)) (pe 4 (show .b (!false) = .b true from rfl) p0)) ?_
   exact ⟨rfl, Qd (by rw [h3] <;> kernel_rfl)⟩
  ·
   have h3n : (Zi s_.1 a0) = true := Z4 h3
   refine Xo (decide (a0.1 ≥ s_.2.2)) (fun h4 => ?_) (fun h4 => ?_)
   ·
    refine rN Qa Yz [1, 2, 6, 7, 8, 40] [1] (pc 3 (cb h3n (W7 s_.1 a0)) (pe 4 (show .b (!true) = .b false from rfl) (pt 10 h4 p0))) ?_
    exact ⟨rfl, Qd (by rw [h3, h4] <;> kernel_rfl)⟩
   have h4d := of_decide_eq_false h4
   refine Xo (decide (((k0 : Nat) : Int) > (0 : Int))) (fun h5 => ?_) (fun h5 => ?_)
   ·
    have h5d := of_decide_eq_true h5
    have hx6 := ng s_.2.1 (Int.toNat (((k0 : Nat) : Int) - 1))
    refine rN Qa Yz [1, 2, 6, 7, 8, 40] [1] (pc 3 (cb h3n (W7 s_.1 a0)) (pe 4 (show .b (!true) = .b false from rfl) (pf 10 h4 (pt 14 h5 (pe 19 (Jq (IntWalk.i64_in (((k0 : Nat) : Int) - 1) (by omega))) (pg 20 (((k0 : Nat) : Int) - 1) hx6 p0)))))) ?_
    exact ⟨rfl, Qd (by rw [h3, h4, h5] <;> kernel_rfl)⟩
   refine rN Qa Yz [1, 2, 6, 7, 8, 40] [1] (pc 3 (cb h3n (W7 s_.1 a0)) (pe 4 (show .b (!true) = .b false from rfl) (pf 10 h4 (pf 14 h5 p0)))) ?_
   exact ⟨rfl, Qd (by rw [h3, h4, h5] <;> kernel_rfl)⟩
  refine ck ((!(Zi s_.1 a0)) || (decide (a0.1 ≥ s_.2.2) || (decide (((k0 : Nat) : Int) > (0 : Int)) && decide ((nth s_.2.1 (Int.toNat (((k0 : Nat) : Int) - 1))).1 ≥ a0.1)))) (fun h7 => ?_) (fun h7 => ?_)
  ·
   refine su Qa [] [40] [] [] (p0) ?_
   refine Qe ?_
   have hr8 : (Yr (Km s_) Vw s_.2.1 0 ()) = .ret false := Kb hx0 (Xh h7 (rfl)) hI0
   exact pb [] (Mo hr8)
  have h7r : ((decide (a0.1 ≥ s_.2.2) || (decide (((k0 : Nat) : Int) > (0 : Int)) && decide ((nth s_.2.1 (Int.toNat (((k0 : Nat) : Int) - 1))).1 ≥ a0.1)))) = false := KO h7
  have h7rl : (decide (a0.1 ≥ s_.2.2)) = false := KN h7r
  have h7rld := of_decide_eq_false h7rl
  refine Qf ?_
  refine rn Qa [1, 2, 6, 7, 8] [1] (pe 0 (Jq (Q4 k0 (by omega))) p0) ?_
  exact xw _ (Xp hx0 (Qj h7 (rfl)) hI0)
 ·
  refine sn Qa [1, 2, 6, 7, 8, 9] [1] (pe 0 (Q1 (decide_eq_false (p := ((k0 : Nat) : Int) < (s_.2.1.length : Int)) (by omega))) p0) ?_
  refine Qc ?_
  refine ckF ?_
  refine Xu ?_
  exact xw _ (Yq hk0 (rfl) hI0)
 refine Qc ?_
 refine jn [(2, .b ((Y7 s_.1) && (decide ((s_.2.1.length : Int) ≤ (12 : Int)) && (Q9 s_.2.2 1 61))))] [1, 2] [] [1] (Y7 s_.1) (fun h9 => ?_) (fun h9 => ?_) ?_
 ·
  refine Xo (decide ((s_.2.1.length : Int) ≤ (12 : Int))) (fun h10 => ?_) (fun h10 => ?_)
  ·
   refine rn Qa [2] [] (pc 2 (cb h9 (Vv s_.1)) (pl 6 s_.2.1 (pt 7 h10 (pc 12 (Za s_.2.2 1 61) p0)))) ?_
   exact ⟨rfl, Qd (by rw [h9, h10] <;> kernel_rfl)⟩
  refine rn Qa [2] [] (pc 2 (cb h9 (Vv s_.1)) (pl 6 s_.2.1 (pf 7 h10 p0))) ?_
  exact ⟨rfl, Qd (by rw [h9, h10] <;> kernel_rfl)⟩
 ·
  refine rn Qa [2] [] (pc 2 (cb h9 (Vv s_.1)) p0) ?_
  exact ⟨rfl, Qd (by rw [h9] <;> kernel_rfl)⟩
 refine Qe ?_
 exact pb [] (V4 hD0 (rfl))
def Am (name : ByteArray) (_ : Nat) (a0 : X9) (_ : Unit) : Rd (Int) (Unit) (Unit) := (bif (a0.1.toList == name.toList) then (.ret a0.2) else (.next ()))
def An (_ : Nat) (_ : Unit) : Unit := ()
def Hl (s_ : (List X9)) (name : ByteArray) : Int := (Out.on (Yr (Am name) An s_ 0 ()) (fun _ => 0))
theorem Pi (s_ : (List X9)) (name : ByteArray) : ACalls Tryz.prog 125 [.h s_, .s name] (.i (Hl s_ name)) := by
 refine en Qa Tryz.func125 fun w0 F0 hG => ?_
 refine sn Qa [0, 1, 4] [] (p0) ?_
 refine Qc ?_
 refine tn Qa [0, 1, 4, 5] [] (p0) ?_
 refine mz [(4, .i 0), (5, .i 0)] [] [] [] ?_
 refine wT 0 0 .sh s_ (fun hw1 hl2 => ?_)
 refine Rb (Am name) An s_ () (fun k0 _ => [(5, .i ((k0 : Nat) : Int))]) [5] (fun _ => []) [0, 1, 5] wf0 (fun k0 s0 hk0 hI0 => ?_) (fun k0 s0 hk0 hI0 => ?_) (fun y0 hD0 => ?_)
 ·
  obtain ⟨a0, hx0⟩ := Yp (l := s_) (i := k0) hk0
  refine Qc ?_
  refine sn Qa [0, 1, 4, 5, 9] [] (pl 2 s_ (pe 3 (Q1 (decide_eq_true (p := ((k0 : Nat) : Int) < (s_.length : Int)) (by omega))) p0)) ?_
  refine ckT ?_
  refine Qf ?_
  refine Qc ?_
  refine Qz ?_
  refine tn Qa [0, 1, 4, 5, 18] [] (pn 2 hx0 p0) ?_
  refine ck (a0.1.toList == name.toList) (fun h3 => ?_) (fun h3 => ?_)
  ·
   refine tu Qa [(4, .i a0.2)] [4] [] [] (pn 2 hx0 p0) ?_
   refine Qe ?_
   have hr4 : (Yr (Am name) An s_ 0 ()) = .ret a0.2 := Kb hx0 (Xh h3 (rfl)) hI0
   exact pi [] (Mo hr4)
  refine Qf ?_
  refine qu Qa [(5, .i ((k0 + 1 : Nat) : Int))] [5] [] [] (pe 1 (Jq (Q4 k0 (by omega))) p0) ?_
  exact xw _ (Xp hx0 (Qj h3 (rfl)) hI0)
 ·
  refine Qc ?_
  refine sn Qa [0, 1, 4, 5, 9] [] (pl 2 s_ (pe 3 (Q1 (decide_eq_false (p := ((k0 : Nat) : Int) < (s_.length : Int)) (by omega))) p0)) ?_
  refine ckF ?_
  refine Xu ?_
  exact xw _ (Yq hk0 (rfl) hI0)
 refine sn Qa [4] [] (p0) ?_
 refine Qe ?_
 exact pi [] (V4 hD0 (rfl))
def Zl (s_ : (List X9)) (name : ByteArray) (v : Z7) : Bool := ((Xg v) && ((v.1 != (0 : Int)) && (v.1 == (Hl s_ name))))
theorem Uv (s_ : (List X9)) (name : ByteArray) (v : Z7) : ACalls Tryz.prog 96 [.h s_, .s name, .a [.i v.1, .i v.2.1, .s v.2.2]] (.b (Zl s_ name v)) := by
 refine en Qa Tryz.func96 fun w0 F0 hG => ?_
 refine sn Qa [0, 1, 5, 6] [5] (p0) ?_
 refine Qc ?_
 refine mz [(5, .p 5 0), (6, .b false)] [2] [(5, [.i v.1, .i v.2.1, .s v.2.2])] [] ?_
 refine jn [(6, .b ((Xg v) && ((v.1 != (0 : Int)) && (v.1 == (Hl s_ name)))))] [0, 1, 5, 6] [] [5] (Xg v) (fun h1 => ?_) (fun h1 => ?_) ?_
 ·
  refine Xo (v.1 != (0 : Int)) (fun h2 => ?_) (fun h2 => ?_)
  ·
   refine rN Qa Yz [6] [] (pc 1 (cb h1 (Ya v)) (pt 5 h2 (pc 12 (Pi s_ name) p0))) ?_
   exact ⟨rfl, Qd (by rw [h1, h2] <;> kernel_rfl)⟩
  refine rN Qa Yz [6] [] (pc 1 (cb h1 (Ya v)) (pf 5 h2 p0)) ?_
  exact ⟨rfl, Qd (by rw [h1, h2] <;> kernel_rfl)⟩
 ·
  refine rN Qa Yz [6] [] (pc 1 (cb h1 (Ya v)) p0) ?_
  exact ⟨rfl, Qd (by rw [h1] <;> kernel_rfl)⟩
 refine Qe ?_
 exact pb [] (show Zl s_ name v = ((Xg v) && ((v.1 != (0 : Int)) && (v.1 == (Hl s_ name)))) from rfl)
def J9 (s_ : (List X9)) (k0 : Nat) (a0 : X9) (_ : Unit) : Rd (Bool) (Unit) (Unit) := (bif ((!(Xb a0.1)) || ((!(Xf a0.2 1 2)) || (decide (((k0 : Nat) : Int) > (0 : Int)) && (!(Op.bytesLess ((nth s_ (Int.toNat (((k0 : Nat) : Int) - 1))).1).toList a0.1.toList))))) then (.ret false) else (.next ()))
def Vi (_ : Nat) (_ : Unit) : Unit := ()
def Zx (s_ : (List X9)) : Bool := (Out.on (Yr (J9 s_) Vi s_ 0 ()) (fun _ => decide ((s_.length : Int) ≤ (5 : Int))))
theorem Z6 (s_ : (List X9)) : ACalls Tryz.prog 69 [.h s_] (.b (Zx s_)) := by
 refine en Qa Tryz.func69 fun w0 F0 hG => ?_
 refine sn Qa [0, 2] [] (p0) ?_
 refine Qc ?_
 refine tn Qa [0, 2, 3] [] (p0) ?_
 refine mz [(2, .b false), (3, .i 0)] [] [] [] ?_
 refine wT 0 0 .sh s_ (fun hw1 hl2 => ?_)
 refine Rb (J9 s_) Vi s_ () (fun k0 _ => [(3, .i ((k0 : Nat) : Int))]) [3] (fun _ => []) [3] wf0 (fun k0 s0 hk0 hI0 => ?_) (fun k0 s0 hk0 hI0 => ?_) (fun y0 hD0 => ?_)
 ·
  obtain ⟨a0, hx0⟩ := Yp (l := s_) (i := k0) hk0
  refine Qc ?_
  refine sn Qa [0, 2, 3, 7] [] (pl 2 s_ (pe 3 (Q1 (decide_eq_true (p := ((k0 : Nat) : Int) < (s_.length : Int)) (by omega))) p0)) ?_
  refine ckT ?_
  refine Qf ?_
  refine Qc ?_
  refine Qz ?_
  refine Qc ?_
  refine mz [(7, .b true)] [] [] [] ?_
  refine jn [(43, .b ((!(Xb a0.1)) || ((!(Xf a0.2 1 2)) || (decide (((k0 : Nat) : Int) > (0 : Int)) && (!(Op.bytesLess ((nth s_ (Int.toNat (((k0 : Nat) : Int) - 1))).1).toList a0.1.toList))))))] [7] [] [] (!(Xb a0.1)) (fun h3 => ?_) (fun h3 => ?_) ?_
  ·
   have h3n : (Xb a0.1) = false := Vp h3
   refine rN Qa Yz [0, 2, 3, 43] [] (pn 2 hx0 (pc 5 (cb h3n (Xq a0.1)) (pe 6 (show .b (!false) = .b true from rfl) p0))) ?_
   exact ⟨rfl, Qd (by rw [h3] <;> kernel_rfl)⟩
  ·
   have h3n : (Xb a0.1) = true := Z4 h3
   refine Xo (!(Xf a0.2 1 2)) (fun h4 => ?_) (fun h4 => ?_)
   ·
    have h4n : (Xf a0.2 1 2) = false := Vp h4
    refine rN Qa Yz [0, 2, 3, 43] [] (pn 2 hx0 (pc 5 (cb h3n (Xq a0.1)) (pe 6 (show .b (!true) = .b false from rfl) (pn 10 hx0 (pc 13 (cb h4n (Y2 a0.2 1 2)) (pe 14 (show .b (!false) = .b true from rfl) p0)))))) ?_
    exact ⟨rfl, Qd (by rw [h3, h4] <;> kernel_rfl)⟩
   have h4n : (Xf a0.2 1 2) = true := Z4 h4
   refine Xo (decide (((k0 : Nat) : Int) > (0 : Int))) (fun h5 => ?_) (fun h5 => ?_)
   ·
    have h5d := of_decide_eq_true h5
    have hx6 := ng s_ (Int.toNat (((k0 : Nat) : Int) - 1))
    refine rN Qa Yz [0, 2, 3, 43] [] (pn 2 hx0 (pc 5 (cb h3n (Xq a0.1)) (pe 6 (show .b (!true) = .b false from rfl) (pn 10 hx0 (pc 13 (cb h4n (Y2 a0.2 1 2)) (pe 14 (show .b (!true) = .b false from rfl) (pt 18 h5 (pe 22 (Jq (IntWalk.i64_in (((k0 : Nat) : Int) - 1) (by omega))) (pg 23 (((k0 : Nat) : Int) - 1) hx6 (pn 28 hx0 p0)))))))))) ?_
    exact ⟨rfl, Qd (by rw [h3, h4, h5] <;> kernel_rfl)⟩
   refine rN Qa Yz [0, 2, 3, 43] [] (pn 2 hx0 (pc 5 (cb h3n (Xq a0.1)) (pe 6 (show .b (!true) = .b false from rfl) (pn 10 hx0 (pc 13 (cb h4n (Y2 a0.2 1 2)) (pe 14 (show .b (!true) = .b false from rfl) (pf 18 h5 p0))))))) ?_
   exact ⟨rfl, Qd (by rw [h3, h4, h5] <;> kernel_rfl)⟩
  refine ck ((!(Xb a0.1)) || ((!(Xf a0.2 1 2)) || (decide (((k0 : Nat) : Int) > (0 : Int)) && (!(Op.bytesLess ((nth s_ (Int.toNat (((k0 : Nat) : Int) - 1))).1).toList a0.1.toList))))) (fun h7 => ?_) (fun h7 => ?_)
  ·
   refine sn Qa [0, 2, 3] [] (p0) ?_
   refine Qe ?_
   have hr8 : (Yr (J9 s_) Vi s_ 0 ()) = .ret false := Kb hx0 (Xh h7 (rfl)) hI0
   exact pb [] (Mo hr8)
  refine Qf ?_
  refine rn Qa [0, 2, 3] [] (pe 1 (Jq (Q4 k0 (by omega))) p0) ?_
  exact xw _ (Xp hx0 (Qj h7 (rfl)) hI0)
 ·
  refine Qc ?_
  refine sn Qa [0, 2, 3, 7] [] (pl 2 s_ (pe 3 (Q1 (decide_eq_false (p := ((k0 : Nat) : Int) < (s_.length : Int)) (by omega))) p0)) ?_
  refine ckF ?_
  refine Xu ?_
  exact xw _ (Yq hk0 (rfl) hI0)
 refine sn Qa [2] [] (pl 1 s_ p0) ?_
 refine Qe ?_
 exact pb [] (V4 hD0 (rfl))
def K5 (s_ : (List X9)) (f : Jk) (k0 : Nat) (a0 : Vc) (_ : Unit) : Rd (Bool) (Unit) (Unit) := (bif ((!(Zl s_ a0.1 a0.2)) || (decide (((k0 : Nat) : Int) > (0 : Int)) && (!(Op.bytesLess ((nth f.2.2.2.2 (Int.toNat (((k0 : Nat) : Int) - 1))).1).toList a0.1.toList)))) then (.ret false) else (.next ()))
def Wb (_ : Nat) (_ : Unit) : Unit := ()
def Jc (s_ : (List X9)) (f : Jk) : Bool := (Out.on (Yr (K5 s_ f) Wb f.2.2.2.2 0 ()) (fun _ => ((Zx s_) && ((Xf f.1 1 60) && ((Xf f.2.1 0 2) && (Xf f.2.2.2.1 0 60))))))
theorem W8 (s_ : (List X9)) (f : Jk) : ACalls Tryz.prog 68 [.h s_, .a [.i f.1, .i f.2.1, .b f.2.2.1, .i f.2.2.2.1, .h f.2.2.2.2]] (.b (Jc s_ f)) := by
 refine en Qa Tryz.func68 fun w0 F0 hG => ?_
 refine sn Qa [0, 3, 4] [3] (p0) ?_
 refine Qc ?_
 refine tn Qa [0, 3, 4, 5] [3] (p0) ?_
 refine mz [(3, .p 3 0), (4, .b false), (5, .i 0)] [1] [(3, [.i f.1, .i f.2.1, .b f.2.2.1, .i f.2.2.2.1, .h f.2.2.2.2])] [] ?_
 refine wB 3 4 .sh f.2.2.2.2 (fun hw1 hl2 => ?_)
 refine Rb (K5 s_ f) Wb f.2.2.2.2 () (fun k0 _ => [(5, .i ((k0 : Nat) : Int))]) [5] (fun _ => []) [5] wf0 (fun k0 s0 hk0 hI0 => ?_) (fun k0 s0 hk0 hI0 => ?_) (fun y0 hD0 => ?_)
 ·
  obtain ⟨a0, hx0⟩ := Yp (l := f.2.2.2.2) (i := k0) hk0
  refine Qc ?_
  refine sn Qa [0, 3, 4, 5, 10] [3] (pl 3 f.2.2.2.2 (pe 4 (Q1 (decide_eq_true (p := ((k0 : Nat) : Int) < (f.2.2.2.2.length : Int)) (by omega))) p0)) ?_
  refine ckT ?_
  refine Qf ?_
  refine Qc ?_
  refine Qz ?_
  refine Qc ?_
  refine mz [(10, .b true)] [] [] [] ?_
  refine jn [(47, .b ((!(Zl s_ a0.1 a0.2)) || (decide (((k0 : Nat) : Int) > (0 : Int)) && (!(Op.bytesLess ((nth f.2.2.2.2 (Int.toNat (((k0 : Nat) : Int) - 1))).1).toList a0.1.toList)))))] [10] [] [] (!(Zl s_ a0.1 a0.2)) (fun h3 => ?_) (fun h3 => ?_) ?_
  ·
   have h3n : (Zl s_ a0.1 a0.2) = false := Vp h3
   refine rN Qa Yz [0, 3, 4, 5, 47] [3] (pn 4 hx0 (pn 10 hx0 (pc 13 (cb h3n (Uv s_ a0.1 a0.2)) (pe 14 (show .b (!false) = .b true from rfl) p0)))) ?_
   exact ⟨rfl, Qd (by rw [h3] <;> kernel_rfl)⟩
  ·
   have h3n : (Zl s_ a0.1 a0.2) = true := Z4 h3
   refine Xo (decide (((k0 : Nat) : Int) > (0 : Int))) (fun h4 => ?_) (fun h4 => ?_)
   ·
    have h4d := of_decide_eq_true h4
    have hx5 := ng f.2.2.2.2 (Int.toNat (((k0 : Nat) : Int) - 1))
    refine rN Qa Yz [0, 3, 4, 5, 47] [3] (pn 4 hx0 (pn 10 hx0 (pc 13 (cb h3n (Uv s_ a0.1 a0.2)) (pe 14 (show .b (!true) = .b false from rfl) (pt 17 h4 (pe 22 (Jq (IntWalk.i64_in (((k0 : Nat) : Int) - 1) (by omega))) (pg 23 (((k0 : Nat) : Int) - 1) hx5 (pn 29 hx0 p0)))))))) ?_
    exact ⟨rfl, Qd (by rw [h3, h4] <;> kernel_rfl)⟩
   refine rN Qa Yz [0, 3, 4, 5, 47] [3] (pn 4 hx0 (pn 10 hx0 (pc 13 (cb h3n (Uv s_ a0.1 a0.2)) (pe 14 (show .b (!true) = .b false from rfl) (pf 17 h4 p0))))) ?_
   exact ⟨rfl, Qd (by rw [h3, h4] <;> kernel_rfl)⟩
  refine ck ((!(Zl s_ a0.1 a0.2)) || (decide (((k0 : Nat) : Int) > (0 : Int)) && (!(Op.bytesLess ((nth f.2.2.2.2 (Int.toNat (((k0 : Nat) : Int) - 1))).1).toList a0.1.toList)))) (fun h6 => ?_) (fun h6 => ?_)
  ·
   refine su Qa [] [47] [] [] (p0) ?_
   refine Qe ?_
   have hr7 : (Yr (K5 s_ f) Wb f.2.2.2.2 0 ()) = .ret false := Kb hx0 (Xh h6 (rfl)) hI0
   exact pb [] (Mo hr7)
  refine Qf ?_
  refine rn Qa [0, 3, 4, 5] [3] (pe 1 (Jq (Q4 k0 (by omega))) p0) ?_
  exact xw _ (Xp hx0 (Qj h6 (rfl)) hI0)
 ·
  refine Qc ?_
  refine sn Qa [0, 3, 4, 5, 10] [3] (pl 3 f.2.2.2.2 (pe 4 (Q1 (decide_eq_false (p := ((k0 : Nat) : Int) < (f.2.2.2.2.length : Int)) (by omega))) p0)) ?_
  refine ckF ?_
  refine Xu ?_
  exact xw _ (Yq hk0 (rfl) hI0)
 refine Qc ?_
 refine jn [(4, .b ((Zx s_) && ((Xf f.1 1 60) && ((Xf f.2.1 0 2) && (Xf f.2.2.2.1 0 60)))))] [0, 3, 4] [] [3] (Zx s_) (fun h8 => ?_) (fun h8 => ?_) ?_
 ·
  refine Xo (Xf f.1 1 60) (fun h9 => ?_) (fun h9 => ?_)
  ·
   refine Xo (Xf f.2.1 0 2) (fun h10 => ?_) (fun h10 => ?_)
   ·
    refine rn Qa [4] [] (pc 1 (cb h8 (Z6 s_)) (pc 5 (cb h9 (Y2 f.1 1 60)) (pc 10 (cb h10 (Y2 f.2.1 0 2)) (pc 15 (Y2 f.2.2.2.1 0 60) p0)))) ?_
    exact ⟨rfl, Qd (by rw [h8, h9, h10] <;> kernel_rfl)⟩
   refine rn Qa [4] [] (pc 1 (cb h8 (Z6 s_)) (pc 5 (cb h9 (Y2 f.1 1 60)) (pc 10 (cb h10 (Y2 f.2.1 0 2)) p0))) ?_
   exact ⟨rfl, Qd (by rw [h8, h9, h10] <;> kernel_rfl)⟩
  refine rn Qa [4] [] (pc 1 (cb h8 (Z6 s_)) (pc 5 (cb h9 (Y2 f.1 1 60)) p0)) ?_
  exact ⟨rfl, Qd (by rw [h8, h9] <;> kernel_rfl)⟩
 ·
  refine rn Qa [4] [] (pc 1 (cb h8 (Z6 s_)) p0) ?_
  exact ⟨rfl, Qd (by rw [h8] <;> kernel_rfl)⟩
 refine Qe ?_
 exact pb [] (V4 hD0 (rfl))
def Kn (s_ : Ao) (k0 : Nat) (a0 : Jk) (_ : Unit) : Rd (Bool) (Unit) (Unit) := (bif ((!(Jc s_.1 a0)) || (decide (a0.1 ≥ s_.2.2) || (decide (((k0 : Nat) : Int) > (0 : Int)) && decide ((nth s_.2.1 (Int.toNat (((k0 : Nat) : Int) - 1))).1 ≥ a0.1)))) then (.ret false) else (.next ()))
def Vx (_ : Nat) (_ : Unit) : Unit := ()
def J5 (s_ : Ao) : Bool := (Out.on (Yr (Kn s_) Vx s_.2.1 0 ()) (fun _ => ((Zx s_.1) && (decide ((s_.2.1.length : Int) ≤ (12 : Int)) && (Xf s_.2.2 1 61)))))
theorem By (s_ : Ao) : ACalls Tryz.prog 46 [.a [.h s_.1, .h s_.2.1, .i s_.2.2]] (.b (J5 s_)) := by
 refine en Qa Tryz.func46 fun w0 F0 hG => ?_
 refine sn Qa [1, 2] [1] (p0) ?_
 refine Qc ?_
 refine tn Qa [1, 2, 3] [1] (p0) ?_
 refine mz [(1, .p 1 0), (2, .b false), (3, .i 0)] [0] [(1, [.h s_.1, .h s_.2.1, .i s_.2.2])] [] ?_
 refine wB 1 1 .sh s_.2.1 (fun hw1 hl2 => ?_)
 refine Rb (Kn s_) Vx s_.2.1 () (fun k0 _ => [(3, .i ((k0 : Nat) : Int))]) [3] (fun _ => []) [3] wf0 (fun k0 s0 hk0 hI0 => ?_) (fun k0 s0 hk0 hI0 => ?_) (fun y0 hD0 => ?_)
 ·
  obtain ⟨a0, hx0⟩ := Yp (l := s_.2.1) (i := k0) hk0
  refine Qc ?_
  refine sn Qa [1, 2, 3, 8] [1] (pl 3 s_.2.1 (pe 4 (Q1 (decide_eq_true (p := ((k0 : Nat) : Int) < (s_.2.1.length : Int)) (by omega))) p0)) ?_
  refine ckT ?_
  refine Qf ?_
  refine Qc ?_
  refine Qz ?_
  refine Qc ?_
  refine mz [(8, .b true)] [] [] [] ?_
  refine jn [(50, .b ((!(Jc s_.1 a0)) || (decide (a0.1 ≥ s_.2.2) || (decide (((k0 : Nat) : Int) > (0 : Int)) && decide ((nth s_.2.1 (Int.toNat (((k0 : Nat) : Int) - 1))).1 ≥ a0.1)))))] [8] [] [] (!(Jc s_.1 a0)) (fun h3 => ?_) (fun h3 => ?_) ?_
  ·
   have h3n : (Jc s_.1 a0) = false := Vp h3
   refine rN Qa Yz [1, 2, 3, 50] [1] (pn 5 hx0 (pc 7 (cb h3n (W8 s_.1 a0)) (pe 8 (show .b (!false) = .b true from rfl) p0))) ?_
   exact ⟨rfl, Qd (by rw [h3] <;> kernel_rfl)⟩
  ·
   have h3n : (Jc s_.1 a0) = true := Z4 h3
   refine Xo (decide (a0.1 ≥ s_.2.2)) (fun h4 => ?_) (fun h4 => ?_)
   ·
    refine rN Qa Yz [1, 2, 3, 50] [1] (pn 5 hx0 (pc 7 (cb h3n (W8 s_.1 a0)) (pe 8 (show .b (!true) = .b false from rfl) (pn 13 hx0 (pt 18 h4 p0))))) ?_
    exact ⟨rfl, Qd (by rw [h3, h4] <;> kernel_rfl)⟩
   have h4d := of_decide_eq_false h4
   refine Xo (decide (((k0 : Nat) : Int) > (0 : Int))) (fun h5 => ?_) (fun h5 => ?_)
   ·
    have h5d := of_decide_eq_true h5
    have hx6 := ng s_.2.1 (Int.toNat (((k0 : Nat) : Int) - 1))
    refine rN Qa Yz [1, 2, 3, 50] [1] (pn 5 hx0 (pc 7 (cb h3n (W8 s_.1 a0)) (pe 8 (show .b (!true) = .b false from rfl) (pn 13 hx0 (pf 18 h4 (pt 22 h5 (pe 27 (Jq (IntWalk.i64_in (((k0 : Nat) : Int) - 1) (by omega))) (pg 28 (((k0 : Nat) : Int) - 1) hx6 (pn 34 hx0 p0))))))))) ?_
    exact ⟨rfl, Qd (by rw [h3, h4, h5] <;> kernel_rfl)⟩
   refine rN Qa Yz [1, 2, 3, 50] [1] (pn 5 hx0 (pc 7 (cb h3n (W8 s_.1 a0)) (pe 8 (show .b (!true) = .b false from rfl) (pn 13 hx0 (pf 18 h4 (pf 22 h5 p0)))))) ?_
   exact ⟨rfl, Qd (by rw [h3, h4, h5] <;> kernel_rfl)⟩
  refine ck ((!(Jc s_.1 a0)) || (decide (a0.1 ≥ s_.2.2) || (decide (((k0 : Nat) : Int) > (0 : Int)) && decide ((nth s_.2.1 (Int.toNat (((k0 : Nat) : Int) - 1))).1 ≥ a0.1)))) (fun h7 => ?_) (fun h7 => ?_)
  ·
   refine su Qa [] [50] [] [] (p0) ?_
   refine Qe ?_
   have hr8 : (Yr (Kn s_) Vx s_.2.1 0 ()) = .ret false := Kb hx0 (Xh h7 (rfl)) hI0
   exact pb [] (Mo hr8)
  have h7r : ((decide (a0.1 ≥ s_.2.2) || (decide (((k0 : Nat) : Int) > (0 : Int)) && decide ((nth s_.2.1 (Int.toNat (((k0 : Nat) : Int) - 1))).1 ≥ a0.1)))) = false := KO h7
  have h7rl : (decide (a0.1 ≥ s_.2.2)) = false := KN h7r
  have h7rld := of_decide_eq_false h7rl
  refine Qf ?_
  refine rn Qa [1, 2, 3] [1] (pe 1 (Jq (Q4 k0 (by omega))) p0) ?_
  exact xw _ (Xp hx0 (Qj h7 (rfl)) hI0)
 ·
  refine Qc ?_
  refine sn Qa [1, 2, 3, 8] [1] (pl 3 s_.2.1 (pe 4 (Q1 (decide_eq_false (p := ((k0 : Nat) : Int) < (s_.2.1.length : Int)) (by omega))) p0)) ?_
  refine ckF ?_
  refine Xu ?_
  exact xw _ (Yq hk0 (rfl) hI0)
 refine Qc ?_
 refine jn [(2, .b ((Zx s_.1) && (decide ((s_.2.1.length : Int) ≤ (12 : Int)) && (Xf s_.2.2 1 61))))] [1, 2] [] [1] (Zx s_.1) (fun h9 => ?_) (fun h9 => ?_) ?_
 ·
  refine Xo (decide ((s_.2.1.length : Int) ≤ (12 : Int))) (fun h10 => ?_) (fun h10 => ?_)
  ·
   refine rn Qa [2] [] (pc 2 (cb h9 (Z6 s_.1)) (pl 6 s_.2.1 (pt 7 h10 (pc 12 (Y2 s_.2.2 1 61) p0)))) ?_
   exact ⟨rfl, Qd (by rw [h9, h10] <;> kernel_rfl)⟩
  refine rn Qa [2] [] (pc 2 (cb h9 (Z6 s_.1)) (pl 6 s_.2.1 (pf 7 h10 p0))) ?_
  exact ⟨rfl, Qd (by rw [h9, h10] <;> kernel_rfl)⟩
 ·
  refine rn Qa [2] [] (pc 2 (cb h9 (Z6 s_.1)) p0) ?_
  exact ⟨rfl, Qd (by rw [h9] <;> kernel_rfl)⟩
 refine Qe ?_
 exact pb [] (V4 hD0 (rfl))
theorem RQ (s : List X9) (n : ByteArray) : Hl s n = Vu s n := rfl
theorem Rf (s : List X9) (n : ByteArray) (v : Z7) : Zl s n v = Yu s n v := by
  unfold Zl Yu
  rw [DP, RQ]
theorem YU (s : List X9) : Zx s = Y7 s := by
  unfold Zx Y7
  rw [Er (f := J9 s) (g := J8 s) (e := Vi) (e' := Vh) (fun k a u => by
    unfold J9 J8
    rw [M9]
    have h : (!(Xf a.2 1 2)) = ((a.2 != 1) && (a.2 != 2)) := by
      unfold Xf
      rw [Bool.eq_iff_iff]; simp; omega
    rw [h]
    generalize (!(Op.bytesLess ((nth s (Int.toNat (((k : Nat) : Int) - 1))).1).toList a.1.toList)) = x
    cases Xb a.1 <;> cases (a.2 != (1 : Int)) <;> cases (a.2 != (2 : Int)) <;> cases decide (((k : Nat) : Int) > (0 : Int)) <;> cases x <;> rfl) (fun _ _ => rfl)]
theorem RR (s : List X9) (f : Jk) : Jc s f = Zi s f := by
  unfold Jc Zi
  rw [Er (f := K5 s f) (g := K4 s f) (e := Wb) (e' := Wa) (fun k a u => by
    unfold K5 K4
    rw [Rf]
    generalize (!(Op.bytesLess ((nth f.2.2.2.2 (Int.toNat (((k : Nat) : Int) - 1))).1).toList a.1.toList)) = x
    cases Yu s a.1 a.2 <;> cases decide (((k : Nat) : Int) > (0 : Int)) <;> cases x <;> rfl) (fun _ _ => rfl), YU]
  congr 1
  funext y
  unfold H0
  simp only [← Ow]
  cases Y7 s <;> cases Q9 f.1 1 60 <;> cases Q9 f.2.1 0 2 <;> cases Q9 f.2.2.2.1 0 60 <;> rfl
theorem LP (s : Ao) : J5 s = Zu s := by
  unfold J5 Zu
  rw [Er (f := Kn s) (g := Km s) (e := Vx) (e' := Vw) (fun k a u => by
    unfold Kn Km
    rw [RR]) (fun _ _ => rfl), YU]
  rfl
theorem T7 {n : ByteArray} (h : Qs n = true) : n.size = 1 := by
  unfold Qs at h
  simp only [Bool.and_eq_true, beq_iff_eq] at h
  omega
theorem Qad {n : ByteArray} (h : Xb n = true) : n.size = 1 := T7 ((M9 n).trans h)
theorem Lk {s : Int} {c : Int} (h0 : 0 ≤ s) (h1 : s ≤ 65520) (c0 : 0 ≤ c) (c1 : c ≤ 255) : 0 ≤ Int.tmod (IntKind.i64.wrap (IntKind.i64.wrap (33 * s) + IntKind.i64.wrap c)) 65521 ∧ Int.tmod (IntKind.i64.wrap (IntKind.i64.wrap (33 * s) + IntKind.i64.wrap c)) 65521 ≤ 65520 := by
  rw [IntWalk.i64_in (33 * s) (by omega), IntWalk.i64_in c (by omega), IntWalk.i64_in (33 * s + c) (by omega)]
  rw [Int.tmod_eq_emod_of_nonneg (by omega)]
  omega
theorem KZ {s : Int} {c : Int} (h0 : 0 ≤ s) (h1 : s ≤ 65520) (c0 : 0 ≤ c) (c1 : c ≤ 255) : 0 ≤ Int.tmod (IntKind.i64.wrap (IntKind.i64.wrap (s * 33) + IntKind.i64.wrap c)) 65521 ∧ Int.tmod (IntKind.i64.wrap (IntKind.i64.wrap (s * 33) + IntKind.i64.wrap c)) 65521 ≤ 65520 := by
  rw [Int.mul_comm s 33]
  exact Lk h0 h1 c0 c1
theorem G9 (s : ByteArray) (i : Int) : 0 ≤ Yt s i ∧ Yt s i ≤ 255 := by
  unfold Yt
  have := (s.data.toList.getD i.toNat 0).toNat_lt
  omega
open GoD (rd own)
def inR (n lo hi : Int) : Bool := decide (lo ≤ n) && decide (n ≤ hi)
theorem Ng {n lo hi : Int} (h1 : lo ≤ n) (h2 : n ≤ hi) : inR n lo hi = true := by simp [inR, h1, h2]
theorem Qae {n lo hi : Int} (h : ¬ lo ≤ n) : inR n lo hi = false := by simp [inR, h]
theorem Qaf {n lo hi : Int} (h : ¬ n ≤ hi) : inR n lo hi = false := by simp [inR, h]
theorem LQ (w : World) (n lo hi : Int) : Calls Tryz.prog 57 #[.int .i64 n, .int .i64 lo, .int .i64 hi] w (Ret w (.bool (inR n lo hi))) := by
  by_cases h1 : lo ≤ n
  · by_cases h2 : n ≤ hi
    · rw [Ng h1 h2]
      go_enter Tryz.func57, Tryz.ntmps57
      go_wp2
      go_ret
      exact ⟨rfl, Below.refl _ _⟩
    rw [Qaf h2]
    go_enter Tryz.func57, Tryz.ntmps57
    go_wp2
    go_ret
    exact ⟨rfl, Below.refl _ _⟩
  rw [Qae h1]
  go_enter Tryz.func57, Tryz.ntmps57
  go_wp2
  go_ret
  exact ⟨rfl, Below.refl _ _⟩
theorem T8 (w : World) (n lo hi : Int) (r : Bool) (h : inR n lo hi = r) : Calls Tryz.prog 57 #[.int .i64 n, .int .i64 lo, .int .i64 hi] w (Ret w (.bool r)) := h ▸ LQ w n lo hi
end
section
open Go.RowKit
open GoD (rd own)
theorem LR (w : World) (k : Nat) (os : Array Obj) : Below w.heap.size w (Go.Sort.grow (w.drewN k) os) :=
  ⟨rfl, rfl, rfl, by rw [Go.Sort.size_grow]; exact Nat.le_add_right _ _, fun j hj => by
    unfold Go.Sort.grow
    rw [Array.getElem?_append, if_pos (by exact hj)]
    rfl⟩
theorem LS (w : World) (d : Nat) (hd : d < 10) : Calls Tryz.prog 48 #[.int .i64 d] w (Ret w (.int .u8 (48 + (d : Int)))) := by
  have h1 : (d : Int) < 10 := by omega
  have h2 : IntKind.i64.wrap (48 + (d : Int)) = 48 + (d : Int) := by rw [IntKind.wrap_i64]; omega
  go_enter Tryz.func48, Tryz.ntmps48
  go_wp2
  go_ret
  exact ⟨rfl, Below.refl _ _⟩
def tabOk (w : World) : Prop := Lib.TabIs Tryz.prog w "internal/strconv.uint64pow10" .u64 Lib.pow10Tab
theorem Qbr : Tryz.prog.globalNamed "internal/strconv.uint64pow10" = some 3 := by kernel_rfl
theorem tabOk.keep {w w' : World} (h : tabOk w) (hb : Below w.heap.size w w') : tabOk w' := Go.Joins.tab_stays Qbr h hb (Nat.le_refl _)
def Qq (n : Int) : ByteArray := ⟨(Lib.itoa n).toArray⟩
theorem Bi (w : World) (n : Int) (hn : I64 n) (ht : tabOk w) : Calls Tryz.prog 58 #[.int .i64 n] w (Ret w (.string (Qq n))) := by
  have hcon := Sh.strconv_Itoa n hn.1 hn.2 w ht
  rw [show (⟨(Lib.itoa n).toArray⟩ : ByteArray) = Qq n from rfl] at hcon
  generalize Qq n = s at *
  clear ht hn
  go_enter Tryz.func58, Tryz.ntmps58
  go_wp2_with (go_at_call 82; refine hcon.mono ?_; rintro e w' ⟨rfl, k, os, rfl⟩; have hb := LR w k os; generalize Go.Sort.grow (w.drewN k) os = w9 at *)
  go_ret
  exact ⟨rfl, hb⟩
theorem VB : ∀ (k u : Nat), u < 10 ^ (k + 1) → (Lib.decDigits u).length ≤ k + 1
  | 0, u, h => by rw [Lib.decDigits, dif_pos (by simpa using h)]; simp
  | k + 1, u, h => by
    rw [Lib.decDigits]
    split
    · simp
    have := VB k (u / 10) (by rw [Nat.pow_succ] at h; omega)
    simp only [List.length_append, List.length_singleton]
    omega
theorem YV {n : Int} (h : inR n 0 1000000000 = true) : (Qq n).size ≤ 10 := by
  unfold inR at h
  simp only [Bool.and_eq_true, decide_eq_true_eq] at h
  have h1 := VB 9 n.toNat (by omega)
  unfold Qq Lib.itoa
  rw [if_neg (by omega)]
  show (Lib.decDigits n.toNat).toArray.size ≤ 10
  simp only [List.size_toArray]
  omega
theorem Nh {n : Nat} (h : ¬ n < 10) : Lib.decDigits n = Lib.decDigits (n / 10) ++ [UInt8.ofNat (48 + n % 10)] := by rw [Lib.decDigits, dif_neg h]
theorem Ec {n : Nat} (h : n < 10) : Lib.decDigits n = [UInt8.ofNat (48 + n)] := by rw [Lib.decDigits, dif_pos h]
def F6 (n : Nat) : List UInt8 := if n = 0 then [] else Lib.decDigits n
theorem EM {n : Nat} (h : n ≠ 0) (t : List UInt8) : F6 (n / 10) ++ (UInt8.ofNat (48 + n % 10) :: t) = F6 n ++ t := by
  unfold F6
  rw [if_neg h]
  by_cases h10 : n < 10
  · rw [if_pos (by omega), Ec h10, show n % 10 = n by omega]; rfl
  rw [if_neg (by omega), Nh h10]; simp
theorem LT (d : Nat) (hd : d < 10) (s : ByteArray) : (⟨#[UInt8.ofNat (48 + d)]⟩ : ByteArray) ++ s = ⟨(UInt8.ofNat (48 + d) :: s.data.toList).toArray⟩ := by
  apply ByteArray.ext
  rw [ByteArray.data_append]
  apply Array.toList_inj.1
  simp
set_option maxRecDepth 20000 in
theorem Pj (w : World) (n : Int) (hn : I64 n) (hr : inR n 0 1000000000 = true) : Calls Tryz.prog 29 #[.int .i64 n] w (Ret w (.string (Qq n))) := by
  unfold inR at hr
  simp only [Bool.and_eq_true, decide_eq_true_eq] at hr
  obtain ⟨m, rfl⟩ : ∃ m : Nat, n = m := ⟨n.toNat, by omega⟩
  have hm : m < 2000000000 := by omega
  clear hr hn
  have hnum : Qq (m : Int) = ⟨(Lib.decDigits m).toArray⟩ := by
    unfold Qq Lib.itoa
    rw [if_neg (by omega)]
    rfl
  generalize Qq (m : Int) = res at *
  have HRES := Lib.hid hnum; clear hnum
  by_cases h0 : m = 0
  · subst h0
    have hr : res = ⟨#[48]⟩ := by rw [HRES.out, Ec (by omega)]; rfl
    subst hr
    clear HRES
    go_enter Tryz.func29, Tryz.ntmps29
    go_wp2
    go_ret
    exact ⟨rfl, Below.refl _ _⟩
  have hm0 : ¬ ((m : Int) = 0) := by omega
  have hm1 : ¬ ((m : Int) < 0) := by omega
  go_enter Tryz.func29, Tryz.ntmps29
  go_wp2
  go_loopw [0, 4] (fun i s wr => ∃ (k : Nat) (t : ByteArray), k < 2000000000 ∧ i = .int .i64 k ∧ s = .string t ∧ t.size ≤ 2000000000 - k ∧ Below w.heap.size w wr ∧ Hid (F6 k ++ t.data.toList = Lib.decDigits m)) (fun i _ _ => (intOf i).toNat)
  case atStart => exact ⟨m, ⟨#[]⟩, hm, rfl, rfl, by simp [ByteArray.size], Below.refl _ _, Lib.hid (by unfold F6; rw [if_neg h0]; simp)⟩
  case round =>
    obtain ⟨k, t, hk, rfl, rfl, hts, hB, hd⟩ := hrel
    by_cases hk0 : k = 0
    · subst hk0
      have hrt : res = t := by
        have h1 := hd.out
        unfold F6 at h1
        rw [if_pos rfl, List.nil_append] at h1
        rw [HRES.out, ← h1]
      subst hrt
      clear HRES hd
      go_wp2
      go_ret
      exact ⟨rfl, hB⟩
    have hk1 : ¬ ((k : Int) = 0) := by omega
    have hd10 : k % 10 < 10 := Nat.mod_lt _ (by decide)
    have hd0 : ¬ ((k : Int) % 10 < 0) := by omega
    have hcv : ∀ g : World, (convert 99 9 (.slice (some ⟨g.heap.size, 0, none⟩) 1 1)).run Tryz.prog (g.alloc (.cells #[.int .u8 (48 + (k : Int) % 10)] 5)) = .ok (.string ⟨#[UInt8.ofNat (48 + k % 10)]⟩) (g.alloc (.cells #[.int .u8 (48 + (k : Int) % 10)] 5)) := fun g => by
      have h := Lib.run_convert_whole (P := Tryz.prog) (g.alloc (.cells #[.int .u8 (48 + (k : Int) % 10)] 5)) 99 5 9 Tryz.underlying99 Tryz.underlying5 Tryz.underlying9 g.heap.size 0 ⟨#[UInt8.ofNat (48 + k % 10)]⟩ (fun i hi => by
        have hi0 : i = 0 := by have : i < 1 := hi; omega
        subst hi0
        have he : (48 + (k : Int) % 10) = ((UInt8.ofNat (48 + k % 10)).toNat : Int) := by rw [UInt8.toNat_ofNat']; omega
        show (g.alloc _).cell? ⟨g.heap.size, 0 + 0, none⟩ = some (.int .u8 ((UInt8.ofNat (48 + k % 10)).toNat : Int))
        rw [← he]
        simp [go_sem]) 1
      exact h
    go_wp2_with (go_at_call 48; have hfg := (fun w1 => LS w1 (k % 10) hd10); rw [show (((k % 10 : Nat)) : Int) = (k : Int) % 10 by omega] at hfg; refine Ek (w := w) (hfg _) (by go_grown) ?_; clear hfg; intro g1 hG1 hb hz1 hz2; clear hb)
    go_roundw
    case rel => exact ⟨k / 10, ⟨#[UInt8.ofNat (48 + k % 10)]⟩ ++ t, by omega, by first | rfl | go_num, by rw [UInt8.ofNat_add]; rfl, by rw [ByteArray.size_append]; have : (⟨#[UInt8.ofNat (48 + k % 10)]⟩ : ByteArray).size = 1 := rfl; omega, by go_grown, Lib.hid (by rw [LT _ hd10]; show F6 (k / 10) ++ (UInt8.ofNat (48 + k % 10) :: t.data.toList) = _; rw [EM hk0]; exact hd.out)⟩
    case measure => simp [intOf]; omega
section
variable {P : Program}
theorem Ff {f : Nat} (hok : Br P f) {n : Int} {s : ByteArray} (hs : s.size ≤ maxLen) (h : ∀ w, Good P w → I64 n → Calls P f #[.int .i64 n] w (Ret w (.string s))) : ACalls P f [.i n] (.s s) := by
  refine ⟨hok, fun w hg F vals hF hall => ?_⟩
  cases hall with
  | cons h1 h2 =>
    cases h2
    obtain ⟨rfl, hi⟩ := h1
    refine (h w hg ((Dr n).1 hi)).mono ?_
    rintro e w' ⟨rfl, hb⟩
    exact ⟨_, fun _ => [], rfl, hb, fun _ => List.nodup_nil, fun k b hm => by simp at hm, fun k k' b hm => by simp at hm, rfl, hs⟩
end
theorem Zf {n : Int} (h : 0 ≤ n ∧ n ≤ 1000000000) : (Qq n).size ≤ 10 := YV (Ng h.1 h.2)
theorem Ko (n : Int) (h : 0 ≤ n ∧ n ≤ 1000000000) : ACalls Tryz.prog 58 [.i n] (.s (Qq n)) := Ff (by unfold Br; kernel_rfl) (by have := Zf h; unfold maxLen; omega) fun w hg hn => Bi w n hn (hg.tab _ Qbr)
theorem Jt (n : Int) (h : 0 ≤ n ∧ n ≤ 1000000000) : ACalls Tryz.prog 29 [.i n] (.s (Qq n)) := Ff (by unfold Br; kernel_rfl) (by have := Zf h; unfold maxLen; omega) fun w _ hn => Pj w n hn (Ng h.1 h.2)
end
section
open Go.RowKit
theorem VD {s c : Int} {k : Nat} (h0 : 0 ≤ s) (h1 : s < 10 ^ k) (hk : k ≤ 9) (c0 : 48 ≤ c) (c1 : c ≤ 57) :
    IntKind.i64.wrap (IntKind.i64.wrap (IntKind.i64.wrap (10 * s) + IntKind.i64.wrap c) - 48) = 10 * s + (c - 48) ∧ 0 ≤ 10 * s + (c - 48) ∧ 10 * s + (c - 48) < 10 ^ (k + 1) := by
  have hp : (10 : Int) ^ k ≤ 10 ^ 9 := by exact_mod_cast Nat.pow_le_pow_right (n := 10) (by decide) hk
  have e9 : (10 : Int) ^ 9 = 1000000000 := by decide
  have e1 : (10 : Int) ^ (k + 1) = 10 * 10 ^ k := by rw [Int.pow_succ]; omega
  rw [IntWalk.i64_in (10 * s) (by omega), IntWalk.i64_in c (by omega), IntWalk.i64_in (10 * s + c) (by omega), IntWalk.i64_in _ (by omega), e1]
  omega
theorem RS {c : Int} (h : 0 ≤ c ∧ c ≤ 255) (hw : Q9 (IntKind.i64.wrap c) 32 126 = true) : 32 ≤ c ∧ c ≤ 126 := by
  rw [IntWalk.i64_in c (by omega)] at hw
  exact Jn.1 hw
theorem LU {s : ByteArray} (h : ∀ j : Nat, j < s.size → Yt s (j : Int) ≤ 126) : ∀ (j : Nat) (b : UInt8), s.data.toList[j]? = some b → b.toNat < 128 := fun j b hb => by
  have hl := (List.getElem?_eq_some_iff.1 hb).1
  have hs : s.data.toList.length = s.size := Array.length_toList
  have h1 := h j (by omega)
  unfold Yt at h1
  rw [Int.toNat_natCast, List.getD_eq_getElem?_getD, hb] at h1
  simp only [Option.getD_some] at h1
  omega
def Pk (c : UInt8) : List UInt8 → List (List UInt8)
  | [] => [[]]
  | b :: l => if b = c then [] :: Pk c l else match Pk c l with
    | [] => [[b]]
    | p :: ps => (b :: p) :: ps
theorem Pm (c : UInt8) : ∀ l : List UInt8, ∃ p ps, Pk c l = p :: ps
  | [] => ⟨[], [], rfl⟩
  | b :: l => by
    obtain ⟨p, ps, h⟩ := Pm c l
    simp only [Pk, h]
    split
    · exact ⟨_, _, rfl⟩
    exact ⟨_, _, rfl⟩
theorem Sr (c : UInt8) : ∀ l : List UInt8, Lib.splitK [c] 0 (l.count c) l = Pk c l
  | [] => rfl
  | b :: l => by
    have ih := Sr c l
    by_cases h : b = c
    · subst h
      rw [List.count_cons_self]
      have hix : Lib.index (b :: l) [b] = 0 := by rw [Lib.index]; simp [List.isPrefixOf]
      rw [Lib.splitK, hix, Pk, if_pos rfl, ← ih]
      rfl
    rw [List.count_cons_of_ne (by simpa using h), Pk, if_neg h, ← ih]
    have hp : ([c] : List UInt8).isPrefixOf (b :: l) = false := by simp [List.isPrefixOf, Ne.symm h]
    have hix : Lib.index (b :: l) [c] = if Lib.index l [c] == -1 then -1 else Lib.index l [c] + 1 := by rw [Lib.index, hp]; simp
    cases hk : l.count c with
    | zero => rfl
    | succ k =>
      have hge := Lib.index_ge l [c]
      simp only [Lib.splitK]
      by_cases hm : Lib.index l [c] = -1
      · rw [hix, hm]; rfl
      rw [hix, if_neg (fun e => hm (beq_iff_eq.1 e))]
      obtain ⟨j, hj⟩ : ∃ j : Nat, Lib.index l [c] = j := ⟨(Lib.index l [c]).toNat, by omega⟩
      rw [hj, if_neg (by simp; omega), if_neg (by simp)]
      have e1 : ((j : Int) + 1).toNat = j + 1 := by omega
      have e2 : ((j : Nat) : Int).toNat = j := by omega
      simp only [e1, e2, Nat.add_zero, List.length_cons, List.length_nil]
      rfl
def Wk (l : List UInt8) : ByteArray := ⟨l.toArray⟩
theorem Kf (s : ByteArray) : Wk s.data.toList = s := by cases s; simp [Wk]
def Qm (c : UInt8) (s : ByteArray) : List ByteArray := (Pk c s.data.toList).map Wk
theorem YW (c : UInt8) (s : ByteArray) : Lib.splitB ⟨#[c]⟩ 0 (Lib.countB s ⟨#[c]⟩) s = Qm c s := by
  have h := Lib.splitB_data ⟨#[c]⟩ 0 (Lib.countB s ⟨#[c]⟩) s
  have e : Lib.countB s ⟨#[c]⟩ = s.data.toList.count c := Lib.count_one c s.data.toList
  rw [e] at h ⊢
  rw [show (⟨#[c]⟩ : ByteArray).data.toList = [c] from rfl, Sr] at h
  unfold Qm
  rw [← h, List.map_map]
  rw [show (Wk ∘ fun x : ByteArray => x.data.toList) = id from funext Kf, List.map_id]
theorem UJ (c : UInt8) : ∀ l : List UInt8, (Pk c l).length ≤ l.length + 1 ∧ ∀ p, p ∈ Pk c l → p.length ≤ l.length
  | [] => ⟨Nat.le_refl _, fun p hp => by rw [List.mem_singleton.1 hp]; exact Nat.le_refl _⟩
  | b :: l => by
    obtain ⟨h1, h2⟩ := UJ c l
    obtain ⟨p0, ps, h⟩ := Pm c l
    simp only [Pk]
    split
    · refine ⟨Nat.succ_le_succ h1, fun p hp => ?_⟩
      rcases List.mem_cons.1 hp with rfl | hp
      · exact Nat.zero_le _
      exact Nat.le_succ_of_le (h2 p hp)
    rw [h] at h1 h2 ⊢
    refine ⟨Nat.le_succ_of_le h1, fun p hp => ?_⟩
    rcases List.mem_cons.1 hp with rfl | hp
    · exact Nat.succ_le_succ (h2 p0 (List.mem_cons_self ..))
    exact Nat.le_succ_of_le (h2 p (List.mem_cons_of_mem _ hp))
theorem Ex (c : UInt8) (s : ByteArray) : (Qm c s).length ≤ s.size + 1 ∧ ∀ x, x ∈ Qm c s → x.size ≤ s.size := by
  obtain ⟨h1, h2⟩ := UJ c s.data.toList
  have e : s.data.toList.length = s.size := Array.length_toList
  refine ⟨by unfold Qm; rw [List.length_map]; omega, fun x hx => ?_⟩
  obtain ⟨p, hp, rfl⟩ := List.mem_map.1 hx
  have := h2 p hp
  show p.toArray.size ≤ _
  rw [List.size_toArray]
  omega
def Q6 (sep : ByteArray) (l : List ByteArray) : ByteArray := Wk (Lib.join (l.map (·.data.toList)) sep.data.toList)
def Z2 (s : ByteArray) : List ByteArray := (Lib.fields s.data.toList).map Wk
theorem Ed : ∀ (l cur : List UInt8), (Lib.fieldsGo cur l).length ≤ l.length + 1 ∧ ∀ p, p ∈ Lib.fieldsGo cur l → p.length ≤ cur.length + l.length
  | [], cur => by
    unfold Lib.fieldsGo
    split
    · exact ⟨Nat.zero_le _, fun p hp => by simp at hp⟩
    exact ⟨Nat.le_refl _, fun p hp => by rw [List.mem_singleton.1 hp]; simp⟩
  | b :: l, cur => by
    obtain ⟨h1, h2⟩ := Ed l []
    obtain ⟨h3, h4⟩ := Ed l (cur ++ [b])
    simp only [List.length_nil, Nat.zero_add, List.length_append, List.length_singleton] at h2 h4
    unfold Lib.fieldsGo
    split
    · split
      · exact ⟨by simp only [List.length_cons]; omega, fun p hp => by have := h2 p hp; simp only [List.length_cons]; omega⟩
      refine ⟨by simp only [List.length_cons]; omega, fun p hp => ?_⟩
      rcases List.mem_cons.1 hp with rfl | hp
      · omega
      have := h2 p hp; simp only [List.length_cons]; omega
    exact ⟨by simp only [List.length_cons]; omega, fun p hp => by have := h4 p hp; simp only [List.length_cons]; omega⟩
theorem Ia (s : ByteArray) : (Z2 s).length ≤ s.size + 1 ∧ ∀ x, x ∈ Z2 s → x.size ≤ s.size := by
  obtain ⟨h1, h2⟩ := Ed s.data.toList []
  have e : s.data.toList.length = s.size := Array.length_toList
  refine ⟨by unfold Z2 Lib.fields; rw [List.length_map]; omega, fun x hx => ?_⟩
  obtain ⟨p, hp, rfl⟩ := List.mem_map.1 hx
  have := h2 p hp
  simp only [List.length_nil, Nat.zero_add] at this
  show p.toArray.size ≤ _
  rw [List.size_toArray]
  omega
section
variable {P : Program}
theorem Ss (w : World) (F : Nat → Prop) : ∀ l : List ByteArray, (∀ x, x ∈ l → x.size ≤ maxLen) → VR F w 1 (l.map Value.string) (eL l)
  | [], _ => .nil 1
  | a :: l, h => VR.cons (ce := [.string a]) (.cons (.str (h a (List.mem_cons_self ..))) .nil) rfl (Ss w F l fun x hx => h x (List.mem_cons_of_mem _ hx))
theorem YX {F : Nat → Prop} {w : World} {l : List ByteArray} {t : TypeId} (hn : 0 < l.length) (hl : l.length ≤ 1073741824) (hs : ∀ x, x ∈ l → x.size ≤ maxLen) :
    GS F w (.o 0 l) (.returned (.slice (some ⟨w.heap.size, 0, none⟩) l.length l.length)) (w.alloc (.cells (l.map Value.string).toArray t)) := by
  have hg : (w.alloc (.cells (l.map Value.string).toArray t)).heap[w.heap.size]? = some (.cells (l.map Value.string).toArray t (0, 0)) := Array.getElem?_push_size
  have hlt := Q0 hg
  refine ⟨_, fun k => if k = 0 then [w.heap.size] else [], rfl, (Below.refl _ _).alloc (Nat.le_refl _) _, fun k => ?_, fun k b hb => ?_, fun k k' b hb hb' => ?_, ?_⟩
  · show (if k = 0 then _ else _ : List Nat).Nodup
    split <;> simp
  · have hb : b ∈ (if k = 0 then [w.heap.size] else [] : List Nat) := hb
    split at hb
    · obtain rfl := List.mem_singleton.1 hb
      exact ⟨Nat.le_refl _, hlt⟩
    simp at hb
  · have hb : b ∈ (if k = 0 then [w.heap.size] else [] : List Nat) := hb
    have hb' : b ∈ (if k' = 0 then [w.heap.size] else [] : List Nat) := hb'
    split at hb <;> split at hb'
    · rename_i e1 e2; rw [e1, e2]
    all_goals simp_all
  show OwnDeep (if 0 = 0 then [w.heap.size] else []) _ _ 1 (eL l)
  rw [if_pos rfl]
  refine .of ?_ (by simp)
  have hR := VR.orr (w' := w.alloc (.cells (l.map Value.string).toArray t)) (Ss w F l hs) (Oj l)
  have hc : maxLen ≥ l.length := by unfold maxLen; omega
  have := OV.slc (w := w.alloc (.cells (l.map Value.string).toArray t)) (n := 1) (cap := l.length) (l := eL l) (L := []) hg (by simp) (by rw [Y9, Nat.mul_one, List.take_of_length_le (by simp)]; exact hR) (by rw [Y9]; exact Nat.le_refl _) ⟨hc, by rw [Y9]; exact hl⟩
  rwa [Y9] at this
theorem YY {f : Nat} (hok : Br P f) {c : UInt8} {t : TypeId} {s : ByteArray} (hp : s.size ≤ 1073741000)
    (h : ∀ w, Good P w → Calls P f #[.string s, .string ⟨#[c]⟩] w fun e w' => e = .returned (.slice (some ⟨w.heap.size, 0, none⟩) (Lib.countB s ⟨#[c]⟩ + 1) (Lib.countB s ⟨#[c]⟩ + 1)) ∧ w' = w.alloc (.cells ((Lib.splitB ⟨#[c]⟩ 0 (Lib.countB s ⟨#[c]⟩) s).map Value.string).toArray t)) :
    ACalls P f [.s s, .s ⟨#[c]⟩] (.o 0 (Qm c s)) := by
  refine ⟨hok, fun w hg F vals hF hall => ?_⟩
  cases hall with
  | cons h1 h2 =>
    cases h2 with
    | cons h2 h3 =>
      cases h3
      obtain ⟨rfl, _⟩ := h1
      obtain ⟨rfl, _⟩ := h2
      refine (h w hg).mono ?_
      rintro e w' ⟨rfl, rfl⟩
      obtain ⟨g1, g2⟩ := Ex c s
      have hlen : Lib.countB s ⟨#[c]⟩ + 1 = (Qm c s).length := by rw [← YW, Lib.splitB_all ⟨#[c]⟩ (Nat.le_refl 1) 0 _ s rfl]
      rw [YW, hlen]
      exact YX (by rw [← hlen]; exact Nat.succ_pos _) (by omega) fun x hx => by have := g2 x hx; unfold maxLen; omega
theorem T9 {f : Nat} (hok : Br P f) {t : TypeId} {s : ByteArray} (hp : s.size ≤ 1073741000)
    (h : ∀ w, Good P w → Calls P f #[.string s] w fun e w' => e = .returned (.slice (some ⟨w.heap.size, 0, none⟩) (Lib.fields s.data.toList).length (Lib.fields s.data.toList).length) ∧ w' = w.alloc (.cells ((Lib.fields s.data.toList).map fun l => Value.string ⟨l.toArray⟩).toArray t)) :
    ACalls P f [.s s] (.o 0 (Z2 s)) := by
  refine ⟨hok, fun w hg F vals hF hall => ?_⟩
  cases hall with
  | cons h1 h2 =>
    cases h2
    obtain ⟨rfl, _⟩ := h1
    refine (h w hg).mono ?_
    rintro e w' ⟨rfl, rfl⟩
    obtain ⟨g1, g2⟩ := Ia s
    have hm : ((Lib.fields s.data.toList).map fun l => Value.string ⟨l.toArray⟩) = (Z2 s).map Value.string := by unfold Z2; rw [List.map_map]; rfl
    have hlen : (Lib.fields s.data.toList).length = (Z2 s).length := by unfold Z2; rw [List.length_map]
    rw [hm, hlen]
    by_cases h0 : 0 < (Z2 s).length
    · exact YX h0 (by omega) fun x hx => by have := g2 x hx; unfold maxLen; omega
    have hn : Z2 s = [] := List.eq_nil_of_length_eq_zero (by omega)
    rw [hn]
    refine ⟨_, fun _ => [], rfl, (Below.refl _ _).alloc (Nat.le_refl _) _, fun _ => List.nodup_nil, fun k b hm => by simp at hm, fun k k' b hm => by simp at hm, ?_⟩
    exact ⟨[], .emp _ 1, List.nodup_nil, (fun b hb => by simp at hb), .inl rfl⟩
theorem UK {X : Nat → Prop} {w : World} : ∀ {l : List ByteArray} {cs : List Value}, VR X w 1 cs (eL l) → cs = l.map Value.string
  | [], cs, h => by
    generalize hr : eL ([] : List ByteArray) = r at h
    cases h with
    | nil => rfl
    | cons => cases hr
  | a :: l, cs, h => by
    generalize hr : eL (a :: l) = r at h
    cases h with
    | nil => cases hr
    | cons h1 h2 h3 =>
      rw [Oi] at hr
      obtain ⟨rfl, rfl⟩ : [PV.str a] = _ ∧ eL l = _ := by simpa [GoE.enc] using hr
      have e := UK h3
      cases h1 with
      | cons h4 h5 =>
        cases h5
        cases h4 with
        | str => rw [e]; rfl
theorem VE {f : Nat} (hok : Br P f) {sep : ByteArray} {l : List ByteArray} (hp : (Q6 sep l).size ≤ 1073741824)
    (h0 : ∀ w oa cap, Good P w → Calls P f #[.slice oa 0 cap, .string sep] w fun e w' => e = .returned (.string ⟨#[]⟩) ∧ w' = w)
    (h : ∀ w bk o c, Good P w → (∀ (j : Nat) x, l[j]? = some x → w.cell? ⟨bk, o + j, none⟩ = some (.string x)) → bk < w.heap.size → l.length ≤ 140737488355328 → l.length ≤ c → (Lib.join (l.map (·.data.toList)) sep.data.toList).length ≤ 140737488355328 → Calls P f #[.slice (some ⟨bk, o, none⟩) l.length c, .string sep] w fun e w' => e = .returned (.string ⟨(Lib.join (l.map (·.data.toList)) sep.data.toList).toArray⟩) ∧ Below w.heap.size w w') :
    ACalls P f [.h l, .s sep] (.s (Q6 sep l)) := by
  refine ⟨hok, fun w hg F vals hF hall => ?_⟩
  cases hall with
  | cons h1 h2 =>
    cases h2 with
    | cons h2 h3 =>
      cases h3
      obtain ⟨rfl, _⟩ := h2
      have h1 : VV F w _ (.slc 1 (eL l)) := h1
      have hsz : (Q6 sep l).size ≤ maxLen := by unfold maxLen; omega
      have key : ∀ {w' : World}, Below w.heap.size w w' → GS F w (.s (Q6 sep l)) (.returned (.string (Q6 sep l))) w' := fun hb => ⟨_, fun _ => [], rfl, hb, fun _ => List.nodup_nil, fun k b hm => by simp at hm, fun k k' b hm => by simp at hm, rfl, hsz⟩
      generalize hq : PV.slc 1 (eL l) = q at h1
      cases h1 with
      | int | bool | str | any | raw => cases hq
      | emp oa n hc =>
        have hl : l = [] := by
          have : eL l = [] := (PV.slc.inj hq).2
          have := congrArg List.length this
          rw [Y9] at this
          exact List.eq_nil_of_length_eq_zero this
        subst hl
        refine (h0 w oa _ hg).mono ?_
        rintro e w' ⟨rfl, rfl⟩
        exact key (Below.refl _ _)
      | @slc b off cap n cs l1 hb hc hr hle hcap =>
        obtain ⟨rfl, rfl⟩ : 1 = n ∧ eL l = l1 := PV.slc.inj hq
        have e := UK hr
        subst e
        rw [Y9] at hle hcap ⊢
        refine (h w b off cap hg (fun j x hj => hc j _ (by rw [List.getElem?_map, hj]; rfl)) (hF b hb) (by have := hcap.2; omega) hle (by
          have e : (Q6 sep l).size = (Lib.join (l.map (·.data.toList)) sep.data.toList).length := List.size_toArray
          omega)).mono ?_
        rintro e w' ⟨rfl, hbl⟩
        exact key hbl
end
end
section
open Go.RowKit
theorem Qck : Tryz.prog.globalNamed "internal/bytealg.MaxLen" = some 0 := by kernel_rfl
theorem Qcl : Tryz.prog.globalNamed "strings.asciiSpace" = some 6 := by kernel_rfl
theorem Fg (s : ByteArray) (c : UInt8) (hp : s.size ≤ 1073741000) : ACalls Tryz.prog 77 [.s s, .s ⟨#[c]⟩] (.o 0 (Qm c s)) :=
  YY (by unfold Br; kernel_rfl) hp fun w hg => by
    obtain ⟨m, hm⟩ := hg.mx _ Qck
    exact Sh.strings_Split s ⟨#[c]⟩ m w (by omega) hm (Nat.le_refl 1)
theorem Pn (s : ByteArray) (hp : s.size ≤ 1073741000) (ha : ∀ (j : Nat) b, s.data.toList[j]? = some b → b.toNat < 128) : ACalls Tryz.prog 186 [.s s] (.o 0 (Z2 s)) :=
  T9 (by unfold Br; kernel_rfl) hp fun w hg => Sh.strings_Fields s w (by omega) ha (hg.sp _ Qcl)
theorem Kd (l : List ByteArray) (sep : ByteArray) (hp : (Q6 sep l).size ≤ 1073741824) : ACalls Tryz.prog 117 [.h l, .s sep] (.s (Q6 sep l)) :=
  VE (by unfold Br; kernel_rfl) hp (fun w oa cap _ => Sh.strings_Join_none oa cap sep w) fun w bk o c _ hc hb hN hcap hl => Sh.strings_Join bk o c l sep w hc hb hN hcap hl
open GoD (rd own)
instance instGoDU8 : GoD UInt8 where
  n := 1
  rd _ cs a := cs = [.int .u8 (a.toNat : Int)]
  own L _ cs a := L = [] ∧ cs = [.int .u8 (a.toNat : Int)]
  size _ := 0
  mark a k := (a, k + 1)
  markT a k := (a, k)
  rd_len h := by rw [h]; rfl
  rd_same h _ := h
  own_same h _ := h
  own_rd h := h.2
  own_lt h := by rw [h.1]; simp
  own_nd h := by rw [h.1]; simp
  deq := inferInstance
  mk_le _ k := Nat.le_succ k
  mkT_le _ k := Nat.le_refl k
  lv := 1
  lvm := 0
  mk_bd _ k := by simp
  mkT_bd _ k := by simp
theorem Opens.u8 {P : Program} {t : TypeId} (ht : P.underlying t = some (.int .u8)) (hc : P.cellsOf t = 1) : Opens P t UInt8 := by
  refine ⟨hc, Nat.zero_lt_one, fun h => ?_⟩
  obtain ⟨n, rfl, _, hw⟩ := DataW.trod_int ht h
  simp only [Lit.wf, Bool.and_eq_true, decide_eq_true_eq] at hw
  have h1 : 0 ≤ n := hw.1
  have h2 : n ≤ 255 := hw.2
  refine ⟨UInt8.ofNat n.toNat, ?_⟩
  show [Value.int .u8 n] = [Value.int .u8 ((UInt8.ofNat n.toNat).toNat : Int)]
  have e : ((UInt8.ofNat n.toNat).toNat : Int) = n := by rw [UInt8.toNat_ofNat']; omega
  rw [e]
end
section
open Go.RowKit
open GoD (rd own)
theorem NV (a : UInt8) : InR .u8 (a.toNat : Int) := by
  have h : a.toNat < 256 := a.toNat_lt
  constructor <;> simp [IntKind.min, IntKind.max, IntKind.bits, IntKind.signed] <;> omega
instance instGoEU8 : GoE UInt8 where
  enc a := [.int .u8 (a.toNat : Int)]
  no_any h := by rw [List.mem_singleton.1 h]; simp
  enc_len _ := rfl
  n_pos := Nat.zero_lt_one
  wide _ := True
  wide_size _ := trivial
  vc_wide _ := trivial
  rd_vc {w cs a} h _ := by rw [show cs = _ from h]; exact .cons (.int (NV a)) .nil
  vc_rd h := by
    cases h with
    | cons h1 h2 => cases h2; cases h1; rfl
  own_oc h _ := by obtain ⟨rfl, h⟩ := h; rw [h]; exact OC.cons (L1 := []) (L2 := []) (.int (NV _)) .nil
  oc_own h _ := by
    cases h with
    | cons h1 h2 => cases h2; cases h1; exact ⟨rfl, rfl⟩
open GoE (enc wide)
def J6 (d : (List Z9)) : Bool := ((Vl d)).2
theorem Ib (d : (List Z9)) : ACalls Tryz.prog 81 [.h d] (.b (J6 d)) := by
 refine en Qa Tryz.func81 fun w0 F0 hG => ?_
 refine sn Qa [0, 2] [] (p0) ?_
 refine tn Qa [2, 4] [] (pc 1 (YS d) p0) ?_
 refine tu Qa [(2, .b (((Vl d)).2))] [0] [] [] (p0) ?_
 refine Qe ?_
 exact pb [] (show J6 d = ((Vl d)).2 from rfl)
def Qi (x : Qp) : Bool := ((Zu x.1) && (J6 x.2))
theorem Ju (x : Qp) : ACalls Tryz.prog 56 [.a [.h x.1.1, .h x.1.2.1, .i x.1.2.2, .h x.2]] (.b (Qi x)) := by
 refine en Qa Tryz.func56 fun w0 F0 hG => ?_
 refine sn Qa [1, 2] [1] (p0) ?_
 refine Qc ?_
 refine mz [(1, .p 1 0), (2, .b false)] [0] [(1, [.h x.1.1, .h x.1.2.1, .i x.1.2.2, .h x.2])] [] ?_
 refine jn [(2, .b ((Zu x.1) && (J6 x.2)))] [1, 2] [] [1] (Zu x.1) (fun h1 => ?_) (fun h1 => ?_) ?_
 ·
  refine rn Qa [2] [] (pc 2 (cb h1 (Bx x.1)) (pc 6 (Ib x.2) p0)) ?_
  exact ⟨rfl, Qd (by rw [h1] <;> kernel_rfl)⟩
 ·
  refine rn Qa [2] [] (pc 2 (cb h1 (Bx x.1)) p0) ?_
  exact ⟨rfl, Qd (by rw [h1] <;> kernel_rfl)⟩
 refine Qe ?_
 exact pb [] (show Qi x = ((Zu x.1) && (J6 x.2)) from rfl)
def Ku (d : (List Z9)) : Bool := ((V3 d)).2
theorem Ic (d : (List Z9)) : ACalls Tryz.prog 47 [.h d] (.b (Ku d)) := by
 refine en Qa Tryz.func47 fun w0 F0 hG => ?_
 refine sn Qa [0, 2] [] (p0) ?_
 refine tn Qa [2, 4] [] (pc 1 (YR d) p0) ?_
 refine tu Qa [(2, .b (((V3 d)).2))] [0] [] [] (p0) ?_
 refine Qe ?_
 exact pb [] (show Ku d = ((V3 d)).2 from rfl)
def Q3 (x : Qp) : Bool := ((J5 x.1) && (Ku x.2))
theorem Jv (x : Qp) : ACalls Tryz.prog 27 [.a [.h x.1.1, .h x.1.2.1, .i x.1.2.2, .h x.2]] (.b (Q3 x)) := by
 refine en Qa Tryz.func27 fun w0 F0 hG => ?_
 refine sn Qa [1, 2] [1] (p0) ?_
 refine Qc ?_
 refine mz [(1, .p 1 0), (2, .b false)] [0] [(1, [.h x.1.1, .h x.1.2.1, .i x.1.2.2, .h x.2])] [] ?_
 refine jn [(2, .b ((J5 x.1) && (Ku x.2)))] [1, 2] [] [1] (J5 x.1) (fun h1 => ?_) (fun h1 => ?_) ?_
 ·
  refine rn Qa [2] [] (pc 2 (cb h1 (By x.1)) (pc 6 (Ic x.2) p0)) ?_
  exact ⟨rfl, Qd (by rw [h1] <;> kernel_rfl)⟩
 ·
  refine rn Qa [2] [] (pc 2 (cb h1 (By x.1)) p0) ?_
  exact ⟨rfl, Qd (by rw [h1] <;> kernel_rfl)⟩
 refine Qe ?_
 exact pb [] (show Q3 x = ((J5 x.1) && (Ku x.2)) from rfl)
def X1 (f : X9) : ByteArray := (bif (!(Qs f.1)) then ⟨#[]⟩ else (bif (f.2 == (1 : Int)) then (((⟨#[102, 105, 101, 108, 100, 32]⟩ : ByteArray) ++ f.1) ++ (⟨#[32, 105, 110, 116]⟩ : ByteArray)) else (bif (f.2 == (2 : Int)) then (((⟨#[102, 105, 101, 108, 100, 32]⟩ : ByteArray) ++ f.1) ++ (⟨#[32, 115, 116, 114, 105, 110, 103]⟩ : ByteArray)) else ⟨#[]⟩)))
theorem Ll (f : X9) : ACalls Tryz.prog 83 [.a [.s f.1, .i f.2]] (.s (X1 f)) := by
 refine en Qa Tryz.func83 fun w0 F0 hG => ?_
 refine sn Qa [1, 2] [1] (p0) ?_
 refine Qc ?_
 refine Qz ?_
 refine tn Qa [1, 2, 3] [1] (pc 2 (Yb f.1) p0) ?_
 refine ck (!(Qs f.1)) (fun h1 => ?_) (fun h1 => ?_)
 ·
  refine tu Qa [(2, .s ⟨#[]⟩)] [0] [] [] (p0) ?_
  refine Qe ?_
  exact ps [] (Xh h1 (rfl))
 have h1n : (Qs f.1) = true := Z4 h1
 have h1nz := T7 h1n
 refine tu Qa [(1, .p 1 0), (2, .s ⟨#[]⟩), (8, .b (f.2 == (1 : Int)))] [0] [(1, [.s f.1, .i f.2])] [] (p0) ?_
 refine ck (f.2 == (1 : Int)) (fun h2 => ?_) (fun h2 => ?_)
 ·
  have h2d := eq_of_beq h2
  refine sn Qa [2] [] (px (Yi (n := (ByteArray.size (⟨#[102, 105, 101, 108, 100, 32]⟩ : ByteArray) + ByteArray.size f.1)) (by have hq0 : ByteArray.size (⟨#[102, 105, 101, 108, 100, 32]⟩ : ByteArray) = 6 := rfl; unfold maxLen; first | omega | (simp only [ByteArray.size_append]; omega))) (px (Yi (n := (ByteArray.size ((⟨#[102, 105, 101, 108, 100, 32]⟩ : ByteArray) ++ f.1) + ByteArray.size (⟨#[32, 105, 110, 116]⟩ : ByteArray))) (by have hq0 : ByteArray.size (⟨#[102, 105, 101, 108, 100, 32]⟩ : ByteArray) = 6 := rfl; have hq1 : ByteArray.size (⟨#[32, 105, 110, 116]⟩ : ByteArray) = 4 := rfl; unfold maxLen; first | omega | (simp only [ByteArray.size_append]; omega))) p0)) ?_
  refine Qe ?_
  exact ps [] (Qj h1 (Xh h2 (rfl)))
 have h2d := Yg h2
 refine sn Qa [1, 2, 16] [1] (p0) ?_
 refine ck (f.2 == (2 : Int)) (fun h3 => ?_) (fun h3 => ?_)
 ·
  have h3d := eq_of_beq h3
  refine tn Qa [2] [] (px (Yi (n := (ByteArray.size (⟨#[102, 105, 101, 108, 100, 32]⟩ : ByteArray) + ByteArray.size f.1)) (by have hq0 : ByteArray.size (⟨#[102, 105, 101, 108, 100, 32]⟩ : ByteArray) = 6 := rfl; unfold maxLen; first | omega | (simp only [ByteArray.size_append]; omega))) (px (Yi (n := (ByteArray.size ((⟨#[102, 105, 101, 108, 100, 32]⟩ : ByteArray) ++ f.1) + ByteArray.size (⟨#[32, 115, 116, 114, 105, 110, 103]⟩ : ByteArray))) (by have hq0 : ByteArray.size (⟨#[102, 105, 101, 108, 100, 32]⟩ : ByteArray) = 6 := rfl; have hq1 : ByteArray.size (⟨#[32, 115, 116, 114, 105, 110, 103]⟩ : ByteArray) = 7 := rfl; unfold maxLen; first | omega | (simp only [ByteArray.size_append]; omega))) p0)) ?_
  refine Qe ?_
  exact ps [] (Qj h1 (Qj h2 (Xh h3 (rfl))))
 refine Qf ?_
 refine tn Qa [2] [] (p0) ?_
 refine Qe ?_
 exact ps [] (Qj h1 (Qj h2 (Qj h3 (rfl))))
def Zj (f : X9) : ByteArray := (bif (!(Xb f.1)) then ⟨#[]⟩ else (bif (f.2 == (1 : Int)) then (((⟨#[102, 105, 101, 108, 100, 32]⟩ : ByteArray) ++ f.1) ++ (⟨#[32, 105, 110, 116]⟩ : ByteArray)) else (bif (f.2 == (2 : Int)) then (((⟨#[102, 105, 101, 108, 100, 32]⟩ : ByteArray) ++ f.1) ++ (⟨#[32, 115, 116, 114, 105, 110, 103]⟩ : ByteArray)) else ⟨#[]⟩)))
theorem Lm (f : X9) : ACalls Tryz.prog 49 [.a [.s f.1, .i f.2]] (.s (Zj f)) := by
 refine en Qa Tryz.func49 fun w0 F0 hG => ?_
 refine sn Qa [1, 2] [1] (p0) ?_
 refine Qc ?_
 refine Qz ?_
 refine tn Qa [1, 2, 3] [1] (pc 2 (Xq f.1) p0) ?_
 refine ck (!(Xb f.1)) (fun h1 => ?_) (fun h1 => ?_)
 ·
  refine tu Qa [(2, .s ⟨#[]⟩)] [0] [] [] (p0) ?_
  refine Qe ?_
  exact ps [] (Xh h1 (rfl))
 have h1n : (Xb f.1) = true := Z4 h1
 have h1nz := Qad h1n
 refine tu Qa [(1, .p 1 0), (2, .s ⟨#[]⟩), (8, .b (f.2 == (1 : Int)))] [0] [(1, [.s f.1, .i f.2])] [] (p0) ?_
 refine ck (f.2 == (1 : Int)) (fun h2 => ?_) (fun h2 => ?_)
 ·
  have h2d := eq_of_beq h2
  refine sn Qa [2] [] (px (Yi (n := (ByteArray.size (⟨#[102, 105, 101, 108, 100, 32]⟩ : ByteArray) + ByteArray.size f.1)) (by have hq0 : ByteArray.size (⟨#[102, 105, 101, 108, 100, 32]⟩ : ByteArray) = 6 := rfl; unfold maxLen; first | omega | (simp only [ByteArray.size_append]; omega))) (px (Yi (n := (ByteArray.size ((⟨#[102, 105, 101, 108, 100, 32]⟩ : ByteArray) ++ f.1) + ByteArray.size (⟨#[32, 105, 110, 116]⟩ : ByteArray))) (by have hq0 : ByteArray.size (⟨#[102, 105, 101, 108, 100, 32]⟩ : ByteArray) = 6 := rfl; have hq1 : ByteArray.size (⟨#[32, 105, 110, 116]⟩ : ByteArray) = 4 := rfl; unfold maxLen; first | omega | (simp only [ByteArray.size_append]; omega))) p0)) ?_
  refine Qe ?_
  exact ps [] (Qj h1 (Xh h2 (rfl)))
 have h2d := Yg h2
 refine sn Qa [1, 2, 16] [1] (p0) ?_
 refine ck (f.2 == (2 : Int)) (fun h3 => ?_) (fun h3 => ?_)
 ·
  have h3d := eq_of_beq h3
  refine tn Qa [2] [] (px (Yi (n := (ByteArray.size (⟨#[102, 105, 101, 108, 100, 32]⟩ : ByteArray) + ByteArray.size f.1)) (by have hq0 : ByteArray.size (⟨#[102, 105, 101, 108, 100, 32]⟩ : ByteArray) = 6 := rfl; unfold maxLen; first | omega | (simp only [ByteArray.size_append]; omega))) (px (Yi (n := (ByteArray.size ((⟨#[102, 105, 101, 108, 100, 32]⟩ : ByteArray) ++ f.1) + ByteArray.size (⟨#[32, 115, 116, 114, 105, 110, 103]⟩ : ByteArray))) (by have hq0 : ByteArray.size (⟨#[102, 105, 101, 108, 100, 32]⟩ : ByteArray) = 6 := rfl; have hq1 : ByteArray.size (⟨#[32, 115, 116, 114, 105, 110, 103]⟩ : ByteArray) = 7 := rfl; unfold maxLen; first | omega | (simp only [ByteArray.size_append]; omega))) p0)) ?_
  refine Qe ?_
  exact ps [] (Qj h1 (Qj h2 (Xh h3 (rfl))))
 refine Qf ?_
 refine tn Qa [2] [] (p0) ?_
 refine Qe ?_
 exact ps [] (Qj h1 (Qj h2 (Qj h3 (rfl))))
def Bj (s_ : ByteArray) (k0 : Nat) (s0 : Int) : Rd (Int) (Int) (Int) := (.next (Int.tmod (IntKind.i64.wrap (IntKind.i64.wrap (33 * s0) + IntKind.i64.wrap (Yt s_ ((k0 : Nat) : Int)))) 65521))
def Bk (_ : Nat) (s0 : Int) : Int := s0
def Jw (s_ : ByteArray) : Int := (Out.on (Jg (Bj s_) Bk (Int.toNat (ByteArray.size s_ : Int)) 0 3) (fun y0 => y0))
theorem Rg (s_ : ByteArray) : ACalls Tryz.prog 60 [.s s_] (.i (Jw s_)) := by
 refine en Qa Tryz.func60 fun w0 F0 hG => ?_
 refine sn Qa [0, 2] [] (p0) ?_
 refine tn Qa [0, 2, 3] [] (p0) ?_
 refine Qc ?_
 refine tu Qa [(2, .i 0), (3, .i 3), (6, .i (ByteArray.size s_ : Int)), (7, .i 0)] [] [] [] (p0) ?_
 refine stT 0 0 s_ (fun hs1 => ?_)
 refine Qbm (Bj s_) Bk (Int.toNat (ByteArray.size s_ : Int)) 3 (fun k0 s0 => [(3, .i s0), (7, .i ((k0 : Nat) : Int))]) [3, 7] (fun y0 => [(3, .i y0)]) [0, 3, 6, 7] (fun _ s0 => 0 ≤ s0 ∧ s0 ≤ 65520) wf0 ⟨(by decide), (by decide)⟩ (fun k0 s0 hk0 hI0 => ?_) (fun k0 s0 hk0 hI0 => ?_) (fun y0 hD0 => ?_)
 ·
  have hA0_0 := hI0.2.1
  have hA0_1 := hI0.2.2
  have hsb := G9 s_ ((k0 : Nat) : Int)
  have hcn := Lk hA0_0 hA0_1 hsb.1 hsb.2
  refine sn Qa [0, 2, 3, 6, 7, 8] [] (pe 0 (Q1 (decide_eq_true (p := ((k0 : Nat) : Int) < (ByteArray.size s_ : Int)) (by omega))) p0) ?_
  refine Qc ?_
  refine ckT ?_
  refine Qf ?_
  refine Qc ?_
  refine Qz ?_
  refine tn Qa [0, 2, 3, 4, 6, 7] [] (p0) ?_
  refine qu Qa [(3, .i (Int.tmod (IntKind.i64.wrap (IntKind.i64.wrap (33 * s0) + IntKind.i64.wrap (Yt s_ ((k0 : Nat) : Int)))) 65521))] [3] [] [] (px (Uh (i := ((k0 : Nat) : Int)) (n := (ByteArray.size s_)) (by omega)) (px (PQ (n := 65521) (by omega)) (px (CQ (k := .i64) (n := Int.tmod (IntKind.i64.wrap (IntKind.i64.wrap (33 * s0) + IntKind.i64.wrap (Yt s_ ((k0 : Nat) : Int)))) 65521) (by unfold InR; simp only [IntKind.min, IntKind.max, IntKind.bits, IntKind.signed]; omega)) p0))) ?_
  refine rn Qa [0, 2, 3, 6, 7] [] (pe 0 (Jq (Q4 k0 (by omega))) p0) ?_
  exact xw (Int.tmod (IntKind.i64.wrap (IntKind.i64.wrap (33 * s0) + IntKind.i64.wrap (Yt s_ ((k0 : Nat) : Int)))) 65521) ⟨Zp hk0 (rfl) hI0.1, (by first | exact hcn.1 | exact hcn.2), (by first | exact hcn.1 | exact hcn.2)⟩
 ·
  have hA0_0 := hI0.2.1
  have hA0_1 := hI0.2.2
  refine sn Qa [0, 2, 3, 6, 7, 8] [] (pe 0 (Q1 (decide_eq_false (p := ((k0 : Nat) : Int) < (ByteArray.size s_ : Int)) (by omega))) p0) ?_
  refine Qc ?_
  refine ckF ?_
  refine Xu ?_
  exact xw _ (W6 hk0 (rfl) hI0.1)
 refine sn Qa [2] [] (p0) ?_
 refine Qe ?_
 exact pi [] (V4 hD0 (rfl))
def Hm (s_ : ByteArray) (k0 : Nat) (s0 : Int) : Rd (Int) (Int) (Int) := (.next (Int.tmod (IntKind.i64.wrap (IntKind.i64.wrap (s0 * 33) + IntKind.i64.wrap (Yt s_ ((k0 : Nat) : Int)))) 65521))
def Bl (_ : Nat) (s0 : Int) : Int := s0
def Kg (s_ : ByteArray) : Int := (Out.on (Jg (Hm s_) Bl (Int.toNat (ByteArray.size s_ : Int)) 0 3) (fun y0 => y0))
theorem Rh (s_ : ByteArray) : ACalls Tryz.prog 31 [.s s_] (.i (Kg s_)) := by
 refine en Qa Tryz.func31 fun w0 F0 hG => ?_
 refine sn Qa [0, 2] [] (p0) ?_
 refine tn Qa [0, 2, 3] [] (p0) ?_
 refine Qc ?_
 refine tu Qa [(2, .i 0), (3, .i 3), (4, .i 0)] [] [] [] (p0) ?_
 refine stT 0 0 s_ (fun hs1 => ?_)
 refine Qbm (Hm s_) Bl (Int.toNat (ByteArray.size s_ : Int)) 3 (fun k0 s0 => [(3, .i s0), (4, .i ((k0 : Nat) : Int))]) [3, 4] (fun y0 => [(3, .i y0)]) [0, 3, 4] (fun _ s0 => 0 ≤ s0 ∧ s0 ≤ 65520) wf0 ⟨(by decide), (by decide)⟩ (fun k0 s0 hk0 hI0 => ?_) (fun k0 s0 hk0 hI0 => ?_) (fun y0 hD0 => ?_)
 ·
  have hA0_0 := hI0.2.1
  have hA0_1 := hI0.2.2
  have hsb := G9 s_ ((k0 : Nat) : Int)
  have hcn := KZ hA0_0 hA0_1 hsb.1 hsb.2
  refine Qc ?_
  refine sn Qa [0, 2, 3, 4, 8] [] (pe 3 (Q1 (decide_eq_true (p := ((k0 : Nat) : Int) < (ByteArray.size s_ : Int)) (by omega))) p0) ?_
  refine ckT ?_
  refine Qf ?_
  refine Qc ?_
  refine Qz ?_
  refine qn Qa [0, 2, 3, 4] [] (px (Uh (i := ((k0 : Nat) : Int)) (n := (ByteArray.size s_)) (by omega)) (px (PQ (n := 65521) (by omega)) (px (CQ (k := .i64) (n := Int.tmod (IntKind.i64.wrap (IntKind.i64.wrap (s0 * 33) + IntKind.i64.wrap (Yt s_ ((k0 : Nat) : Int)))) 65521) (by unfold InR; simp only [IntKind.min, IntKind.max, IntKind.bits, IntKind.signed]; omega)) p0))) ?_
  refine qu Qa [(3, .i (Int.tmod (IntKind.i64.wrap (IntKind.i64.wrap (s0 * 33) + IntKind.i64.wrap (Yt s_ ((k0 : Nat) : Int)))) 65521)), (4, .i ((k0 + 1 : Nat) : Int))] [3, 4] [] [] (pe 1 (Jq (Q4 k0 (by omega))) p0) ?_
  exact xw (Int.tmod (IntKind.i64.wrap (IntKind.i64.wrap (s0 * 33) + IntKind.i64.wrap (Yt s_ ((k0 : Nat) : Int)))) 65521) ⟨Zp hk0 (rfl) hI0.1, (by first | exact hcn.1 | exact hcn.2), (by first | exact hcn.1 | exact hcn.2)⟩
 ·
  have hA0_0 := hI0.2.1
  have hA0_1 := hI0.2.2
  refine Qc ?_
  refine sn Qa [0, 2, 3, 4, 8] [] (pe 3 (Q1 (decide_eq_false (p := ((k0 : Nat) : Int) < (ByteArray.size s_ : Int)) (by omega))) p0) ?_
  refine ckF ?_
  refine Xu ?_
  exact xw _ (W6 hk0 (rfl) hI0.1)
 refine sn Qa [2] [] (p0) ?_
 refine Qe ?_
 exact pi [] (V4 hD0 (rfl))
def Ka (n : Int) (low : Int) (high_ : Int) : Int := (max low (min n high_))
theorem VF (n : Int) (low : Int) (high_ : Int) : ACalls Tryz.prog 20 [.i n, .i low, .i high_] (.i (Ka n low high_)) := by
 refine en Qa Tryz.func20 fun w0 F0 hG => ?_
 refine sn Qa [0, 1, 2, 6] [] (p0) ?_
 refine tn Qa [6] [] (p0) ?_
 refine Qe ?_
 exact pi [] (show Ka n low high_ = (max low (min n high_)) from rfl)
def V1 (n : Int) (least : Int) (most : Int) : Int := (bif (decide (most < least) || decide (n < least)) then least else (bif decide (n > most) then most else n))
theorem VG (n : Int) (least : Int) (most : Int) : ACalls Tryz.prog 16 [.i n, .i least, .i most] (.i (V1 n least most)) := by
 refine en Qa Tryz.func16 fun w0 F0 hG => ?_
 refine sn Qa [0, 1, 2, 6] [] (p0) ?_
 refine Qc ?_
 refine Qc ?_
 refine mz [(6, .i 0)] [] [] [] ?_
 refine jn [(14, .b (decide (most < least) || decide (n < least)))] [] [] [] (decide (most < least)) (fun h1 => ?_) (fun h1 => ?_) ?_
 ·
  refine rn Qa [0, 1, 2, 6, 14] [] (pt 2 h1 p0) ?_
  exact ⟨rfl, Qd (by rw [h1] <;> kernel_rfl)⟩
 ·
  refine rn Qa [0, 1, 2, 6, 14] [] (pf 2 h1 p0) ?_
  exact ⟨rfl, Qd (by rw [h1] <;> kernel_rfl)⟩
 refine ck (decide (most < least) || decide (n < least)) (fun h2 => ?_) (fun h2 => ?_)
 ·
  refine sn Qa [0, 2, 6] [] (p0) ?_
  refine Qe ?_
  exact pi [] (Xh h2 (rfl))
 refine Qf ?_
 refine Qc ?_
 refine sn Qa [0, 2, 6, 18] [] (p0) ?_
 refine ck (decide (n > most)) (fun h3 => ?_) (fun h3 => ?_)
 ·
  refine tn Qa [0, 6] [] (p0) ?_
  refine Qe ?_
  exact pi [] (Qj h2 (Xh h3 (rfl)))
 refine Qf ?_
 refine tn Qa [6] [] (p0) ?_
 refine Qe ?_
 exact pi [] (Qj h2 (Qj h3 (rfl)))
def Hn (s_ : ByteArray) (k0 : Nat) (s0 : (List ByteArray) × Int) : Rd ((List ByteArray)) ((List ByteArray) × Int) ((List ByteArray)) := (bif (Yt s_ ((k0 : Nat) : Int) == (10 : Int)) then (.next (s0.1 ++ [(ByteArray.extract s_ (Int.toNat s0.2) (Int.toNat ((k0 : Nat) : Int)))], ((k0 + 1 : Nat) : Int))) else (.next (s0.1, s0.2)))
def A3 (_ : Nat) (s0 : (List ByteArray) × Int) : (List ByteArray) := s0.1
def X3 (s_ : ByteArray) : (List ByteArray) := (Out.on (Jg (Hn s_) A3 (Int.toNat (ByteArray.size s_ : Int)) 0 ([], 0)) (fun y0 => y0))
theorem YZ (s_ : ByteArray) (hp : ByteArray.size s_ ≤ 1073741000) : ACalls Tryz.prog 43 [.s s_] (.o 0 (X3 s_)) := by
 refine en Qa Tryz.func43 fun w0 F0 hG => ?_
 refine sn Qa [0, 2] [] (p0) ?_
 refine tn Qa [0, 2, 3] [] (p0) ?_
 refine tu Qa [(2, .e 0), (3, .one (.slc (.own true 384) 1 [])), (4, .i 0)] [] [] [] (p0) ?_
 refine Qc ?_
 refine sn Qa [0, 2, 3, 4, 5] [] (p0) ?_
 refine mz [(5, .i 0)] [] [] [] ?_
 refine stT 0 0 s_ (fun hs1 => ?_)
 refine Qbm (Hn s_) A3 (Int.toNat (ByteArray.size s_ : Int)) ([], 0) (fun k0 s0 => [(3, .o 147202 s0.1), (4, .i s0.2), (5, .i ((k0 : Nat) : Int))]) [3, 4, 5] (fun y0 => [(3, .o 147352 y0)]) [0, 3, 4, 5] (fun k0 s0 => List.length s0.1 ≤ k0 ∧ 0 ≤ s0.2 ∧ s0.2 ≤ ((k0 : Nat) : Int) ∧ List.length s0.1 ≤ k0) (Zg [(384, 147202)] (by kernel_rfl)) ⟨(by simp), (by first | omega | simp), (by first | omega | simp), (by first | omega | simp)⟩ (fun k0 s0 hk0 hI0 => ?_) (fun k0 s0 hk0 hI0 => ?_) (fun y0 hD0 => ?_)
 ·
  have hA0_0 := hI0.2.1
  have hA0_1 := hI0.2.2.1
  have hA0_2 := hI0.2.2.2.1
  have hA0_3 := hI0.2.2.2.2
  refine Qc ?_
  refine sn Qa [0, 2, 3, 4, 5, 10] [] (pe 3 (Q1 (decide_eq_true (p := ((k0 : Nat) : Int) < (ByteArray.size s_ : Int)) (by omega))) p0) ?_
  refine ckT ?_
  refine Qf ?_
  refine Qc ?_
  refine Qz ?_
  refine tn Qa [0, 2, 3, 4, 5, 16] [] (px (Uh (i := ((k0 : Nat) : Int)) (n := (ByteArray.size s_)) (by omega)) p0) ?_
  refine ck (Yt s_ ((k0 : Nat) : Int) == (10 : Int)) (fun h2 => ?_) (fun h2 => ?_)
  ·
   have h2d := eq_of_beq h2
   refine wT 3 0 (.own true 147202) s0.1 (fun hw3 hl4 => ?_)
   refine tu Qa [(3, .one (.slc (.own true 1472) 1 ((eL s0.1) ++ [[.s (ByteArray.extract s_ (Int.toNat s0.2) (Int.toNat ((k0 : Nat) : Int)))]])))] [3] [] [] (px (Af (lo := s0.2) (hi := ((k0 : Nat) : Int)) (n := (ByteArray.size s_)) (⟨by omega, by omega, by omega⟩)) (pa s0.1 [(ByteArray.extract s_ (Int.toNat s0.2) (Int.toNat ((k0 : Nat) : Int)))] p0)) ?_
   refine eqn [(3, .o 1472 (s0.1 ++ [(ByteArray.extract s_ (Int.toNat s0.2) (Int.toNat ((k0 : Nat) : Int)))]))] [3] [] [] (by rw [show ((eL s0.1) ++ [[.s (ByteArray.extract s_ (Int.toNat s0.2) (Int.toNat ((k0 : Nat) : Int)))]]) = (eL (s0.1 ++ [(ByteArray.extract s_ (Int.toNat s0.2) (Int.toNat ((k0 : Nat) : Int)))])) from Jo (rfl) (rfl)]; first | done | kernel_rfl) ?_
   refine rn Qa [0, 2, 3, 4, 5] [] (pe 1 (Jq (Q4 k0 (by omega))) p0) ?_
   refine qn Qa [0, 2, 3, 4, 5] [] (pe 1 (Jq (Q4 k0 (by omega))) p0) ?_
   exact Exists.intro (s0.1 ++ [(ByteArray.extract s_ (Int.toNat s0.2) (Int.toNat ((k0 : Nat) : Int)))], ((k0 + 1 : Nat) : Int)) (And.intro (Zg [(1472, 147202)] (by kernel_rfl)) ⟨Zp hk0 (Xh h2 (rfl)) hI0.1, by first | omega | (simp; omega) | simp, (by first | omega | (simp; omega)), (by first | omega | (simp; omega)), (by first | omega | (simp; omega))⟩)
  have h2d := Yg h2
  refine Qf ?_
  refine qu Qa [(5, .i ((k0 + 1 : Nat) : Int))] [5] [] [] (pe 1 (Jq (Q4 k0 (by omega))) p0) ?_
  exact xw (s0.1, s0.2) ⟨Zp hk0 (Qj h2 (rfl)) hI0.1, by first | omega | (simp; omega) | simp, (by first | omega | (simp; omega)), (by first | omega | (simp; omega)), (by first | omega | (simp; omega))⟩
 ·
  have hA0_0 := hI0.2.1
  have hA0_1 := hI0.2.2.1
  have hA0_2 := hI0.2.2.2.1
  have hA0_3 := hI0.2.2.2.2
  refine Qc ?_
  refine sn Qa [0, 2, 3, 4, 5, 10] [] (pe 3 (Q1 (decide_eq_false (p := ((k0 : Nat) : Int) < (ByteArray.size s_ : Int)) (by omega))) p0) ?_
  refine ckF ?_
  refine Xu ?_
  exact Exists.intro _ (And.intro (Zg [(147202, 147352)] (by kernel_rfl)) (W6 hk0 (rfl) hI0.1))
 refine sn Qa [2] [] (p0) ?_
 refine Qe ?_
 exact po0 [] (V4 hD0 (rfl))
def Zk (text : ByteArray) (k0 : Nat) (s0 : Int) : Rd (Int × Bool) (Int) (Int) := (bif (decide (Yt text ((k0 : Nat) : Int) < (48 : Int)) || decide (Yt text ((k0 : Nat) : Int) > (57 : Int))) then (.ret (0, false)) else (.next (IntKind.i64.wrap (IntKind.i64.wrap (IntKind.i64.wrap (10 * s0) + IntKind.i64.wrap (Yt text ((k0 : Nat) : Int))) - 48))))
def Kv (_ : Nat) (s0 : Int) : Int := s0
def Q2 (text : ByteArray) : Int × Bool := (bif decide ((ByteArray.size text : Int) > (10 : Int)) then (0, false) else (Out.on (Jg (Zk text) Kv (Int.toNat (ByteArray.size text : Int)) 0 0) (fun y0 => (bif (decide (y0 > (1000000000 : Int)) || (!((Qq y0).toList == text.toList))) then (0, false) else (y0, true)))))
theorem Bm (text : ByteArray) : ACalls Tryz.prog 44 [.s text] (.tup [(false, [.i (((Q2 text)).1)]), (false, [.b (((Q2 text)).2)])]) := by
 refine en Qa Tryz.func44 fun w0 F0 hG => ?_
 refine sn Qa [0, 2, 3] [] (p0) ?_
 refine Qc ?_
 refine tn Qa [0, 2, 3, 8] [] (p0) ?_
 refine ck (decide ((ByteArray.size text : Int) > (10 : Int))) (fun h1 => ?_) (fun h1 => ?_)
 ·
  refine tu Qa [(2, .i 0), (3, .b false)] [] [] [] (p0) ?_
  refine Qe ?_
  exact pz [] (show Q2 text = _ from Xh h1 (rfl)) (fun z => .tup [(false, [.i z.1]), (false, [.b z.2])])
 have h1d := of_decide_eq_false h1
 refine Qf ?_
 refine tu Qa [(2, .i 0), (3, .b false), (4, .i 0)] [] [] [] (p0) ?_
 refine Qc ?_
 refine sn Qa [0, 2, 3, 4, 5] [] (p0) ?_
 refine mz [(5, .i 0)] [] [] [] ?_
 refine stT 0 0 text (fun hs2 => ?_)
 refine RD (Zk text) Kv (Int.toNat (ByteArray.size text : Int)) 0 (fun k0 s0 => [(4, .i s0), (5, .i ((k0 : Nat) : Int))]) [4, 5] (fun y0 => [(4, .i y0)]) [4, 5] (fun k0 s0 => 0 ≤ s0 ∧ s0 < 10 ^ k0) (fun y0 => 0 ≤ y0) wf0 ⟨(by decide), (by decide)⟩ (fun k0 s0 hk0 hI0 => ?_) (fun k0 s0 hk0 hI0 => ?_) (fun y0 hD0 => ?_)
 ·
  have hA0_0 := hI0.2.1
  have hA0_1 := hI0.2.2
  have hsb := G9 text ((k0 : Nat) : Int)
  have hpn := VD (c := Yt text ((k0 : Nat) : Int)) hA0_0 hA0_1 (by omega)
  refine Qc ?_
  refine sn Qa [0, 2, 3, 4, 5, 12] [] (pe 3 (Q1 (decide_eq_true (p := ((k0 : Nat) : Int) < (ByteArray.size text : Int)) (by omega))) p0) ?_
  refine ckT ?_
  refine Qf ?_
  refine Qc ?_
  refine Qz ?_
  refine Qc ?_
  refine Qc ?_
  refine mz [(12, .b true)] [] [] [] ?_
  refine jn [(24, .b (decide (Yt text ((k0 : Nat) : Int) < (48 : Int)) || decide (Yt text ((k0 : Nat) : Int) > (57 : Int))))] [12] [] [] (decide (Yt text ((k0 : Nat) : Int) < (48 : Int))) (fun h3 => ?_) (fun h3 => ?_) ?_
  ·
   have h3d := of_decide_eq_true h3
   refine rn Qa [0, 2, 3, 4, 5, 24] [] (px (Uh (i := ((k0 : Nat) : Int)) (n := (ByteArray.size text)) (by omega)) (pt 3 h3 p0)) ?_
   exact ⟨rfl, Qd (by rw [h3] <;> kernel_rfl)⟩
  ·
   have h3d := of_decide_eq_false h3
   refine rn Qa [0, 2, 3, 4, 5, 24] [] (px (Uh (i := ((k0 : Nat) : Int)) (n := (ByteArray.size text)) (by omega)) (pf 3 h3 (px (Uh (i := ((k0 : Nat) : Int)) (n := (ByteArray.size text)) (by omega)) p0))) ?_
   exact ⟨rfl, Qd (by rw [h3] <;> kernel_rfl)⟩
  refine ck (decide (Yt text ((k0 : Nat) : Int) < (48 : Int)) || decide (Yt text ((k0 : Nat) : Int) > (57 : Int))) (fun h4 => ?_) (fun h4 => ?_)
  ·
   refine su Qa [] [24] [] [] (p0) ?_
   refine Qe ?_
   have hr5 : (Jg (Zk text) Kv (Int.toNat (ByteArray.size text : Int)) 0 0) = .ret (0, false) := Gw hk0 (Xh h4 (rfl)) hI0.1
   exact pz [] (show Q2 text = _ from Qj h1 (Mo hr5)) (fun z => .tup [(false, [.i z.1]), (false, [.b z.2])])
  have h4l : (decide (Yt text ((k0 : Nat) : Int) < (48 : Int))) = false := KN h4
  have h4ld := of_decide_eq_false h4l
  have h4r : (decide (Yt text ((k0 : Nat) : Int) > (57 : Int))) = false := KO h4
  have h4rd := of_decide_eq_false h4r
  refine Qf ?_
  refine rn Qa [0, 2, 3, 4, 5] [] (px (Uh (i := ((k0 : Nat) : Int)) (n := (ByteArray.size text)) (by omega)) p0) ?_
  refine qn Qa [0, 2, 3, 4, 5] [] (pe 1 (Jq (Q4 k0 (by omega))) p0) ?_
  exact xw (IntKind.i64.wrap (IntKind.i64.wrap (IntKind.i64.wrap (10 * s0) + IntKind.i64.wrap (Yt text ((k0 : Nat) : Int))) - 48)) ⟨Zp hk0 (Qj h4 (rfl)) hI0.1, (by first | (have hz := hpn (by omega) (by omega); rw [hz.1]; first | exact hz.2.1 | exact hz.2.2)), (by first | (have hz := hpn (by omega) (by omega); rw [hz.1]; first | exact hz.2.1 | exact hz.2.2))⟩
 ·
  have hA0_0 := hI0.2.1
  have hA0_1 := hI0.2.2
  refine Qc ?_
  refine sn Qa [0, 2, 3, 4, 5, 12] [] (pe 3 (Q1 (decide_eq_false (p := ((k0 : Nat) : Int) < (ByteArray.size text : Int)) (by omega))) p0) ?_
  refine ckF ?_
  refine Xu ?_
  exact xw s0 ⟨W6 hk0 (rfl) hI0.1, by first | omega | (simp only [List.length_set]; omega)⟩
 have hD0_0 := hD0.2
 refine Qc ?_
 refine Qc ?_
 refine jn [(40, .b (decide (y0 > (1000000000 : Int)) || (!((Qq y0).toList == text.toList))))] [0] [] [] (decide (y0 > (1000000000 : Int))) (fun h6 => ?_) (fun h6 => ?_) ?_
 ·
  refine rn Qa [2, 3, 4, 40] [] (pt 1 h6 p0) ?_
  exact ⟨rfl, Qd (by rw [h6] <;> kernel_rfl)⟩
 ·
  have h6d := of_decide_eq_false h6
  have hk7 := Zf (n := y0) (by omega)
  refine rn Qa [2, 3, 4, 40] [] (pf 1 h6 (pc 4 (Jt y0 (by omega)) p0)) ?_
  exact ⟨rfl, Qd (by rw [h6] <;> kernel_rfl)⟩
 refine ck (decide (y0 > (1000000000 : Int)) || (!((Qq y0).toList == text.toList))) (fun h8 => ?_) (fun h8 => ?_)
 ·
  refine sn Qa [2, 3, 4] [] (p0) ?_
  refine Qe ?_
  exact pz [] (show Q2 text = _ from Qj h1 (V4 hD0.1 (Xh h8 (rfl)))) (fun z => .tup [(false, [.i z.1]), (false, [.b z.2])])
 refine Qf ?_
 refine sn Qa [2, 3] [] (p0) ?_
 refine Qe ?_
 exact pz [] (show Q2 text = _ from Qj h1 (V4 hD0.1 (Qj h8 (rfl)))) (fun z => .tup [(false, [.i z.1]), (false, [.b z.2])])
def Qo (op : Int) : ByteArray := (bif (!(Q9 op 1 9)) then ⟨#[63]⟩ else (nth [(⟨#[97, 108, 108]⟩ : ByteArray), ⟨#[104, 97, 115]⟩, ⟨#[101, 113]⟩, ⟨#[108, 116]⟩, ⟨#[110, 111, 116]⟩, ⟨#[97, 110, 100]⟩, ⟨#[111, 114]⟩, ⟨#[105, 110]⟩, ⟨#[108, 105, 110, 107, 101, 100]⟩] (Int.toNat (IntKind.i64.wrap (op - 1)))))
theorem Ee (op : Int) : ACalls Tryz.prog 150 [.i op] (.s (Qo op)) := by
 refine en Qa Tryz.func150 fun w0 F0 hG => ?_
 refine sn Qa [0, 2] [] (p0) ?_
 refine tn Qa [0, 2, 3] [] (p0) ?_
 refine Qc ?_
 refine tu Qa [(2, .s ⟨#[]⟩), (3, .o 256 [(⟨#[97, 108, 108]⟩ : ByteArray), ⟨#[104, 97, 115]⟩, ⟨#[101, 113]⟩, ⟨#[108, 116]⟩, ⟨#[110, 111, 116]⟩, ⟨#[97, 110, 100]⟩, ⟨#[111, 114]⟩, ⟨#[105, 110]⟩, ⟨#[108, 105, 110, 107, 101, 100]⟩]), (7, .b (!(Q9 op 1 9)))] [] [] [] (pc 1 (Za op 1 9) p0) ?_
 refine ck (!(Q9 op 1 9)) (fun h1 => ?_) (fun h1 => ?_)
 ·
  refine sn Qa [0, 2, 3] [] (p0) ?_
  refine Qe ?_
  exact ps [] (Xh h1 (rfl))
 have h1n : (Q9 op 1 9) = true := Z4 h1
 have h1nw := Jn.1 h1n
 have h1nx := IntWalk.i64_in (op - 1) (by have := Jn.1 h1n; omega)
 refine Qf ?_
 refine wT 3 0 (.own true 256) [(⟨#[97, 108, 108]⟩ : ByteArray), ⟨#[104, 97, 115]⟩, ⟨#[101, 113]⟩, ⟨#[108, 116]⟩, ⟨#[110, 111, 116]⟩, ⟨#[97, 110, 100]⟩, ⟨#[111, 114]⟩, ⟨#[105, 110]⟩, ⟨#[108, 105, 110, 107, 101, 100]⟩] (fun hw3 hl4 => ?_)
 have hx2 := ng [(⟨#[97, 108, 108]⟩ : ByteArray), ⟨#[104, 97, 115]⟩, ⟨#[101, 113]⟩, ⟨#[108, 116]⟩, ⟨#[110, 111, 116]⟩, ⟨#[97, 110, 100]⟩, ⟨#[111, 114]⟩, ⟨#[105, 110]⟩, ⟨#[108, 105, 110, 107, 101, 100]⟩] (Int.toNat (IntKind.i64.wrap (op - 1))) (by simp only [List.length_cons, List.length_nil]; omega)
 refine sn Qa [2] [] (pG 3 (IntKind.i64.wrap (op - 1)) hx2 p0) ?_
 refine Qe ?_
 exact ps [] (Qj h1 (rfl))
def Xk (op : Int) : ByteArray := (bif (!(Xf op 1 9)) then ⟨#[63]⟩ else (nth ([⟨#[]⟩, ⟨#[97, 108, 108]⟩, ⟨#[104, 97, 115]⟩, ⟨#[101, 113]⟩, ⟨#[108, 116]⟩, ⟨#[110, 111, 116]⟩, ⟨#[97, 110, 100]⟩, ⟨#[111, 114]⟩, ⟨#[105, 110]⟩, ⟨#[108, 105, 110, 107, 101, 100]⟩] : (List ByteArray)) (Int.toNat op)))
theorem Ef (op : Int) : ACalls Tryz.prog 104 [.i op] (.s (Xk op)) := by
 refine en Qa Tryz.func104 fun w0 F0 hG => ?_
 refine sn Qa [0, 2] [] (p0) ?_
 refine Qc ?_
 refine tn Qa [0, 2, 5] [] (pc 1 (Y2 op 1 9) p0) ?_
 refine ck (!(Xf op 1 9)) (fun h1 => ?_) (fun h1 => ?_)
 ·
  refine tu Qa [(2, .s ⟨#[63]⟩)] [] [] [] (p0) ?_
  refine Qe ?_
  exact ps [] (Xh h1 (rfl))
 have h1n : (Xf op 1 9) = true := Z4 h1
 have h1nw := Ox.1 h1n
 refine Qf ?_
 have hx2 := ng ([⟨#[]⟩, ⟨#[97, 108, 108]⟩, ⟨#[104, 97, 115]⟩, ⟨#[101, 113]⟩, ⟨#[108, 116]⟩, ⟨#[110, 111, 116]⟩, ⟨#[97, 110, 100]⟩, ⟨#[111, 114]⟩, ⟨#[105, 110]⟩, ⟨#[108, 105, 110, 107, 101, 100]⟩] : (List ByteArray)) (Int.toNat op) (by simp only [List.length_cons, List.length_nil]; omega)
 refine tu Qa [(2, .s (nth ([⟨#[]⟩, ⟨#[97, 108, 108]⟩, ⟨#[104, 97, 115]⟩, ⟨#[101, 113]⟩, ⟨#[108, 116]⟩, ⟨#[110, 111, 116]⟩, ⟨#[97, 110, 100]⟩, ⟨#[111, 114]⟩, ⟨#[105, 110]⟩, ⟨#[108, 105, 110, 107, 101, 100]⟩] : (List ByteArray)) (Int.toNat op)))] [0] [] [] (pG 2 op hx2 p0) ?_
 refine Qe ?_
 exact ps [] (Qj h1 (rfl))
def K6 (line : ByteArray) (k0 : Nat) (_ : Unit) : Rd ((List ByteArray) × Bool) (Unit) (Unit) := (bif (!(Q9 (IntKind.i64.wrap (Yt line ((k0 : Nat) : Int))) 32 126)) then (.ret ([], false)) else (.next ()))
def Wc (_ : Nat) (_ : Unit) : Unit := ()
def Xd (line : ByteArray) : (List ByteArray) × Bool := (bif decide ((ByteArray.size line : Int) > (600 : Int)) then ([], false) else (Out.on (Jg (K6 line) Wc (Int.toNat (ByteArray.size line : Int)) 0 ()) (fun _ => (bif decide (((Z2 line).length : Int) > (24 : Int)) then ([], false) else ((Z2 line), true)))))
theorem Ln (line : ByteArray) : ACalls Tryz.prog 162 [.s line] (.tup [(false, [.o 0 (((Xd line)).1)]), (false, [.b (((Xd line)).2)])]) := by
 refine en Qa Tryz.func162 fun w0 F0 hG => ?_
 refine sn Qa [0, 2, 3] [] (p0) ?_
 refine Qc ?_
 refine tn Qa [0, 2, 3, 8] [] (p0) ?_
 refine ck (decide ((ByteArray.size line : Int) > (600 : Int))) (fun h1 => ?_) (fun h1 => ?_)
 ·
  have h1d := of_decide_eq_true h1
  refine tu Qa [(2, .e 0), (3, .b false)] [] [] [] (p0) ?_
  refine opn [(false, 2, 0, true, 384000, 1)] ?_
  refine Qe ?_
  exact pz [] (show Xd line = _ from Xh h1 (rfl)) (fun z => .tup [(false, [.o 0 z.1]), (false, [.b z.2])])
 have h1d := of_decide_eq_false h1
 refine Qf ?_
 refine Qc ?_
 refine tu Qa [(2, .e 0), (3, .b false), (10, .i (ByteArray.size line : Int)), (11, .i 0)] [] [] [] (p0) ?_
 refine stT 0 0 line (fun hs2 => ?_)
 refine RD (K6 line) Wc (Int.toNat (ByteArray.size line : Int)) () (fun k0 _ => [(11, .i ((k0 : Nat) : Int))]) [11] (fun _ => []) [10, 11] (fun k0 _ => ∀ j : Nat, j < k0 → Yt line (j : Int) ≤ 126) (fun _ => ∀ j : Nat, j < ByteArray.size line → Yt line (j : Int) ≤ 126) wf0 (by (intro j hj; omega)) (fun k0 s0 hk0 hI0 => ?_) (fun k0 s0 hk0 hI0 => ?_) (fun y0 hD0 => ?_)
 ·
  have hA0_0 := hI0.2
  have hsb := G9 line ((k0 : Nat) : Int)
  have hsw := RS hsb
  refine su Qa [(12, .b true)] [] [] [] (pe 0 (Q1 (decide_eq_true (p := ((k0 : Nat) : Int) < (ByteArray.size line : Int)) (by omega))) p0) ?_
  refine Qc ?_
  refine ckT ?_
  refine Qf ?_
  refine Qc ?_
  refine Qz ?_
  refine sn Qa [0, 2, 3, 4, 10, 11] [] (p0) ?_
  refine tn Qa [0, 2, 3, 10, 11, 19] [] (px (Uh (i := ((k0 : Nat) : Int)) (n := (ByteArray.size line)) (by omega)) (pc 4 (Za (IntKind.i64.wrap (Yt line ((k0 : Nat) : Int))) 32 126) p0)) ?_
  refine ck (!(Q9 (IntKind.i64.wrap (Yt line ((k0 : Nat) : Int))) 32 126)) (fun h3 => ?_) (fun h3 => ?_)
  ·
   have h3n : (Q9 (IntKind.i64.wrap (Yt line ((k0 : Nat) : Int))) 32 126) = false := Vp h3
   refine tu Qa [] [12] [] [] (p0) ?_
   refine opn [(false, 2, 0, true, 384000, 1)] ?_
   refine Qe ?_
   have hr4 : (Jg (K6 line) Wc (Int.toNat (ByteArray.size line : Int)) 0 ()) = .ret ([], false) := Gw hk0 (Xh h3 (rfl)) hI0.1
   exact pz [] (show Xd line = _ from Qj h1 (Mo hr4)) (fun z => .tup [(false, [.o 0 z.1]), (false, [.b z.2])])
  have h3n : (Q9 (IntKind.i64.wrap (Yt line ((k0 : Nat) : Int))) 32 126) = true := Z4 h3
  have h3nw := Jn.1 h3n
  refine Qf ?_
  refine qu Qa [(11, .i ((k0 + 1 : Nat) : Int))] [11, 12] [] [] (pe 0 (Jq (Q4 k0 (by omega))) p0) ?_
  exact xw () ⟨Zp hk0 (Qj h3 (rfl)) hI0.1, (by (intro j hj; rcases Nat.lt_succ_iff_lt_or_eq.1 hj with hj | rfl; exact hA0_0 j hj; first | exact (hsw ‹_›).2 | (apply (hsw _).2; simp_all)))⟩
 ·
  have hA0_0 := hI0.2
  refine sn Qa [0, 2, 3, 10, 11, 12] [] (pe 0 (Q1 (decide_eq_false (p := ((k0 : Nat) : Int) < (ByteArray.size line : Int)) (by omega))) p0) ?_
  refine Qc ?_
  refine ckF ?_
  refine Xu ?_
  exact xw () ⟨W6 hk0 (rfl) hI0.1, by (intro j hj; first | exact hA0_0 j (by omega) | (simp_all; done))⟩
 have hD0_0 := hD0.2
 refine sn Qa [2, 3, 5] [] (pc 1 (Pn line (by omega) (LU (by assumption))) p0) ?_
 refine Qc ?_
 refine tn Qa [2, 3, 5, 25] [] (pl 1 (Z2 line) p0) ?_
 refine ck (decide (((Z2 line).length : Int) > (24 : Int))) (fun h5 => ?_) (fun h5 => ?_)
 ·
  have h5d := of_decide_eq_true h5
  refine tu Qa [(5, .o 1408 (Z2 line))] [0] [] [] (p0) ?_
  refine opn [(false, 2, 0, true, 384000, 1)] ?_
  refine Qe ?_
  exact pz [] (show Xd line = _ from Qj h1 (V4 hD0.1 (Xh h5 (rfl)))) (fun z => .tup [(false, [.o 0 z.1]), (false, [.b z.2])])
 have h5d := of_decide_eq_false h5
 refine Qf ?_
 refine tu Qa [(2, .o 1408 (Z2 line)), (3, .b true)] [0, 2, 3] [] [] (p0) ?_
 refine Qe ?_
 exact pz [] (show Xd line = _ from Qj h1 (V4 hD0.1 (Qj h5 (rfl)))) (fun z => .tup [(false, [.o 0 z.1]), (false, [.b z.2])])
def Jd (line : ByteArray) (k0 : Nat) (s0 : (List ByteArray) × Int) : Rd ((List ByteArray) × Bool) ((List ByteArray) × Int) ((List ByteArray)) := (bif (decide (((k0 : Nat) : Int) < (ByteArray.size line : Int)) && (decide (Yt line ((k0 : Nat) : Int) < (32 : Int)) || decide (Yt line ((k0 : Nat) : Int) > (126 : Int)))) then (.ret ([], false)) else (bif (decide (((k0 : Nat) : Int) < (ByteArray.size line : Int)) && (Yt line ((k0 : Nat) : Int) != (32 : Int))) then (.next (s0.1, s0.2)) else (bif decide (s0.2 < ((k0 : Nat) : Int)) then (.next (s0.1 ++ [(ByteArray.extract line (Int.toNat s0.2) (Int.toNat ((k0 : Nat) : Int)))], ((k0 + 1 : Nat) : Int))) else (.next (s0.1, ((k0 + 1 : Nat) : Int))))))
def Jz (_ : Nat) (s0 : (List ByteArray) × Int) : (List ByteArray) := s0.1
def Qb (line : ByteArray) : (List ByteArray) × Bool := (bif decide ((ByteArray.size line : Int) > (600 : Int)) then ([], false) else (Out.on (Jg (Jd line) Jz (Int.toNat ((ByteArray.size line : Int) + 1)) 0 ([], 0)) (fun y0 => (bif decide ((y0.length : Int) > (24 : Int)) then ([], false) else (y0, true)))))
theorem Cj (line : ByteArray) : ACalls Tryz.prog 90 [.s line] (.tup [(false, [.o 0 (((Qb line)).1)]), (false, [.b (((Qb line)).2)])]) := by
 refine en Qa Tryz.func90 fun w0 F0 hG => ?_
 refine sn Qa [0, 2, 3] [] (p0) ?_
 refine tn Qa [0, 2, 3, 4] [] (p0) ?_
 refine Qc ?_
 refine tu Qa [(2, .e 0), (3, .b false), (4, .one (.slc (.own true 448) 1 [])), (10, .b (decide ((ByteArray.size line : Int) > (600 : Int))))] [] [] [] (p0) ?_
 refine ck (decide ((ByteArray.size line : Int) > (600 : Int))) (fun h1 => ?_) (fun h1 => ?_)
 ·
  refine sn Qa [0, 2, 3, 4] [] (p0) ?_
  refine Qe ?_
  exact pz [] (show Qb line = _ from Xh h1 (rfl)) (fun z => .tup [(false, [.o 0 z.1]), (false, [.b z.2])])
 have h1d := of_decide_eq_false h1
 refine Qf ?_
 refine sn Qa [0, 2, 3, 4, 5] [] (p0) ?_
 refine Qc ?_
 refine tn Qa [0, 2, 3, 4, 5, 6] [] (p0) ?_
 refine mz [(5, .i 0), (6, .i 0)] [10] [] [] ?_
 refine stT 0 0 line (fun hs2 => ?_)
 refine RD (Jd line) Jz (Int.toNat ((ByteArray.size line : Int) + 1)) ([], 0) (fun k0 s0 => [(4, .o 147203 s0.1), (5, .i s0.2), (6, .i ((k0 : Nat) : Int))]) [4, 5, 6] (fun y0 => [(4, .o 147353 y0)]) [0, 4, 5, 6] (fun k0 s0 => List.length s0.1 ≤ k0 ∧ 0 ≤ s0.2 ∧ s0.2 ≤ ((k0 : Nat) : Int) ∧ ∀ y, y ∈ s0.1 → ByteArray.size y ≤ 600) (fun y0 => ∀ x, x ∈ y0 → ByteArray.size x ≤ 600) (Zg [(448, 147203)] (by kernel_rfl)) ⟨(by simp), (by first | omega | simp), (by first | omega | simp), (by first | omega | simp)⟩ (fun k0 s0 hk0 hI0 => ?_) (fun k0 s0 hk0 hI0 => ?_) (fun y0 hD0 => ?_)
 ·
  have hA0_0 := hI0.2.1
  have hA0_1 := hI0.2.2.1
  have hA0_2 := hI0.2.2.2.1
  have hA0_3 := hI0.2.2.2.2
  refine Qc ?_
  refine su Qa [(15, .b true)] [] [] [] (pe 3 (Q1 (decide_eq_true (p := ((k0 : Nat) : Int) ≤ (ByteArray.size line : Int)) (by omega))) p0) ?_
  refine ckT ?_
  refine Qf ?_
  refine Qc ?_
  refine Qz ?_
  refine Qc ?_
  refine Qc ?_
  refine jn [(33, .b (decide (((k0 : Nat) : Int) < (ByteArray.size line : Int)) && (decide (Yt line ((k0 : Nat) : Int) < (32 : Int)) || decide (Yt line ((k0 : Nat) : Int) > (126 : Int)))))] [15] [] [] (decide (((k0 : Nat) : Int) < (ByteArray.size line : Int))) (fun h3 => ?_) (fun h3 => ?_) ?_
  ·
   have h3d := of_decide_eq_true h3
   refine Xo (decide (Yt line ((k0 : Nat) : Int) < (32 : Int))) (fun h4 => ?_) (fun h4 => ?_)
   ·
    have h4d := of_decide_eq_true h4
    refine rn Qa [0, 2, 3, 4, 5, 6, 33] [] (pt 3 h3 (px (Uh (i := ((k0 : Nat) : Int)) (n := (ByteArray.size line)) (by omega)) (pt 8 h4 p0))) ?_
    exact ⟨rfl, Qd (by rw [h3, h4] <;> kernel_rfl)⟩
   have h4d := of_decide_eq_false h4
   refine rn Qa [0, 2, 3, 4, 5, 6, 33] [] (pt 3 h3 (px (Uh (i := ((k0 : Nat) : Int)) (n := (ByteArray.size line)) (by omega)) (pf 8 h4 (px (Uh (i := ((k0 : Nat) : Int)) (n := (ByteArray.size line)) (by omega)) p0)))) ?_
   exact ⟨rfl, Qd (by rw [h3, h4] <;> kernel_rfl)⟩
  ·
   refine rn Qa [0, 2, 3, 4, 5, 6, 33] [] (pf 3 h3 p0) ?_
   exact ⟨rfl, Qd (by rw [h3] <;> kernel_rfl)⟩
  refine ck (decide (((k0 : Nat) : Int) < (ByteArray.size line : Int)) && (decide (Yt line ((k0 : Nat) : Int) < (32 : Int)) || decide (Yt line ((k0 : Nat) : Int) > (126 : Int)))) (fun h5 => ?_) (fun h5 => ?_)
  ·
   refine sn Qa [0, 2, 3, 4, 5, 6] [] (p0) ?_
   refine Qe ?_
   have hr6 : (Jg (Jd line) Jz (Int.toNat ((ByteArray.size line : Int) + 1)) 0 ([], 0)) = .ret ([], false) := Gw hk0 (Xh h5 (rfl)) hI0.1
   exact pz [] (show Qb line = _ from Qj h1 (Mo hr6)) (fun z => .tup [(false, [.o 0 z.1]), (false, [.b z.2])])
  refine Qf ?_
  refine Qc ?_
  refine Qc ?_
  refine jn [(44, .b (decide (((k0 : Nat) : Int) < (ByteArray.size line : Int)) && (Yt line ((k0 : Nat) : Int) != (32 : Int))))] [33] [] [] (decide (((k0 : Nat) : Int) < (ByteArray.size line : Int))) (fun h7 => ?_) (fun h7 => ?_) ?_
  ·
   have h7d := of_decide_eq_true h7
   refine rn Qa [0, 2, 3, 4, 5, 6, 44] [] (pt 3 h7 (px (Uh (i := ((k0 : Nat) : Int)) (n := (ByteArray.size line)) (by omega)) p0)) ?_
   exact ⟨rfl, Qd (by rw [h7] <;> kernel_rfl)⟩
  ·
   refine rn Qa [0, 2, 3, 4, 5, 6, 44] [] (pf 3 h7 p0) ?_
   exact ⟨rfl, Qd (by rw [h7] <;> kernel_rfl)⟩
  refine ck (decide (((k0 : Nat) : Int) < (ByteArray.size line : Int)) && (Yt line ((k0 : Nat) : Int) != (32 : Int))) (fun h8 => ?_) (fun h8 => ?_)
  ·
   have h8l : (decide (((k0 : Nat) : Int) < (ByteArray.size line : Int))) = true := Ou h8
   have h8ld := of_decide_eq_true h8l
   have h8r : ((Yt line ((k0 : Nat) : Int) != (32 : Int))) = true := Mp h8
   have h8rd := Ot h8r
   refine Xu ?_
   refine rn Qa [0, 2, 3, 4, 5, 6] [] (pe 1 (Jq (Q4 k0 (by omega))) p0) ?_
   exact xw (s0.1, s0.2) ⟨Zp hk0 (Qj h5 (Xh h8 (rfl))) hI0.1, by first | omega | (simp; omega) | simp, (by first | omega | (simp; omega) | exact hA0_3 | (intro y hy; rcases List.mem_append.1 hy with hy | hy; exact hA0_3 y hy; rw [List.mem_singleton.1 hy, ByteArray.size_extract]; omega)), (by first | omega | (simp; omega) | exact hA0_3 | (intro y hy; rcases List.mem_append.1 hy with hy | hy; exact hA0_3 y hy; rw [List.mem_singleton.1 hy, ByteArray.size_extract]; omega)), (by first | omega | (simp; omega) | exact hA0_3 | (intro y hy; rcases List.mem_append.1 hy with hy | hy; exact hA0_3 y hy; rw [List.mem_singleton.1 hy, ByteArray.size_extract]; omega))⟩
  refine Qf ?_
  refine Qc ?_
  refine sn Qa [0, 2, 3, 4, 5, 6, 47] [] (p0) ?_
  refine ck (decide (s0.2 < ((k0 : Nat) : Int))) (fun h9 => ?_) (fun h9 => ?_)
  ·
   have h9d := of_decide_eq_true h9
   refine wT 4 0 (.own true 147203) s0.1 (fun hw10 hl11 => ?_)
   refine qu Qa [(4, .one (.slc (.own true 3456) 1 ((eL s0.1) ++ [[.s (ByteArray.extract line (Int.toNat s0.2) (Int.toNat ((k0 : Nat) : Int)))]])))] [4, 44] [] [] (px (Af (lo := s0.2) (hi := ((k0 : Nat) : Int)) (n := (ByteArray.size line)) (⟨by omega, by omega, by omega⟩)) (pa s0.1 [(ByteArray.extract line (Int.toNat s0.2) (Int.toNat ((k0 : Nat) : Int)))] p0)) ?_
   refine eqn [(4, .o 3456 (s0.1 ++ [(ByteArray.extract line (Int.toNat s0.2) (Int.toNat ((k0 : Nat) : Int)))]))] [4] [] [] (by rw [show ((eL s0.1) ++ [[.s (ByteArray.extract line (Int.toNat s0.2) (Int.toNat ((k0 : Nat) : Int)))]]) = (eL (s0.1 ++ [(ByteArray.extract line (Int.toNat s0.2) (Int.toNat ((k0 : Nat) : Int)))])) from Jo (rfl) (rfl)]; first | done | kernel_rfl) ?_
   refine rn Qa [0, 2, 3, 4, 5, 6] [] (pe 1 (Jq (Q4 k0 (by omega))) p0) ?_
   refine qn Qa [0, 2, 3, 4, 5, 6] [] (pe 1 (Jq (Q4 k0 (by omega))) p0) ?_
   exact Exists.intro (s0.1 ++ [(ByteArray.extract line (Int.toNat s0.2) (Int.toNat ((k0 : Nat) : Int)))], ((k0 + 1 : Nat) : Int)) (And.intro (Zg [(3456, 147203)] (by kernel_rfl)) ⟨Zp hk0 (Qj h5 (Qj h8 (Xh h9 (rfl)))) hI0.1, by first | omega | (simp; omega) | simp, (by first | omega | (simp; omega) | exact hA0_3 | (intro y hy; rcases List.mem_append.1 hy with hy | hy; exact hA0_3 y hy; rw [List.mem_singleton.1 hy, ByteArray.size_extract]; omega)), (by first | omega | (simp; omega) | exact hA0_3 | (intro y hy; rcases List.mem_append.1 hy with hy | hy; exact hA0_3 y hy; rw [List.mem_singleton.1 hy, ByteArray.size_extract]; omega)), (by first | omega | (simp; omega) | exact hA0_3 | (intro y hy; rcases List.mem_append.1 hy with hy | hy; exact hA0_3 y hy; rw [List.mem_singleton.1 hy, ByteArray.size_extract]; omega))⟩)
  have h9d := of_decide_eq_false h9
  refine Qf ?_
  refine qn Qa [0, 2, 3, 4, 5, 6] [] (pe 1 (Jq (Q4 k0 (by omega))) p0) ?_
  refine qu Qa [(5, .i ((k0 + 1 : Nat) : Int)), (6, .i ((k0 + 1 : Nat) : Int))] [5, 6, 44] [] [] (pe 1 (Jq (Q4 k0 (by omega))) p0) ?_
  exact xw (s0.1, ((k0 + 1 : Nat) : Int)) ⟨Zp hk0 (Qj h5 (Qj h8 (Qj h9 (rfl)))) hI0.1, by first | omega | (simp; omega) | simp, (by first | omega | (simp; omega) | exact hA0_3 | (intro y hy; rcases List.mem_append.1 hy with hy | hy; exact hA0_3 y hy; rw [List.mem_singleton.1 hy, ByteArray.size_extract]; omega)), (by first | omega | (simp; omega) | exact hA0_3 | (intro y hy; rcases List.mem_append.1 hy with hy | hy; exact hA0_3 y hy; rw [List.mem_singleton.1 hy, ByteArray.size_extract]; omega)), (by first | omega | (simp; omega) | exact hA0_3 | (intro y hy; rcases List.mem_append.1 hy with hy | hy; exact hA0_3 y hy; rw [List.mem_singleton.1 hy, ByteArray.size_extract]; omega))⟩
 ·
  have hA0_0 := hI0.2.1
  have hA0_1 := hI0.2.2.1
  have hA0_2 := hI0.2.2.2.1
  have hA0_3 := hI0.2.2.2.2
  refine Qc ?_
  refine su Qa [(15, .b false)] [] [] [] (pe 3 (Q1 (decide_eq_false (p := ((k0 : Nat) : Int) ≤ (ByteArray.size line : Int)) (by omega))) p0) ?_
  refine ckF ?_
  refine Xu ?_
  exact Exists.intro s0.1 (And.intro (Zg [(147203, 147353)] (by kernel_rfl)) ⟨W6 hk0 (rfl) hI0.1, by first | omega | exact hA0_3⟩)
 have hD0_0 := hD0.2
 refine Qc ?_
 refine sn Qa [2, 3, 4, 59] [] (pl 1 y0 p0) ?_
 refine ck (decide ((y0.length : Int) > (24 : Int))) (fun h12 => ?_) (fun h12 => ?_)
 ·
  refine tn Qa [2, 3, 4] [] (p0) ?_
  refine Qe ?_
  exact pz [] (show Qb line = _ from Qj h1 (V4 hD0.1 (Xh h12 (rfl)))) (fun z => .tup [(false, [.o 0 z.1]), (false, [.b z.2])])
 refine Qf ?_
 refine tn Qa [2, 3] [] (p0) ?_
 refine Qe ?_
 exact pz [] (show Qb line = _ from Qj h1 (V4 hD0.1 (Qj h12 (rfl)))) (fun z => .tup [(false, [.o 0 z.1]), (false, [.b z.2])])
theorem A4 (x : Qp) : Q3 x = Qi x := by
  unfold Q3 Qi Ku J6
  rw [LP, YT]
theorem EN (f : X9) : Zj f = X1 f := by
  unfold Zj X1
  rw [M9]
theorem VH (f : X9) : (X1 f).size ≤ 20 := by
  unfold X1
  cases hv : Qs f.1 with
  | false => exact Nat.zero_le _
  | true =>
    have h1 : f.1.size = 1 := by
      unfold Qs at hv
      simp only [Bool.and_eq_true, beq_iff_eq] at hv
      omega
    simp only [Bool.not_true, cond_false]
    have e1 : (⟨#[102, 105, 101, 108, 100, 32]⟩ : ByteArray).size = 6 := rfl
    have e2 : (⟨#[32, 105, 110, 116]⟩ : ByteArray).size = 4 := rfl
    have e3 : (⟨#[32, 115, 116, 114, 105, 110, 103]⟩ : ByteArray).size = 7 := rfl
    cases (f.2 == (1 : Int)) with
    | true => simp only [cond_true, ByteArray.size_append]; omega
    | false =>
      cases (f.2 == (2 : Int)) with
      | true => simp only [cond_true, cond_false, ByteArray.size_append]; omega
      | false => exact Nat.zero_le _
theorem Lo {x : Qp} (h : Qi x = true) : Zu x.1 = true := by
  unfold Qi at h
  simp only [Bool.and_eq_true] at h
  exact h.1
theorem Ie {α : Type} {l : List α} {p : Nat → α → Bool} {f : Nat → α → Unit → Rd Bool Unit Unit} {e : Nat → Unit → Unit} {b : Bool} (hf : ∀ k a u, f k a u = bif p k a then .ret false else .next ()) (h : Out.on (Yr f e l 0 ()) (fun _ => b) = true) : b = true ∧ ∀ (i : Nat) a, l[i]? = some a → p i a = false := by
  cases hr : Yr f e l 0 () with
  | brk t =>
    rw [hr] at h
    refine ⟨h, fun i a hi => ?_⟩
    have := Tt (fun k a t => by rw [hf]; cases p k a <;> simp) hr i a hi
    rw [Nat.zero_add, hf] at this
    cases hp : p i a with
    | false => rfl
    | true => rw [hp] at this; simp at this
  | ret r =>
    rw [hr] at h
    obtain rfl : r = true := h
    exfalso
    have key : ∀ (l : List α) k, Yr f e l k () ≠ .ret true := by
      intro l
      induction l with
      | nil => intro k h; simp [Yr] at h
      | cons a l ih =>
        intro k h
        simp only [Yr, hf] at h
        cases hp : p k a with
        | false => rw [hp] at h; exact ih _ h
        | true => rw [hp] at h; simp at h
    exact key _ _ hr
theorem bo {a b : Bool} (h : (a || b) = false) : a = false ∧ b = false := by cases a <;> cases b <;> simp_all
theorem bn {a : Bool} (h : (!a) = false) : a = true := by cases a <;> simp_all
theorem VI {s : Ao} (h : Zu s = true) : Y7 s.1 = true ∧ s.2.1.length ≤ 12 ∧ (1 ≤ s.2.2 ∧ s.2.2 ≤ 61) ∧ ∀ f, f ∈ s.2.1 → Zi s.1 f = true := by
  unfold Zu at h
  obtain ⟨h1, h2⟩ := Ie (fun _ _ _ => rfl) h
  simp only [Bool.and_eq_true, decide_eq_true_eq] at h1
  refine ⟨h1.1, by omega, Jn.1 h1.2.2, fun f hf => ?_⟩
  obtain ⟨i, hi⟩ := List.getElem?_of_mem hf
  exact bn (bo (h2 i f hi)).1
theorem Ni {s : List X9} (h : Y7 s = true) : s.length ≤ 5 ∧ ∀ f, f ∈ s → Qs f.1 = true ∧ (f.2 = 1 ∨ f.2 = 2) := by
  unfold Y7 at h
  obtain ⟨h1, h2⟩ := Ie (fun _ _ _ => rfl) h
  refine ⟨by have := of_decide_eq_true h1; omega, fun f hf => ?_⟩
  obtain ⟨i, hi⟩ := List.getElem?_of_mem hf
  have := bo (h2 i f hi)
  refine ⟨bn this.1, ?_⟩
  by_cases e1 : f.2 = 1
  · exact .inl e1
  refine .inr (Classical.byContradiction fun e2 => ?_)
  have h3 := this.2
  have e1' : (f.2 != (1 : Int)) = true := by simpa using e1
  have e2' : (f.2 != (2 : Int)) = true := by simpa using e2
  rw [e1', e2'] at h3
  simp at h3
theorem Up {a b : ByteArray} (h : (a.toList == b.toList) = true) : a = b := of_decide_eq_true (toList_inj.symm.trans h)
theorem RT {s : List X9} {n : ByteArray} (h : Vu s n ≠ 0) : ∃ f, f ∈ s ∧ f.1 = n := by
  refine Classical.byContradiction fun hn => h ?_
  have key : ∀ (l : List X9) k, (∀ f, f ∈ l → f.1 ≠ n) → ∃ u, Yr (V0 n) Uo l k () = .brk u := by
    intro l
    induction l with
    | nil => intro k _; exact ⟨_, rfl⟩
    | cons a l ih =>
      intro k hl
      have ha : (a.1.toList == n.toList) = false := by
        cases hc : (a.1.toList == n.toList) with
        | false => rfl
        | true => exact absurd (Up hc) (hl a (List.mem_cons_self ..))
      simp only [Yr]
      unfold V0
      rw [ha]
      exact ih _ fun f hf => hl f (List.mem_cons_of_mem _ hf)
  unfold Vu
  obtain ⟨u, hu⟩ := key s 0 fun f hf e => hn ⟨f, hf, e⟩
  rw [hu]; rfl
theorem UL {α : Type} [DecidableEq α] : ∀ {l m : List α}, l.Nodup → (∀ x, x ∈ l → x ∈ m) → l.length ≤ m.length
  | [], _, _, _ => Nat.zero_le _
  | a :: l, m, hn, hs => by
    have ha := hs a (List.mem_cons_self ..)
    have hn' := List.nodup_cons.1 hn
    have := UL (l := l) (m := m.erase a) hn'.2 fun x hx => (List.mem_erase_of_ne (fun e => hn'.1 (by rw [← e]; exact hx))).2 (hs x (List.mem_cons_of_mem _ hx))
    rw [List.length_erase_of_mem ha] at this
    have := List.length_pos_of_mem ha
    simp only [List.length_cons]
    omega
def FBd (f : Jk) : Prop := (1 ≤ f.1 ∧ f.1 ≤ 60) ∧ (0 ≤ f.2.1 ∧ f.2.1 ≤ 2) ∧ (0 ≤ f.2.2.2.1 ∧ f.2.2.2.1 ≤ 60) ∧ f.2.2.2.2.length ≤ 5 ∧ ∀ a, a ∈ f.2.2.2.2 → Qs a.1 = true ∧ Qt a.2 = true ∧ a.2.1 ≠ 0
theorem EO : ∀ (l : List ByteArray), (∀ (i : Nat) a, l[i]? = some a → 0 < i → bl (nth l (i - 1)) a = true) → l.Nodup := fun l h => by
  have hp : l.Pairwise (fun a b => bl a b = true) := by
    induction l with
    | nil => exact .nil
    | cons a l ih =>
      have h' : ∀ (i : Nat) x, l[i]? = some x → 0 < i → bl (nth l (i - 1)) x = true := fun i x hi h0 => by
        have := h (i + 1) x (by simpa using hi) (by omega)
        rw [show i + 1 - 1 = (i - 1) + 1 by omega] at this
        simpa [nth] using this
      have ihp := ih h'
      refine List.pairwise_cons.2 ⟨fun x hx => ?_, ihp⟩
      cases l with
      | nil => cases hx
      | cons b l =>
        have hab : bl a b = true := by simpa [nth] using h 1 b (by simp) (by omega)
        rcases List.mem_cons.1 hx with rfl | hx
        · exact hab
        exact T0 hab ((List.pairwise_cons.1 ihp).1 x hx)
  exact hp.imp fun {a b} hab e => by subst e; rw [NR] at hab; cases hab
theorem LV {s : List X9} {f : Jk} (h : Zi s f = true) : FBd f := by
  unfold Zi at h
  obtain ⟨h1, h2⟩ := Ie (fun _ _ _ => rfl) h
  simp only [Bool.and_eq_true] at h1
  have hm : ∀ (i : Nat) a, f.2.2.2.2[i]? = some a → Yu s a.1 a.2 = true ∧ (0 < i → bl (nth f.2.2.2.2 (i - 1)).1 a.1 = true) := fun i a hi => by
    have h3 := h2 i a hi
    cases hc : decide (((i : Nat) : Int) > (0 : Int)) with
    | false =>
      rw [hc] at h3
      exact ⟨bn h3, fun h0 => absurd (of_decide_eq_false hc) (by omega)⟩
    | true =>
      rw [hc] at h3
      have h4 := bo h3
      refine ⟨bn h4.2, fun _ => ?_⟩
      have h5 := bn h4.1
      rw [show Int.toNat (((i : Nat) : Int) - 1) = i - 1 by omega] at h5
      exact h5
  have hsch := Ni h1.2.2.2
  have hk : ∀ a, a ∈ f.2.2.2.2 → (∃ g, g ∈ s ∧ g.1 = a.1) ∧ Qt a.2 = true ∧ a.2.1 ≠ 0 := fun a ha => by
    obtain ⟨i, hi⟩ := List.getElem?_of_mem ha
    have h6 := (hm i a hi).1
    unfold Yu at h6
    simp only [Bool.and_eq_true, bne_iff_ne, ne_eq, beq_iff_eq] at h6
    exact ⟨RT (h6.2.2 ▸ h6.2.1), h6.1, h6.2.1⟩
  have hlen : f.2.2.2.2.length ≤ 5 := by
    have hnd : (f.2.2.2.2.map (·.1)).Nodup := EO _ fun i a hi h0 => by
      rw [List.getElem?_map, Option.map_eq_some_iff] at hi
      obtain ⟨x, hx, rfl⟩ := hi
      have h7 := (hm i x hx).2 h0
      have hlt := (List.getElem?_eq_some_iff.1 hx).1
      rw [show nth (f.2.2.2.2.map (·.1)) (i - 1) = (nth f.2.2.2.2 (i - 1)).1 from by
        have e := Fu (l := f.2.2.2.2) (i := i - 1) (by omega)
        unfold nth
        rw [List.getD_eq_getElem?_getD, List.getElem?_map, e]
        rfl]
      exact h7
    have := UL hnd (m := s.map (·.1)) fun x hx => by
      obtain ⟨a, ha, rfl⟩ := List.mem_map.1 hx
      obtain ⟨⟨g, hg, e⟩, _⟩ := hk a ha
      exact List.mem_map.2 ⟨g, hg, e⟩
    rw [List.length_map, List.length_map] at this
    omega
  refine ⟨Jn.1 h1.1, ?_, Jn.1 h1.2.2.1, hlen, fun a ha => ?_⟩
  · have := h1.2.1
    unfold H0 at this
    exact Jn.1 this
  obtain ⟨⟨g, hg, e⟩, h8⟩ := hk a ha
  exact ⟨e ▸ (hsch.2 g hg).1, h8⟩
theorem B7 {x : Qp} (h : Qi x = true) : x.1.1.length ≤ 5 ∧ x.1.2.1.length ≤ 12 ∧ (1 ≤ x.1.2.2 ∧ x.1.2.2 ≤ 61) ∧ ∀ f, f ∈ x.1.2.1 → FBd f := by
  obtain ⟨h1, h2, h3, h4⟩ := VI (Lo h)
  exact ⟨(Ni h1).1, h2, h3, fun f hf => LV (h4 f hf)⟩
theorem QA {x : Qp} (h : Q3 x = true) : x.1.1.length ≤ 5 ∧ x.1.2.1.length ≤ 12 ∧ (1 ≤ x.1.2.2 ∧ x.1.2.2 ≤ 61) ∧ ∀ f, f ∈ x.1.2.1 → FBd f := B7 ((A4 x).symm.trans h)
/-! ### check sums -/
theorem Po (s : ByteArray) : ∀ (n k : Nat) (a : Int), 0 ≤ a → a ≤ 65520 → ∃ y, Jg (Bj s) Bk n k a = .brk y ∧ Jg (Hm s) Bl n k a = .brk y ∧ 0 ≤ y ∧ y ≤ 65520
  | 0, k, a, h0, h1 => ⟨a, rfl, rfl, h0, h1⟩
  | n + 1, k, a, h0, h1 => by
    have hb := G9 s ((k : Nat) : Int)
    have hn := Lk h0 h1 hb.1 hb.2
    obtain ⟨y, e1, e2, e3⟩ := Po s n (k + 1) _ hn.1 hn.2
    refine ⟨y, e1, ?_, e3⟩
    simp only [Jg]
    unfold Hm
    rw [Int.mul_comm a 33]
    exact e2
theorem UM (s : ByteArray) : 0 ≤ Jw s ∧ Jw s ≤ 65520 := by
  obtain ⟨y, e1, _, e3⟩ := Po s (Int.toNat (s.size : Int)) 0 3 (by decide) (by decide)
  unfold Jw
  rw [e1]
  exact e3
theorem UN (s : ByteArray) : Kg s = Jw s := by
  obtain ⟨y, e1, e2, _⟩ := Po s (Int.toNat (s.size : Int)) 0 3 (by decide) (by decide)
  unfold Kg Jw
  rw [e1, e2]
theorem EP (s : ByteArray) : 0 ≤ Kg s ∧ Kg s ≤ 65520 := by rw [UN]; exact UM s
theorem UO (n l h : Int) (hl : l ≤ h) : V1 n l h = Ka n l h := by
  unfold V1 Ka
  rw [decide_eq_false (show ¬ h < l by omega), Bool.false_or]
  by_cases h1 : n < l
  · rw [decide_eq_true h1, cond_true]; omega
  rw [decide_eq_false h1, cond_false]
  by_cases h2 : n > h
  · rw [decide_eq_true h2, cond_true]; omega
  rw [decide_eq_false h2, cond_false]; omega
theorem QB (n h : Int) (h0 : 0 ≤ h) : 0 ≤ Ka n 0 h ∧ Ka n 0 h ≤ h := by unfold Ka; omega
theorem EQ (n h : Int) (h0 : 0 ≤ h) : 0 ≤ V1 n 0 h ∧ V1 n 0 h ≤ h := by rw [UO _ _ _ h0]; exact QB n h h0
/-! ### values as texts -/
theorem QC {v : Z7} (h : Qt v = true) (h1 : (v.1 == (1 : Int)) = true) : 0 ≤ v.2.1 ∧ v.2.1 ≤ 999 := by
  unfold Qt at h
  have e : v.1 = 1 := eq_of_beq h1
  rw [e] at h
  simp only [show ((1 : Int) == 0) = false from rfl, show ((1 : Int) == 1) = true from rfl, cond_true, cond_false, Bool.and_eq_true] at h
  exact Jn.1 h.1
theorem Bz {s : ByteArray} (h : Qy s = true) : 1 ≤ s.size ∧ s.size ≤ 6 := by
  unfold Qy at h
  cases hf : Jg (Xm s) Zn (Int.toNat (s.size : Int)) 0 () with
  | brk t => rw [hf] at h; have := Jn.1 h; omega
  | ret r =>
    rw [hf] at h
    obtain rfl : r = true := h
    exfalso
    have key : ∀ n k, Jg (Xm s) Zn n k () ≠ .ret true := by
      intro n
      induction n with
      | zero => intro k h; simp [Jg] at h
      | succ n ih =>
        intro k h
        simp only [Jg] at h
        unfold Xm at h
        cases hc : (decide (Yt s ((k : Nat) : Int) < (97 : Int)) || decide (Yt s ((k : Nat) : Int) > (122 : Int))) with
        | true => rw [hc] at h; simp at h
        | false => rw [hc] at h; exact ih _ h
    exact key _ _ hf
theorem ER {v : Z7} (h : Qt v = true) (h1 : (v.1 == (2 : Int)) = true) : Qy v.2.2 = true ∧ v.2.1 = 0 := by
  unfold Qt at h
  have e : v.1 = 2 := eq_of_beq h1
  rw [e] at h
  simp only [show ((2 : Int) == 0) = false from rfl, show ((2 : Int) == 1) = false from rfl, show ((2 : Int) == 2) = true from rfl, cond_true, cond_false, Bool.and_eq_true, beq_iff_eq] at h
  exact h
open GoD (rd own)
theorem Qag {α : Type} [GoD α] {a b : α} (h : ¬ a = b) : eqb a b = false := by
  unfold eqb
  exact @decide_eq_false _ (_) h
theorem Fh (r : List UInt8) : ∀ (l : List UInt8) (acc : Nat), Lib.decFrom acc (l ++ r) = (Lib.decFrom acc l).bind (fun a => Lib.decFrom a r)
  | [], acc => rfl
  | b :: l, acc => by
    simp only [List.cons_append, Lib.decFrom]
    cases Lib.digitVal b with
    | none => rfl
    | some d => exact Fh r l _
theorem Pp (d : Nat) (h : d < 10) : Lib.digitVal (UInt8.ofNat (48 + d)) = some d := by
  have h1 : (UInt8.ofNat (48 + d)).toNat = 48 + d := by rw [UInt8.toNat_ofNat']; omega
  unfold Lib.digitVal
  rw [h1, if_pos (by omega)]
  congr 1
  omega
theorem Fi : ∀ n : Nat, Lib.decFrom 0 (Lib.decDigits n) = some n := by
  intro n
  induction n using Nat.strongRecOn with
  | ind n ih =>
    by_cases h : n < 10
    · rw [Ec h]
      simp only [Lib.decFrom, Pp n h]
      simp
    rw [Nh h, Fh, ih (n / 10) (by omega)]
    simp only [Option.bind_some, Lib.decFrom, Pp (n % 10) (Nat.mod_lt _ (by decide))]
    congr 1
    omega
theorem Lp : ∀ n : Nat, ∀ b, b ∈ Lib.decDigits n → 48 ≤ b.toNat ∧ b.toNat ≤ 57 := by
  intro n
  induction n using Nat.strongRecOn with
  | ind n ih =>
    intro b hb
    by_cases h : n < 10
    · rw [Ec h] at hb
      have e := List.mem_singleton.1 hb
      rw [e, UInt8.toNat_ofNat']
      omega
    rw [Nh h] at hb
    rcases List.mem_append.1 hb with hb | hb
    · exact ih (n / 10) (by omega) b hb
    have e := List.mem_singleton.1 hb
    rw [e, UInt8.toNat_ofNat']
    omega
theorem Pq (n : Nat) : Lib.decDigits n ≠ [] := by
  by_cases h : n < 10
  · rw [Ec h]; simp
  rw [Nh h]; simp
theorem F7 (n : Nat) : Lib.atoi (Lib.decDigits n) = some (n : Int) := by
  have h1 := Fi n
  have h2 := Lp n
  have h3 := Pq n
  generalize Lib.decDigits n = l at *
  cases l with
  | nil => exact absurd rfl h3
  | cons b r =>
    have hb := h2 b (by simp)
    have e45 : (b == 45) = false := by
      rw [beq_eq_false_iff_ne]
      intro e
      rw [e] at hb
      exact absurd hb.1 (by decide)
    have e43 : (b == 43) = false := by
      rw [beq_eq_false_iff_ne]
      intro e
      rw [e] at hb
      exact absurd hb.1 (by decide)
    simp only [Lib.atoi, e45, e43, Lib.decNat, List.isEmpty_cons, h1]
    rfl
theorem AP (k n : Nat) (h : n < 10 ^ (k + 1)) : (Lib.decDigits n).length ≤ k + 1 := VB k n h
theorem Ps (n : Nat) : Qq (n : Int) = ⟨(Lib.decDigits n).toArray⟩ := by
  unfold Qq Lib.itoa
  rw [if_neg (by omega)]
  rfl
theorem Wl (n : Nat) : (Qq (n : Int)).data.toList = Lib.decDigits n := by rw [Ps]
def Ah (s : ByteArray) : Option Nat := match Lib.atoi s.data.toList with
  | some m => if m.toNat ≤ 1000000000 ∧ Qq (m.toNat : Int) = s then some m.toNat else none
  | none => none
theorem Lq {s : ByteArray} {n : Nat} (h : n ≤ 1000000000) (e : Qq (n : Int) = s) : Ah s = some n := by
  subst e
  unfold Ah
  rw [Wl, F7]
  exact if_pos ⟨h, rfl⟩
theorem Ig {s : ByteArray} (h : ∀ n : Nat, n ≤ 1000000000 → Qq (n : Int) ≠ s) : Ah s = none := by
  unfold Ah
  split
  · rename_i m _
    exact if_neg fun h2 => h _ h2.1 h2.2
  rfl
def Qbs : Option Nat → Value
  | some n => .tuple #[.int .i64 n, .bool true]
  | none => .tuple #[.int .i64 0, .bool false]
def errOk (w : World) : Prop := ∃ tp p, w.var? Tryz.prog "strconv.ErrSyntax" = some #[.iface tp p]
theorem Qb7 : Tryz.prog.globalNamed "strconv.ErrSyntax" = some 1 := by kernel_rfl
theorem errOk.keep {w w' : World} (h : errOk w) (hb : Below w.heap.size w w') : errOk w' := by
  obtain ⟨tp, p, h⟩ := h
  exact ⟨tp, p, Go.Joins.var_stays Qb7 h hb (Nat.le_refl _)⟩
set_option maxRecDepth 20000 in
theorem Pt (w : World) (s : ByteArray) (hs : s.size ≤ maxLen) (ht : tabOk w) (he : errOk w) : Calls Tryz.prog 78 #[.string s] w (Ret w (Qbs (Ah s))) := by
  unfold maxLen at hs
  have HT := Lib.hid ht; clear ht
  have HE := Lib.hid he; clear he
  by_cases hlen : 10 < s.size
  · have hno : Ah s = none := Ig fun n hn e => by
      have h1 := AP 9 n (by omega)
      have h2 : s.size = (Lib.decDigits n).length := by rw [← e, Ps]; simp [ByteArray.size]
      omega
    rw [hno]
    clear hno
    go_enter Tryz.func78, Tryz.ntmps78
    go_wp2
    refine bodyPost_ret (v := .tuple #[.int .i64 0, .bool false]) (by simp [results, Tryz.results78, go_sem]) rfl ⟨rfl, Below.refl _ _⟩
  cases ha : Lib.atoi s.data.toList with
  | none =>
    have hno : Ah s = none := Ig fun n hn e => by
      rw [← e, Wl, F7] at ha
      cases ha
    rw [hno]
    clear hno
    have HA := Lib.hid ha; clear ha
    go_enter Tryz.func78, Tryz.ntmps78
    go_wp2_with (go_at_call 108; obtain ⟨tp, p, hv⟩ := HE.out; refine (Sh.strconv_Atoi_err_var s (by omega) HA.out tp p w hv).mono ?_; clear hv; rintro e1 w1 ⟨N, rfl, hN, _, hb⟩; have HB := Lib.hid hb; clear hb)
    refine bodyPost_ret (v := .tuple #[.int .i64 0, .bool false]) (by simp [results, Tryz.results78, go_sem]) rfl ⟨rfl, HB.out⟩
  | some v =>
    have hun : ∀ n : Nat, Qq (n : Int) = s → v = (n : Int) := fun n e => by
      rw [← e, Wl, F7] at ha
      exact (Option.some.inj ha).symm
    have HUN := Lib.hid hun; clear hun
    have HA := Lib.hid ha; clear ha
    cases hr : inR v 0 1000000000
    · have hno : Ah s = none := Ig fun n hn e => by
        have h1 := HUN.out n e
        rw [h1, Ng (by omega) (by omega)] at hr
        cases hr
      rw [hno]
      clear hno
      have HR := Lib.hid hr; clear hr
      go_enter Tryz.func78, Tryz.ntmps78
      go_wp2_with (first | (go_at_call 108; refine (Sh.strconv_Atoi s _ (by omega) HA.out w).mono ?_; rintro e1 w1 ⟨rfl, t1, hw1⟩; have hG1 : Below w.heap.size w w1 := (by rw [hw1]; exact Go.Joins.below_bytesWorld _ _ _ _ (Nat.le_refl _)); clear hw1; have hz1 := hG1.size) | (go_at_call 57; refine Ek (w := w) (T8 _ v 0 1000000000 false HR.out) (by go_grown) ?_; intro g2 hG2 hb2 hz3 hz4; clear hb2 hz4))
      refine bodyPost_ret (v := .tuple #[.int .i64 0, .bool false]) (by simp [results, Tryz.results78, go_sem]) rfl ⟨rfl, (by go_grown)⟩
    have hrn : ∃ n : Nat, v = (n : Int) ∧ n ≤ 1000000000 := by
      unfold inR at hr
      simp only [Bool.and_eq_true, decide_eq_true_eq] at hr
      exact ⟨v.toNat, by omega, by omega⟩
    obtain ⟨n, rfl, hn⟩ := hrn
    have HR := Lib.hid hr; clear hr
    have hni : I64 (n : Int) := by unfold I64; omega
    have HNI := Lib.hid hni; clear hni
    by_cases he : Qq (n : Int) = s
    · rw [Lq hn he]
      have HEQ := Lib.hid he; clear he
      go_enter Tryz.func78, Tryz.ntmps78
      go_wp2_with (first | (go_at_call 108; refine (Sh.strconv_Atoi s _ (by omega) HA.out w).mono ?_; rintro e1 w1 ⟨rfl, t1, hw1⟩; have hG1 : Below w.heap.size w w1 := (by rw [hw1]; exact Go.Joins.below_bytesWorld _ _ _ _ (Nat.le_refl _)); clear hw1; have hz1 := hG1.size) | (go_at_call 57; refine Ek (w := w) (T8 _ n 0 1000000000 true HR.out) (by go_grown) ?_; intro g2 hG2 hb2 hz3 hz4; clear hb2 hz4) | (go_at_call 58; have hcon := (fun w1 h => Bi w1 n HNI.out h); rw [HEQ.out] at hcon; refine Ek (w := w) (hcon _ (HT.out.keep (by go_grown))) (by go_grown) ?_; clear hcon; intro g3 hG3 hb3 hz5 hz6; clear hb3 hz6))
      refine bodyPost_ret (v := .tuple #[.int .i64 n, .bool true]) (by simp [results, Tryz.results78, go_sem]) rfl ⟨rfl, (by go_grown)⟩
    have hno : Ah s = none := Ig fun m hm e => by
      have h1 := HUN.out m e
      have h2 : n = m := by omega
      exact he (h2 ▸ e)
    rw [hno]
    clear hno
    generalize hu : Qq (n : Int) = u at *
    have HU := Lib.hid hu; clear hu
    have hne : (u.toList == s.toList) = false := by rw [RF]; exact Qag he
    go_enter Tryz.func78, Tryz.ntmps78
    go_wp2_with (first | (go_at_call 108; refine (Sh.strconv_Atoi s _ (by omega) HA.out w).mono ?_; rintro e1 w1 ⟨rfl, t1, hw1⟩; have hG1 : Below w.heap.size w w1 := (by rw [hw1]; exact Go.Joins.below_bytesWorld _ _ _ _ (Nat.le_refl _)); clear hw1; have hz1 := hG1.size) | (go_at_call 57; refine Ek (w := w) (T8 _ n 0 1000000000 true HR.out) (by go_grown) ?_; intro g2 hG2 hb2 hz3 hz4; clear hb2 hz4) | (go_at_call 58; have hcon := (fun w1 h => Bi w1 n HNI.out h); rw [HU.out] at hcon; refine Ek (w := w) (hcon _ (HT.out.keep (by go_grown))) (by go_grown) ?_; clear hcon; intro g3 hG3 hb3 hz5 hz6; clear hb3 hz6))
    refine bodyPost_ret (v := .tuple #[.int .i64 0, .bool false]) (by simp [results, Tryz.results78, go_sem]) rfl ⟨rfl, (by go_grown)⟩
def Qg (s : ByteArray) : Int × Bool := match Ah s with
  | some n => (n, true)
  | none => (0, false)
theorem Ih {s : ByteArray} {n : Nat} (h : Ah s = some n) : n ≤ 1000000000 ∧ Qq (n : Int) = s := by
  unfold Ah at h
  split at h
  · split at h
    · rename_i h2
      cases h
      exact h2
    cases h
  cases h
section
variable {P : Program}
theorem ZA {f : Nat} (hok : Br P f) {s : ByteArray} (h : ∀ w, Good P w → s.size ≤ maxLen → Calls P f #[.string s] w (Ret w (Qbs (Ah s)))) : ACalls P f [.s s] (.tup [(false, [.i (Qg s).1]), (false, [.b (Qg s).2])]) := by
  refine ⟨hok, fun w hg F vals hF hall => ?_⟩
  cases hall with
  | cons h1 h2 =>
    cases h2
    obtain ⟨rfl, hs⟩ := h1
    refine (h w hg hs).mono ?_
    rintro e w' ⟨rfl, hb⟩
    refine ⟨_, fun _ => [], rfl, hb, fun _ => List.nodup_nil, fun k b hm => by simp at hm, fun k k' b hm => by simp at hm, ?_⟩
    unfold Qg Qbs
    split
    · rename_i n hn
      have := (Ih hn).1
      exact ⟨[_, _], rfl, .cons ⟨_, rfl, rfl, by constructor <;> simp [IntKind.min, IntKind.max, IntKind.bits, IntKind.signed] <;> omega⟩ (.cons ⟨_, rfl, rfl⟩ .nil)⟩
    exact ⟨[_, _], rfl, .cons ⟨_, rfl, rfl, by constructor <;> decide⟩ (.cons ⟨_, rfl, rfl⟩ .nil)⟩
end
theorem Vm (s : ByteArray) : ACalls Tryz.prog 78 [.s s] (.tup [(false, [.i (Qg s).1]), (false, [.b (Qg s).2])]) := ZA (by unfold Br; kernel_rfl) fun w hg hs => Pt w s hs (hg.tab _ Qbr) (hg.err _ Qb7)
open GoE (enc wide)
def Xe (v : Z7) : ByteArray := (bif (!(Qt v)) then ⟨#[63]⟩ else (bif (v.1 == (1 : Int)) then (Qq v.2.1) else (bif (v.1 == (2 : Int)) then v.2.2 else ⟨#[45]⟩)))
theorem Ck (v : Z7) : ACalls Tryz.prog 116 [.a [.i v.1, .i v.2.1, .s v.2.2]] (.s (Xe v)) := by
 refine en Qa Tryz.func116 fun w0 F0 hG => ?_
 refine sn Qa [1, 2] [1] (p0) ?_
 refine Qc ?_
 refine Qz ?_
 refine tn Qa [1, 2, 3] [1] (pc 1 (Zb v) p0) ?_
 refine ck (!(Qt v)) (fun h1 => ?_) (fun h1 => ?_)
 ·
  refine tu Qa [(2, .s ⟨#[63]⟩)] [0] [] [] (p0) ?_
  refine Qe ?_
  exact ps [] (Xh h1 (rfl))
 have h1n : (Qt v) = true := Z4 h1
 refine tu Qa [(1, .p 1 0), (2, .s ⟨#[]⟩), (7, .b (v.1 == (1 : Int)))] [0] [(1, [.i v.1, .i v.2.1, .s v.2.2])] [] (p0) ?_
 refine ck (v.1 == (1 : Int)) (fun h2 => ?_) (fun h2 => ?_)
 ·
  have h2v := QC h1n h2
  have h2d := eq_of_beq h2
  have hk3 := Zf (n := v.2.1) (by omega)
  refine sn Qa [2] [] (pc 2 (Ko v.2.1 (by omega)) p0) ?_
  refine Qe ?_
  exact ps [] (Qj h1 (Xh h2 (rfl)))
 refine sn Qa [1, 2, 14] [1] (p0) ?_
 refine ck (v.1 == (2 : Int)) (fun h4 => ?_) (fun h4 => ?_)
 ·
  refine tn Qa [2] [] (p0) ?_
  refine Qe ?_
  exact ps [] (Qj h1 (Qj h2 (Xh h4 (rfl))))
 refine Qf ?_
 refine tn Qa [2] [] (p0) ?_
 refine Qe ?_
 exact ps [] (Qj h1 (Qj h2 (Qj h4 (rfl))))
def Yc (v : Z7) : ByteArray := (bif (!(Xg v)) then ⟨#[63]⟩ else (bif (v.1 == (1 : Int)) then (Qq v.2.1) else (bif (v.1 == (2 : Int)) then v.2.2 else ⟨#[45]⟩)))
theorem W9 (v : Z7) : ACalls Tryz.prog 72 [.a [.i v.1, .i v.2.1, .s v.2.2]] (.s (Yc v)) := by
 refine en Qa Tryz.func72 fun w0 F0 hG => ?_
 refine sn Qa [1, 2] [1] (p0) ?_
 refine Qc ?_
 refine Qz ?_
 refine tn Qa [1, 2, 3] [1] (pc 1 (Ya v) p0) ?_
 refine ck (!(Xg v)) (fun h1 => ?_) (fun h1 => ?_)
 ·
  refine tu Qa [(2, .s ⟨#[63]⟩)] [0] [] [] (p0) ?_
  refine Qe ?_
  exact ps [] (Xh h1 (rfl))
 have h1n : (Xg v) = true := Z4 h1
 refine tu Qa [(1, .p 1 0), (2, .s ⟨#[]⟩), (7, .b (v.1 == (1 : Int)))] [0] [(1, [.i v.1, .i v.2.1, .s v.2.2])] [] (p0) ?_
 refine ck (v.1 == (1 : Int)) (fun h2 => ?_) (fun h2 => ?_)
 ·
  have h2v := QC h1n h2
  have h2d := eq_of_beq h2
  have hk3 := Zf (n := v.2.1) (by omega)
  refine sn Qa [2] [] (pc 2 (Jt v.2.1 (by omega)) p0) ?_
  refine Qe ?_
  exact ps [] (Qj h1 (Xh h2 (rfl)))
 refine sn Qa [1, 2, 14] [1] (p0) ?_
 refine ck (v.1 == (2 : Int)) (fun h4 => ?_) (fun h4 => ?_)
 ·
  refine tn Qa [2] [] (p0) ?_
  refine Qe ?_
  exact ps [] (Qj h1 (Qj h2 (Xh h4 (rfl))))
 refine Qf ?_
 refine tn Qa [2] [] (p0) ?_
 refine Qe ?_
 exact ps [] (Qj h1 (Qj h2 (Qj h4 (rfl))))
def Zo (n : Int) : Z7 := (1, n, ⟨#[]⟩)
theorem Ri (n : Int) : ACalls Tryz.prog 184 [.i n] (.a [.i ((Zo n).1), .i ((Zo n).2.1), .s ((Zo n).2.2)]) := by
 refine en Qa Tryz.func184 fun w0 F0 hG => ?_
 refine sn Qa [0, 2] [2] (p0) ?_
 refine tn Qa [2] [2] (p0) ?_
 refine Qe ?_
 exact pz [] (show Zo n = (1, n, ⟨#[]⟩) from rfl) (fun z => .a [.i z.1, .i z.2.1, .s z.2.2])
def Yw (s_ : ByteArray) : Z7 := (2, 0, s_)
theorem Lr (s_ : ByteArray) : ACalls Tryz.prog 185 [.s s_] (.a [.i ((Yw s_).1), .i ((Yw s_).2.1), .s ((Yw s_).2.2)]) := by
 refine en Qa Tryz.func185 fun w0 F0 hG => ?_
 refine sn Qa [0, 2] [2] (p0) ?_
 refine tn Qa [2] [2] (p0) ?_
 refine Qe ?_
 exact pz [] (show Yw s_ = (2, 0, s_) from rfl) (fun z => .a [.i z.1, .i z.2.1, .s z.2.2])
def Qn (s_ : ByteArray) : Z7 × Bool := (bif (Qg s_).2 then (bif (!(Qt (Zo ((Qg s_).1)))) then ((0, 0, ⟨#[]⟩), false) else ((Zo ((Qg s_).1)), true)) else (bif (!(s_.toList == (⟨#[45]⟩ : ByteArray).toList)) then (bif (!(Qt (Yw s_))) then ((0, 0, ⟨#[]⟩), false) else ((Yw s_), true)) else (bif (!(Qt (0, 0, ⟨#[]⟩))) then ((0, 0, ⟨#[]⟩), false) else ((0, 0, ⟨#[]⟩), true))))
theorem Dg (s_ : ByteArray) : ACalls Tryz.prog 161 [.s s_] (.tup [(true, [.i ((((Qn s_)).1).1), .i ((((Qn s_)).1).2.1), .s ((((Qn s_)).1).2.2)]), (false, [.b (((Qn s_)).2)])]) := by
 refine en Qa Tryz.func161 fun w0 F0 hG => ?_
 refine sn Qa [0, 2, 3] [2] (p0) ?_
 refine tn Qa [0, 2, 3, 4, 5] [2] (pc 1 (Vm s_) p0) ?_
 refine tu Qa [(2, .p 2 0), (3, .b false), (4, .i ((Qg s_).1)), (5, .b ((Qg s_).2)), (6, .p 6 0)] [] [(2, [.i 0, .i 0, .s ⟨#[]⟩]), (6, [.i 0, .i 0, .s ⟨#[]⟩])] [] (p0) ?_
 refine Qc ?_
 refine Qz ?_
 refine sn Qa [0, 2, 3, 4, 6, 13] [2, 6] (p0) ?_
 refine ck ((Qg s_).2) (fun h1 => ?_) (fun h1 => ?_)
 ·
  refine qn Qa [2, 3, 6] [2, 6] (pc 1 (Ri ((Qg s_).1)) p0) ?_
  refine Qc ?_
  refine tu Qa [(24, .b (!(Qt (Zo ((Qg s_).1)))))] [0, 4, 5] [(6, [.i ((Zo ((Qg s_).1)).1), .i ((Zo ((Qg s_).1)).2.1), .s ((Zo ((Qg s_).1)).2.2)])] [6] (pc 1 (Zb (Zo ((Qg s_).1))) p0) ?_
  refine ck (!(Qt (Zo ((Qg s_).1)))) (fun h2 => ?_) (fun h2 => ?_)
  ·
   refine su Qa [] [24] [] [] (p0) ?_
   refine Qe ?_
   exact pz [] (show Qn s_ = _ from Xh h1 (Xh h2 (rfl))) (fun z => .tup [(true, [.i z.1.1, .i z.1.2.1, .s z.1.2.2]), (false, [.b z.2])])
  refine Qf ?_
  refine sn Qa [2, 3] [2] (p0) ?_
  refine Qe ?_
  exact pz [] (show Qn s_ = _ from Xh h1 (Qj h2 (rfl))) (fun z => .tup [(true, [.i z.1.1, .i z.1.2.1, .s z.1.2.2]), (false, [.b z.2])])
 refine tn Qa [0, 2, 3, 6, 17] [2, 6] (p0) ?_
 refine ck (!(s_.toList == (⟨#[45]⟩ : ByteArray).toList)) (fun h3 => ?_) (fun h3 => ?_)
 ·
  refine qu Qa [] [0, 4, 5] [(6, [.i ((Yw s_).1), .i ((Yw s_).2.1), .s ((Yw s_).2.2)])] [6] (pc 1 (Lr s_) p0) ?_
  refine Qc ?_
  refine sn Qa [2, 3, 6, 24] [2, 6] (pc 1 (Zb (Yw s_)) p0) ?_
  refine ck (!(Qt (Yw s_))) (fun h4 => ?_) (fun h4 => ?_)
  ·
   refine tu Qa [] [] [] [] (p0) ?_
   refine Qe ?_
   exact pz [] (show Qn s_ = _ from Qj h1 (Xh h3 (Xh h4 (rfl)))) (fun z => .tup [(true, [.i z.1.1, .i z.1.2.1, .s z.1.2.2]), (false, [.b z.2])])
  refine Qf ?_
  refine tn Qa [2, 3] [2] (p0) ?_
  refine Qe ?_
  exact pz [] (show Qn s_ = _ from Qj h1 (Xh h3 (Qj h4 (rfl)))) (fun z => .tup [(true, [.i z.1.1, .i z.1.2.1, .s z.1.2.2]), (false, [.b z.2])])
 refine Qf ?_
 refine Qc ?_
 refine tu Qa [(24, .b (!(Qt (0, 0, ⟨#[]⟩))))] [0, 4, 5] [] [] (pc 1 (Zb (0, 0, ⟨#[]⟩)) p0) ?_
 refine ck (!(Qt (0, 0, ⟨#[]⟩))) (fun h5 => ?_) (fun h5 => ?_)
 ·
  refine su Qa [] [24] [] [] (p0) ?_
  refine Qe ?_
  exact pz [] (show Qn s_ = _ from Qj h1 (Qj h3 (Xh h5 (rfl)))) (fun z => .tup [(true, [.i z.1.1, .i z.1.2.1, .s z.1.2.2]), (false, [.b z.2])])
 refine Qf ?_
 refine sn Qa [2, 3] [2] (p0) ?_
 refine Qe ?_
 exact pz [] (show Qn s_ = _ from Qj h1 (Qj h3 (Qj h5 (rfl)))) (fun z => .tup [(true, [.i z.1.1, .i z.1.2.1, .s z.1.2.2]), (false, [.b z.2])])
def X2 (w : ByteArray) : Z7 := (2, 0, w)
theorem Lt (w : ByteArray) : ACalls Tryz.prog 122 [.s w] (.a [.i ((X2 w).1), .i ((X2 w).2.1), .s ((X2 w).2.2)]) := by
 refine en Qa Tryz.func122 fun w0 F0 hG => ?_
 refine sn Qa [0, 2] [2] (p0) ?_
 refine tn Qa [2] [2] (p0) ?_
 refine Qe ?_
 exact pz [] (show X2 w = (2, 0, w) from rfl) (fun z => .a [.i z.1, .i z.2.1, .s z.2.2])
def Ys (n : Int) : Z7 := (1, n, ⟨#[]⟩)
theorem Rj (n : Int) : ACalls Tryz.prog 123 [.i n] (.a [.i ((Ys n).1), .i ((Ys n).2.1), .s ((Ys n).2.2)]) := by
 refine en Qa Tryz.func123 fun w0 F0 hG => ?_
 refine sn Qa [0, 2] [2] (p0) ?_
 refine tn Qa [2] [2] (p0) ?_
 refine Qe ?_
 exact pz [] (show Ys n = (1, n, ⟨#[]⟩) from rfl) (fun z => .a [.i z.1, .i z.2.1, .s z.2.2])
def Q8 (s_ : ByteArray) : Z7 × Bool := (bif (s_.toList == (⟨#[45]⟩ : ByteArray).toList) then ((0, 0, ⟨#[]⟩), true) else (bif ((Q2 s_)).2 then (bif ((!(Xg (Ys (((Q2 s_)).1)))) || (!((Yc (Ys (((Q2 s_)).1))).toList == s_.toList))) then ((0, 0, ⟨#[]⟩), false) else ((Ys (((Q2 s_)).1)), true)) else (bif ((!(Xg (X2 s_))) || (!((Yc (X2 s_)).toList == s_.toList))) then ((0, 0, ⟨#[]⟩), false) else ((X2 s_), true))))
theorem Dh (s_ : ByteArray) : ACalls Tryz.prog 93 [.s s_] (.tup [(true, [.i ((((Q8 s_)).1).1), .i ((((Q8 s_)).1).2.1), .s ((((Q8 s_)).1).2.2)]), (false, [.b (((Q8 s_)).2)])]) := by
 refine en Qa Tryz.func93 fun w0 F0 hG => ?_
 refine sn Qa [0, 2, 3] [2] (p0) ?_
 refine Qc ?_
 refine tn Qa [0, 2, 3, 8] [2] (p0) ?_
 refine ck (s_.toList == (⟨#[45]⟩ : ByteArray).toList) (fun h1 => ?_) (fun h1 => ?_)
 ·
  refine tu Qa [(2, .p 2 0), (3, .b true)] [] [(2, [.i 0, .i 0, .s ⟨#[]⟩])] [] (p0) ?_
  refine Qe ?_
  exact pz [] (show Q8 s_ = _ from Xh h1 (rfl)) (fun z => .tup [(true, [.i z.1.1, .i z.1.2.1, .s z.1.2.2]), (false, [.b z.2])])
 refine Qf ?_
 refine tu Qa [(2, .p 2 0), (3, .b false), (4, .i (((Q2 s_)).1)), (5, .b (((Q2 s_)).2))] [] [(2, [.i 0, .i 0, .s ⟨#[]⟩])] [] (pc 1 (Bm s_) p0) ?_
 refine sn Qa [0, 2, 3, 4, 5, 6] [2, 6] (pc 1 (Lt s_) p0) ?_
 refine Qc ?_
 refine tn Qa [0, 2, 3, 4, 6, 17] [2, 6] (p0) ?_
 refine ck (((Q2 s_)).2) (fun h2 => ?_) (fun h2 => ?_)
 ·
  refine qu Qa [(6, .p 6 0)] [4, 5] [(6, [.i ((Ys (((Q2 s_)).1)).1), .i ((Ys (((Q2 s_)).1)).2.1), .s ((Ys (((Q2 s_)).1)).2.2)])] [] (pc 1 (Rj (((Q2 s_)).1)) p0) ?_
  refine Qc ?_
  refine Qc ?_
  refine jn [(28, .b ((!(Xg (Ys (((Q2 s_)).1)))) || (!((Yc (Ys (((Q2 s_)).1))).toList == s_.toList))))] [0] [] [] (!(Xg (Ys (((Q2 s_)).1)))) (fun h3 => ?_) (fun h3 => ?_) ?_
  ·
   have h3n : (Xg (Ys (((Q2 s_)).1))) = false := Vp h3
   refine rn Qa [2, 3, 6, 28] [2, 6] (pc 1 (cb h3n (Ya (Ys (((Q2 s_)).1)))) (pe 2 (show .b (!false) = .b true from rfl) p0)) ?_
   exact ⟨rfl, Qd (by rw [h3] <;> kernel_rfl)⟩
  ·
   have h3n : (Xg (Ys (((Q2 s_)).1))) = true := Z4 h3
   refine rn Qa [2, 3, 6, 28] [2, 6] (pc 1 (cb h3n (Ya (Ys (((Q2 s_)).1)))) (pe 2 (show .b (!true) = .b false from rfl) (pc 5 (W9 (Ys (((Q2 s_)).1))) p0))) ?_
   exact ⟨rfl, Qd (by rw [h3] <;> kernel_rfl)⟩
  refine ck ((!(Xg (Ys (((Q2 s_)).1)))) || (!((Yc (Ys (((Q2 s_)).1))).toList == s_.toList))) (fun h4 => ?_) (fun h4 => ?_)
  ·
   refine su Qa [] [28] [] [] (p0) ?_
   refine Qe ?_
   exact pz [] (show Q8 s_ = _ from Qj h1 (Xh h2 (Xh h4 (rfl)))) (fun z => .tup [(true, [.i z.1.1, .i z.1.2.1, .s z.1.2.2]), (false, [.b z.2])])
  refine Qf ?_
  refine sn Qa [2, 3] [2] (p0) ?_
  refine Qe ?_
  exact pz [] (show Q8 s_ = _ from Qj h1 (Xh h2 (Qj h4 (rfl)))) (fun z => .tup [(true, [.i z.1.1, .i z.1.2.1, .s z.1.2.2]), (false, [.b z.2])])
 refine Qf ?_
 refine Qc ?_
 refine Qc ?_
 refine mz [(6, .p 6 0), (17, .b (((Q2 s_)).2))] [5] [(6, [.i ((X2 s_).1), .i ((X2 s_).2.1), .s ((X2 s_).2.2)])] [] ?_
 refine jn [(28, .b ((!(Xg (X2 s_))) || (!((Yc (X2 s_)).toList == s_.toList))))] [0, 4, 17] [] [] (!(Xg (X2 s_))) (fun h5 => ?_) (fun h5 => ?_) ?_
 ·
  have h5n : (Xg (X2 s_)) = false := Vp h5
  refine rn Qa [2, 3, 6, 28] [2, 6] (pc 1 (cb h5n (Ya (X2 s_))) (pe 2 (show .b (!false) = .b true from rfl) p0)) ?_
  exact ⟨rfl, Qd (by rw [h5] <;> kernel_rfl)⟩
 ·
  have h5n : (Xg (X2 s_)) = true := Z4 h5
  refine rn Qa [2, 3, 6, 28] [2, 6] (pc 1 (cb h5n (Ya (X2 s_))) (pe 2 (show .b (!true) = .b false from rfl) (pc 5 (W9 (X2 s_)) p0))) ?_
  exact ⟨rfl, Qd (by rw [h5] <;> kernel_rfl)⟩
 refine ck ((!(Xg (X2 s_))) || (!((Yc (X2 s_)).toList == s_.toList))) (fun h6 => ?_) (fun h6 => ?_)
 ·
  refine su Qa [] [28] [] [] (p0) ?_
  refine Qe ?_
  exact pz [] (show Q8 s_ = _ from Qj h1 (Qj h2 (Xh h6 (rfl)))) (fun z => .tup [(true, [.i z.1.1, .i z.1.2.1, .s z.1.2.2]), (false, [.b z.2])])
 refine Qf ?_
 refine sn Qa [2, 3] [2] (p0) ?_
 refine Qe ?_
 exact pz [] (show Q8 s_ = _ from Qj h1 (Qj h2 (Qj h6 (rfl)))) (fun z => .tup [(true, [.i z.1.1, .i z.1.2.1, .s z.1.2.2]), (false, [.b z.2])])
def Qh (p : (List ByteArray)) (at_ : Int) : ByteArray := (bif decide (at_ ≥ (p.length : Int)) then ⟨#[]⟩ else (nth p (Int.toNat at_)))
theorem Je (p : (List ByteArray)) (at_ : Int) (hp : 0 ≤ at_) : ACalls Tryz.prog 91 [.h p, .i at_] (.s (Qh p at_)) := by
 refine en Qa Tryz.func91 fun w0 F0 hG => ?_
 refine sn Qa [0, 1, 4] [] (p0) ?_
 refine Qc ?_
 refine tn Qa [0, 1, 4, 8] [] (pl 2 p p0) ?_
 refine ck (decide (at_ ≥ (p.length : Int))) (fun h1 => ?_) (fun h1 => ?_)
 ·
  refine tu Qa [(4, .s ⟨#[]⟩)] [] [] [] (p0) ?_
  refine Qe ?_
  exact ps [] (Xh h1 (rfl))
 have h1d := of_decide_eq_false h1
 refine Qf ?_
 refine wT 0 0 .sh p (fun hw3 hl4 => ?_)
 have hx2 := ng p (Int.toNat at_)
 refine tu Qa [(4, .s (nth p (Int.toNat at_)))] [0, 1] [] [] (pg 2 at_ hx2 p0) ?_
 refine Qe ?_
 exact ps [] (Qj h1 (rfl))
def Ve (k0 : Nat) (a0 : ByteArray) (s0 : ByteArray) : Rd (ByteArray) (ByteArray) (ByteArray) := (bif decide (((k0 : Nat) : Int) > (0 : Int)) then (.next ((s0 ++ (⟨#[32]⟩ : ByteArray)) ++ a0)) else (.next (s0 ++ a0)))
def Uj (_ : Nat) (s0 : ByteArray) : ByteArray := s0
def Jf (p : (List ByteArray)) : ByteArray := (Out.on (Yr Ve Uj p 0 ⟨#[]⟩) (fun y0 => y0))
theorem Ii (p : (List ByteArray)) (hp : List.length p ≤ 24) (hq : ∀ y, y ∈ p → ByteArray.size y ≤ 600) : ACalls Tryz.prog 95 [.h p] (.s (Jf p)) := by
 refine en Qa Tryz.func95 fun w0 F0 hG => ?_
 have hq1 : ByteArray.size (⟨#[32]⟩ : ByteArray) = 1 := rfl
 refine sn Qa [0, 2] [] (p0) ?_
 refine tn Qa [0, 2, 3] [] (p0) ?_
 refine Qc ?_
 refine tu Qa [(2, .s ⟨#[]⟩), (3, .s ⟨#[]⟩), (4, .i 0)] [] [] [] (p0) ?_
 refine wT 0 0 .sh p (fun hw1 hl2 => ?_)
 refine Qa7 Ve Uj p ⟨#[]⟩ (fun k0 s0 => [(3, .s s0), (4, .i ((k0 : Nat) : Int))]) [3, 4] (fun y0 => [(3, .s y0)]) [0, 3, 4] (fun k0 s0 => ByteArray.size s0 ≤ 700 * k0) wf0 (by decide) (fun k0 s0 hk0 hI0 => ?_) (fun k0 s0 hk0 hI0 => ?_) (fun y0 hD0 => ?_)
 ·
  have hA0_0 := hI0.2
  obtain ⟨a0, hx0⟩ := Yp (l := p) (i := k0) hk0
  have hx1 := hq _ (List.mem_of_getElem? hx0)
  refine Qc ?_
  refine sn Qa [0, 2, 3, 4, 8] [] (pl 2 p (pe 3 (Q1 (decide_eq_true (p := ((k0 : Nat) : Int) < (p.length : Int)) (by omega))) p0)) ?_
  refine ckT ?_
  refine Qf ?_
  refine Qc ?_
  refine Qz ?_
  refine Qc ?_
  refine tn Qa [0, 2, 3, 4, 12] [] (p0) ?_
  refine ck (decide (((k0 : Nat) : Int) > (0 : Int))) (fun h3 => ?_) (fun h3 => ?_)
  ·
   have h3d := of_decide_eq_true h3
   refine qu Qa [(3, .s (s0 ++ (⟨#[32]⟩ : ByteArray)))] [3] [] [] (px (Yi (n := (ByteArray.size s0 + ByteArray.size (⟨#[32]⟩ : ByteArray))) (by have hq0 : ByteArray.size (⟨#[32]⟩ : ByteArray) = 1 := rfl; unfold maxLen; first | omega | (simp only [ByteArray.size_append]; omega))) p0) ?_
   refine rn Qa [0, 2, 3, 4] [] (pn 3 hx0 (px (Yi (n := (ByteArray.size (s0 ++ (⟨#[32]⟩ : ByteArray)) + ByteArray.size a0)) (by have hq0 : ByteArray.size (⟨#[32]⟩ : ByteArray) = 1 := rfl; unfold maxLen; first | omega | (simp only [ByteArray.size_append]; omega))) p0)) ?_
   refine qn Qa [0, 2, 3, 4] [] (pe 1 (Jq (Q4 k0 (by omega))) p0) ?_
   exact xw ((s0 ++ (⟨#[32]⟩ : ByteArray)) ++ a0) ⟨Xp hx0 (Xh h3 (rfl)) hI0.1, (by first | omega | (simp only [ByteArray.size_append]; omega))⟩
  have h3d := of_decide_eq_false h3
  refine Qf ?_
  refine qu Qa [(3, .s (s0 ++ a0))] [3] [] [] (pn 3 hx0 (px (Yi (n := (ByteArray.size s0 + ByteArray.size a0)) (by unfold maxLen; first | omega | (simp only [ByteArray.size_append]; omega))) p0)) ?_
  refine rn Qa [0, 2, 3, 4] [] (pe 1 (Jq (Q4 k0 (by omega))) p0) ?_
  exact xw (s0 ++ a0) ⟨Xp hx0 (Qj h3 (rfl)) hI0.1, (by first | omega | (simp only [ByteArray.size_append]; omega))⟩
 ·
  have hA0_0 := hI0.2
  refine Qc ?_
  refine sn Qa [0, 2, 3, 4, 8] [] (pl 2 p (pe 3 (Q1 (decide_eq_false (p := ((k0 : Nat) : Int) < (p.length : Int)) (by omega))) p0)) ?_
  refine ckF ?_
  refine Xu ?_
  exact xw _ (Yq hk0 (rfl) hI0.1)
 refine sn Qa [2] [] (p0) ?_
 refine Qe ?_
 exact ps [] (V4 hD0 (rfl))
def X5 (p : (List ByteArray)) (at_ : Int) : Int := ((Q2 (Qh p at_))).1
theorem B0 (p : (List ByteArray)) (at_ : Int) (hp : 0 ≤ at_) : ACalls Tryz.prog 92 [.h p, .i at_] (.i (X5 p at_)) := by
 refine en Qa Tryz.func92 fun w0 F0 hG => ?_
 refine sn Qa [0, 1, 4] [] (p0) ?_
 refine tn Qa [4, 5] [] (pc 2 (Je p at_ (by omega)) (pc 3 (Bm (Qh p at_)) p0)) ?_
 refine tu Qa [(4, .i (((Q2 (Qh p at_))).1))] [0, 1] [] [] (p0) ?_
 refine Qe ?_
 exact pi [] (show X5 p at_ = ((Q2 (Qh p at_))).1 from rfl)
def Bn (b : (List ByteArray)) (k0 : Nat) (a0 : ByteArray) (_ : Unit) : Rd (Bool) (Unit) (Unit) := (bif (!(a0.toList == (nth b k0).toList)) then (.ret false) else (.next ()))
def Bo (_ : Nat) (_ : Unit) : Unit := ()
def U1 (a_ : (List ByteArray)) (b : (List ByteArray)) : Bool := (bif ((a_.length : Int) != (b.length : Int)) then false else (Out.on (Yr (Bn b) Bo a_ 0 ()) (fun _ => true)))
theorem Rk (a_ : (List ByteArray)) (b : (List ByteArray)) : ACalls Tryz.prog 67 [.h a_, .h b] (.b (U1 a_ b)) := by
 refine en Qa Tryz.func67 fun w0 F0 hG => ?_
 refine sn Qa [0, 1, 4] [] (p0) ?_
 refine Qc ?_
 refine tn Qa [0, 1, 4, 10] [] (pl 1 a_ (pl 3 b p0)) ?_
 refine ck ((a_.length : Int) != (b.length : Int)) (fun h1 => ?_) (fun h1 => ?_)
 ·
  refine tu Qa [(4, .b false)] [] [] [] (p0) ?_
  refine Qe ?_
  exact pb [] (Xh h1 (rfl))
 have h1d := Hb h1
 refine Qf ?_
 refine Qc ?_
 refine tu Qa [(4, .b false), (5, .i 0)] [] [] [] (p0) ?_
 refine wT 0 0 .sh a_ (fun hw2 hl3 => ?_)
 refine Rb (Bn b) Bo a_ () (fun k0 _ => [(5, .i ((k0 : Nat) : Int))]) [5] (fun _ => []) [0, 1, 5] wf0 (fun k0 s0 hk0 hI0 => ?_) (fun k0 s0 hk0 hI0 => ?_) (fun y0 hD0 => ?_)
 ·
  obtain ⟨a0, hx0⟩ := Yp (l := a_) (i := k0) hk0
  refine Qc ?_
  refine sn Qa [0, 1, 4, 5, 14] [] (pl 2 a_ (pe 3 (Q1 (decide_eq_true (p := ((k0 : Nat) : Int) < (a_.length : Int)) (by omega))) p0)) ?_
  refine ckT ?_
  refine Qf ?_
  refine Qc ?_
  refine Qz ?_
  refine wT 1 0 .sh b (fun hw5 hl6 => ?_)
  have hx4 := ng b k0
  refine tN Qa Yz [0, 1, 4, 5, 25] [] (pn 2 hx0 (pn 6 hx4 p0)) ?_
  refine ck (!(a0.toList == (nth b k0).toList)) (fun h7 => ?_) (fun h7 => ?_)
  ·
   refine tu Qa [] [] [] [] (p0) ?_
   refine Qe ?_
   have hr8 : (Yr (Bn b) Bo a_ 0 ()) = .ret false := Kb hx0 (Xh h7 (rfl)) hI0
   exact pb [] (Qj h1 (Mo hr8))
  refine Qf ?_
  refine qu Qa [(5, .i ((k0 + 1 : Nat) : Int))] [5] [] [] (pe 1 (Jq (Q4 k0 (by omega))) p0) ?_
  exact xw _ (Xp hx0 (Qj h7 (rfl)) hI0)
 ·
  refine Qc ?_
  refine sn Qa [0, 1, 4, 5, 14] [] (pl 2 a_ (pe 3 (Q1 (decide_eq_false (p := ((k0 : Nat) : Int) < (a_.length : Int)) (by omega))) p0)) ?_
  refine ckF ?_
  refine Xu ?_
  exact xw _ (Yq hk0 (rfl) hI0)
 refine sn Qa [4] [] (p0) ?_
 refine Qe ?_
 exact pb [] (Qj h1 (V4 hD0 (rfl)))
theorem Ab (a b : List UInt8) : Wk (a ++ b) = Wk a ++ Wk b := by
  apply ByteArray.ext
  rw [ByteArray.data_append]
  show (a ++ b).toArray = a.toArray ++ b.toArray
  simp
theorem Zd (s a : ByteArray) : Q6 s [a] = a := by
  unfold Q6
  rw [List.map_cons, List.map_nil, Lib.join_one, Kf]
theorem Jh (s a b : ByteArray) (l : List ByteArray) : Q6 s (a :: b :: l) = a ++ s ++ Q6 s (b :: l) := by
  unfold Q6
  simp only [List.map_cons]
  rw [Lib.join_cons, Lib.join_cons]
  unfold Lib.joinTail
  simp only [List.map_cons, List.flatten_cons]
  rw [Ab, Ab, Ab, Ab, Kf, Kf, Kf]
  simp only [ByteArray.append_assoc]
theorem Zy (s a b : ByteArray) : Q6 s [a, b] = (a ++ s) ++ b := by rw [Jh, Zd]
theorem Zq (s a b c : ByteArray) : Q6 s [a, b, c] = (((a ++ s) ++ b) ++ s) ++ c := by
  rw [Jh, Zy]; simp only [ByteArray.append_assoc]
theorem H1 (s : ByteArray) : ∀ {l m : List ByteArray}, l ≠ [] → m ≠ [] → Q6 s (l ++ m) = Q6 s l ++ s ++ Q6 s m
  | [], _, h, _ => absurd rfl h
  | [a], [], _, h => absurd rfl h
  | [a], b :: m, _, _ => by rw [List.singleton_append, Jh, Zd]
  | a :: b :: l, m, _, h => by
    have ih := H1 s (l := b :: l) (m := m) (fun e => by cases e) h
    rw [List.cons_append] at ih
    rw [List.cons_append, List.cons_append, Jh, ih, Jh]
    simp only [ByteArray.append_assoc]
theorem Su {s : ByteArray} {m : Nat} (hs : s.size = 1) : ∀ {l : List ByteArray}, (∀ y, y ∈ l → y.size ≤ m) → (Q6 s l).size ≤ l.length * (m + 1)
  | [], _ => Nat.zero_le _
  | [a], h => by rw [Zd]; have := h a (List.mem_cons_self ..); simp only [List.length_cons, List.length_nil]; omega
  | a :: b :: l, h => by
    rw [Jh, ByteArray.size_append, ByteArray.size_append]
    have h1 := h a (List.mem_cons_self ..)
    have h2 := Su hs (l := b :: l) fun y hy => h y (List.mem_cons_of_mem _ hy)
    simp only [List.length_cons, Nat.add_mul] at h2 ⊢
    omega
theorem J0 {s : ByteArray} {m n : Nat} {l : List ByteArray} (hs : s.size = 1) (h : ∀ y, y ∈ l → y.size ≤ m) (hl : l.length ≤ n) : (Q6 s l).size ≤ n * (m + 1) :=
  Nat.le_trans (Su hs h) (Nat.mul_le_mul_right _ hl)
theorem Pu {c : UInt8} (a b : ByteArray) (l : List ByteArray) : (Q6 ⟨#[c]⟩ (a :: b :: l)).data.toList = a.data.toList ++ c :: (Q6 ⟨#[c]⟩ (b :: l)).data.toList := by
  rw [Jh, ByteArray.data_append, ByteArray.data_append]
  simp
/-! ### cut again -/
theorem VJ {c : UInt8} : ∀ {l : List UInt8}, c ∉ l → Pk c l = [l]
  | [], _ => rfl
  | b :: l, h => by
    have hb : ¬ b = c := fun e => h (by rw [e]; exact List.mem_cons_self ..)
    rw [Pk, if_neg hb, VJ fun hm => h (List.mem_cons_of_mem _ hm)]
theorem QD {c : UInt8} (r : List UInt8) : ∀ {l : List UInt8}, c ∉ l → Pk c (l ++ c :: r) = l :: Pk c r
  | [], _ => by rw [List.nil_append, Pk, if_pos rfl]
  | b :: l, h => by
    have hb : ¬ b = c := fun e => h (by rw [e]; exact List.mem_cons_self ..)
    rw [List.cons_append, Pk, if_neg hb, QD r fun hm => h (List.mem_cons_of_mem _ hm)]
theorem UP {c : UInt8} : ∀ {l : List ByteArray}, l ≠ [] → (∀ y, y ∈ l → c ∉ y.data.toList) → Qm c (Q6 ⟨#[c]⟩ l) = l
  | [], h, _ => absurd rfl h
  | [a], _, h => by
    rw [Zd]
    unfold Qm
    rw [VJ (h a (List.mem_cons_self ..)), List.map_cons, List.map_nil, Kf]
  | a :: b :: l, _, h => by
    have ih := UP (c := c) (l := b :: l) (fun e => by cases e) fun y hy => h y (List.mem_cons_of_mem _ hy)
    unfold Qm at ih ⊢
    rw [Pu, QD _ (h a (List.mem_cons_self ..)), List.map_cons, ih, Kf]
theorem Lu (c : UInt8) (s : ByteArray) : 1 ≤ (Qm c s).length := by
  obtain ⟨p, ps, h⟩ := Pm c s.data.toList
  unfold Qm
  rw [h, List.map_cons, List.length_cons]
  omega
theorem ZB (c : UInt8) : ∀ l : List UInt8, Lib.join (Pk c l) [c] = l
  | [] => by rw [Pk, Lib.join_one]
  | b :: l => by
    have ih := ZB c l
    obtain ⟨p, ps, h⟩ := Pm c l
    rw [h] at ih
    rw [Lib.join_cons] at ih
    by_cases hb : b = c
    · rw [Pk, if_pos hb, h, Lib.join_cons]
      unfold Lib.joinTail at ih ⊢
      rw [List.map_cons, List.flatten_cons, List.nil_append, List.append_assoc, ih, hb]
      rfl
    rw [Pk, if_neg hb, h]
    show Lib.join ((b :: p) :: ps) [c] = _
    rw [Lib.join_cons, List.cons_append, ih]
theorem LW (c : UInt8) (s : ByteArray) : Q6 ⟨#[c]⟩ (Qm c s) = s := by
  unfold Q6 Qm
  rw [List.map_map, show ((fun x : ByteArray => x.data.toList) ∘ Wk) = id from funext fun _ => rfl, List.map_id]
  show Wk (Lib.join (Pk c s.data.toList) [c]) = s
  rw [ZB, Kf]
theorem Mi (s : ByteArray) : ∀ (l : List ByteArray) (k : Nat), (Q6 s (l.drop k)).size ≤ (Q6 s l).size
  | l, 0 => Nat.le_refl _
  | [], k + 1 => by rw [List.drop_nil]; exact Nat.le_refl _
  | [a], k + 1 => by rw [List.drop_succ_cons, List.drop_nil]; exact Nat.zero_le _
  | a :: b :: l, k + 1 => by
    have := Mi s (b :: l) k
    rw [List.drop_succ_cons, Jh, ByteArray.size_append]
    omega
theorem ES (c : UInt8) (s : ByteArray) (k : Nat) : (Q6 ⟨#[c]⟩ ((Qm c s).drop k)).size ≤ s.size := by
  have := Mi ⟨#[c]⟩ (Qm c s) k
  rwa [LW] at this
def Word (s : ByteArray) : Prop := 1 ≤ s.size ∧ ∀ b, b ∈ s.data.toList → 33 ≤ b.toNat ∧ b.toNat ≤ 126
theorem Word.no {s : ByteArray} (h : Word s) {c : UInt8} (hc : c.toNat < 33) : c ∉ s.data.toList := fun hm => by have := (h.2 c hm).1; omega
theorem Word.ne {s : ByteArray} (h : Word s) : s.data.toList ≠ [] := fun e => by
  have h1 := h.1
  have h2 : s.data.toList.length = s.size := Array.length_toList
  rw [e] at h2
  simp at h2
  omega
theorem Word.sp {s : ByteArray} (h : Word s) {b : UInt8} (hb : b ∈ s.data.toList) : Lib.isSp b = false := by
  have h1 := h.2 b hb
  cases hs : Lib.isSp b with
  | false => rfl
  | true =>
    exfalso
    unfold Lib.isSp at hs
    simp only [Bool.or_eq_true, beq_iff_eq] at hs
    rcases hs with ((((rfl | rfl) | rfl) | rfl) | rfl) | rfl <;> revert h1 <;> decide
theorem F8 : ∀ (l cur r : List UInt8), (∀ b, b ∈ l → Lib.isSp b = false) → Lib.fieldsGo cur (l ++ r) = Lib.fieldsGo (cur ++ l) r
  | [], cur, r, _ => by rw [List.nil_append, List.append_nil]
  | b :: l, cur, r, h => by
    rw [List.cons_append, Lib.fieldsGo_more _ _ _ (h b (List.mem_cons_self ..)), F8 l _ r fun x hx => h x (List.mem_cons_of_mem _ hx), List.append_assoc, List.singleton_append]
theorem F9 : ∀ {l : List ByteArray}, (∀ y, y ∈ l → Word y) → Z2 (Q6 ⟨#[32]⟩ l) = l
  | [], _ => rfl
  | [a], h => by
    have ha := h a (List.mem_cons_self ..)
    rw [Zd]
    unfold Z2 Lib.fields
    have := F8 a.data.toList [] [] fun b hb => ha.sp hb
    rw [List.append_nil, List.nil_append] at this
    rw [this]
    unfold Lib.fieldsGo
    rw [if_neg (by simpa using ha.ne), List.map_cons, List.map_nil, Kf]
  | a :: b :: l, h => by
    have ha := h a (List.mem_cons_self ..)
    have ih := F9 (l := b :: l) fun y hy => h y (List.mem_cons_of_mem _ hy)
    unfold Z2 Lib.fields at ih ⊢
    rw [Pu, F8 _ _ _ fun b hb => ha.sp hb, List.nil_append, Lib.fieldsGo_end _ _ _ rfl ha.ne, List.map_cons, ih, Kf]
theorem Lw {l : List ByteArray} (h : ∀ y, y ∈ l → Word y) : ∀ b, b ∈ (Q6 ⟨#[32]⟩ l).data.toList → 32 ≤ b.toNat ∧ b.toNat ≤ 126 := by
  match l, h with
  | [], _ => intro b hb; simp [Q6, Lib.join, Wk, List.intercalate] at hb
  | [a], h =>
    intro b hb
    rw [Zd] at hb
    have := (h a (List.mem_cons_self ..)).2 b hb
    omega
  | a :: b :: l, h =>
    intro x hx
    rw [Pu] at hx
    rcases List.mem_append.1 hx with hx | hx
    · have := (h a (List.mem_cons_self ..)).2 x hx; omega
    rcases List.mem_cons.1 hx with rfl | hx
    · decide
    exact Lw (fun y hy => h y (List.mem_cons_of_mem _ hy)) x hx
theorem VK (v : Z7) : (Xe v).size ≤ 10 := by
  unfold Xe
  cases hv : Qt v with
  | false => exact show (1 : Nat) ≤ 10 by decide
  | true =>
    simp only [Bool.not_true, cond_false]
    cases h1 : (v.1 == (1 : Int)) with
    | true => have h2 := QC hv h1; exact Zf (by omega)
    | false =>
      cases h2 : (v.1 == (2 : Int)) with
      | true => exact Nat.le_trans (Bz (ER hv h2).1).2 (by decide)
      | false => exact show (1 : Nat) ≤ 10 by decide
theorem Qah (v : Z7) : Yc v = Xe v := rfl
theorem NW (v : Z7) : (Yc v).size ≤ 10 := VK v
theorem Nj {op : Int} (h : Q9 op 1 9 = true) : op = 1 ∨ op = 2 ∨ op = 3 ∨ op = 4 ∨ op = 5 ∨ op = 6 ∨ op = 7 ∨ op = 8 ∨ op = 9 := by
  have := Jn.1 h; omega
theorem UQ (op : Int) : Xk op = Qo op := by
  unfold Xk Qo
  rw [← Ow]
  cases h : Q9 op 1 9 with
  | false => rfl
  | true => rcases Nj h with rfl | rfl | rfl | rfl | rfl | rfl | rfl | rfl | rfl <;> rfl
theorem ET (op : Int) : (Qo op).size ≤ 6 := by
  cases h : Q9 op 1 9 with
  | false => unfold Qo; rw [h]; exact show (1 : Nat) ≤ 6 by decide
  | true => rcases Nj h with rfl | rfl | rfl | rfl | rfl | rfl | rfl | rfl | rfl <;> decide
theorem NX (op : Int) : (Xk op).size ≤ 6 := UQ op ▸ ET op
theorem Sv (p : List ByteArray) : Jf p = Q6 ⟨#[32]⟩ p := by
  have e0 : ∀ a : ByteArray, (⟨#[]⟩ : ByteArray) ++ a = a := fun a => by apply ByteArray.ext; rw [ByteArray.data_append]; simp
  have key : ∀ (l : List ByteArray) (k : Nat) (a s : ByteArray), Yr Ve Uj l (k + 1) (s ++ a) = .brk (s ++ Q6 ⟨#[32]⟩ (a :: l)) := by
    intro l
    induction l with
    | nil => intro k a s; rw [Zd]; rfl
    | cons b l ih =>
      intro k a s
      have hf : Ve (k + 1) b (s ++ a) = .next ((s ++ a ++ ⟨#[32]⟩) ++ b) := by
        unfold Ve
        rw [decide_eq_true (show (((k + 1 : Nat) : Nat) : Int) > 0 by omega), cond_true]
      simp only [Yr, hf]
      have := ih (k + 1) b (s ++ a ++ ⟨#[32]⟩)
      rw [this, Jh]
      simp only [ByteArray.append_assoc]
  unfold Jf
  cases p with
  | nil => rfl
  | cons a l =>
    have h0 : Yr Ve Uj (a :: l) 0 ⟨#[]⟩ = Yr Ve Uj l (0 + 1) ((⟨#[]⟩ : ByteArray) ++ a) := rfl
    rw [h0, key, e0]
    rfl
theorem RU {n : Qw} {k : Int} (h : Ym n k = true) : n.2.2.2.1.size ≤ 6 := by
  have e : ∀ {a : ByteArray}, (a.toList == (⟨#[]⟩ : ByteArray).toList) = true → a.size ≤ 6 := fun h => by rw [Up h]; decide
  have e1 : ∀ {a : ByteArray}, Qs a = true → a.size ≤ 6 := fun h => by rw [T7 h]; decide
  have e2 : ∀ {a : ByteArray}, Qy a = true → a.size ≤ 6 := fun h => (Bz h).2
  unfold Ym at h
  cases h1 : (n.1 == (1 : Int)) <;> cases h2 : (n.1 == (2 : Int)) <;> cases h3 : (n.1 == (3 : Int)) <;> cases h4 : (n.1 == (4 : Int)) <;> cases h5 : (n.1 == (5 : Int)) <;> cases h6 : (n.1 == (6 : Int)) <;> cases h7 : (n.1 == (7 : Int)) <;> cases h8 : (n.1 == (8 : Int)) <;> cases h9 : (n.1 == (9 : Int)) <;> simp only [h1, h2, h3, h4, h5, h6, h7, h8, h9, cond_true, cond_false, Bool.and_eq_true] at h <;> first
    | exact e h.2.2.2.1
    | exact e h.1.2.2.2.1
    | exact e1 h.2
    | exact e1 h.2.1
    | exact e2 h.2
    | cases h
theorem Pv {q : List Qw} {at_ : Int} (hv : Qk q = true) (ha : 0 ≤ at_) (hb : at_ < (q.length : Int)) : (nth q (Int.toNat at_)).2.2.2.1.size ≤ 6 := RU (Ty hv (Fu (by omega)))
theorem UR {f : Jk} (h : FBd f) : ∀ y, y ∈ [(⟨#[102, 105, 108, 101]⟩ : ByteArray), (Qq f.1), (Qq f.2.1), (bif f.2.2.1 then ⟨#[115]⟩ else ⟨#[111]⟩), (Qq f.2.2.2.1)] → y.size ≤ 10 := fun y hy => by
  have h1 := h.1; have h2 := h.2.1; have h3 := h.2.2.1
  simp only [List.mem_cons, List.mem_nil_iff, or_false] at hy
  rcases hy with rfl | rfl | rfl | rfl | rfl
  · decide
  · exact Zf (by omega)
  · exact Zf (by omega)
  · cases f.2.2.1 <;> decide
  exact Zf (by omega)
theorem EU {f : Jk} (h : FBd f) {l : List ByteArray} {k : Nat} {a : Vc} (ha : f.2.2.2.2[k]? = some a) (hl : ∀ y, y ∈ l → y.size ≤ 10) : ∀ y, y ∈ l ++ [a.1, Xe a.2] → y.size ≤ 10 := fun y hy => by
  rcases List.mem_append.1 hy with hy | hy
  · exact hl y hy
  have := h.2.2.2.2 a (List.mem_of_getElem? ha)
  simp only [List.mem_cons, List.mem_nil_iff, or_false] at hy
  rcases hy with rfl | rfl
  · rw [T7 this.1]; decide
  exact VK _
theorem EV {f : Jk} (h : FBd f) {a : Vc} (ha : a ∈ f.2.2.2.2) : a.1.size ≤ 10 := by
  rw [T7 (h.2.2.2.2 a ha).1]; decide
def Ap (b : UInt8) : Bool := decide (32 ≤ b.toNat) && decide (b.toNat ≤ 126)
theorem Cl {s : ByteArray} {k : Nat} {c : UInt8} (h : s.data.toList[k]? = some c) : Yt s ((k : Nat) : Int) = (c.toNat : Int) := by
  unfold Yt
  rw [Int.toNat_natCast, List.getD_eq_getElem?_getD, h]
  rfl
theorem Uw (s : ByteArray) : s.data.toList.length = s.size := Array.length_toList
theorem Bp {α : Type} {l r : List α} {k : Nat} {c : α} (h : l.drop k = c :: r) : l[k]? = some c ∧ l.drop (k + 1) = r ∧ k < l.length := by
  have h1 : l[k]? = some c := by
    have := congrArg (fun x => x[0]?) h
    simpa using this
  refine ⟨h1, ?_, (List.getElem?_eq_some_iff.1 h1).1⟩
  have := congrArg (List.drop 1) h
  rw [List.drop_drop] at this
  simpa [Nat.add_comm] using this
theorem Qbt {c : UInt8} (h : Ap c = true) (h2 : c.toNat ≠ 32) : Lib.isSp c = false := by
  unfold Ap at h
  simp only [Bool.and_eq_true, decide_eq_true_eq] at h
  cases hs : Lib.isSp c with
  | false => rfl
  | true =>
    exfalso
    unfold Lib.isSp at hs
    simp only [Bool.or_eq_true, beq_iff_eq] at hs
    rcases hs with ((((rfl | rfl) | rfl) | rfl) | rfl) | rfl <;> revert h h2 <;> decide
theorem Qai {c : UInt8} (h : c.toNat = 32) : Lib.isSp c = true := by
  have : c = 32 := UInt8.toNat_inj.1 h
  rw [this]; rfl
theorem Eg (s : ByteArray) (b k : Nat) : ByteArray.extract s b k = Wk ((s.data.toList.drop b).take (k - b)) := by
  apply ByteArray.ext
  rw [ByteArray.data_extract]
  apply Array.toList_inj.1
  rw [Array.toList_extract]
  unfold Wk
  simp [List.extract_eq_take_drop]
theorem C6 {R S T : Type} {f : Nat → S → Rd R S T} {e : Nat → S → T} {n k : Nat} {s s' : S} (h : f k s = .next s') : Jg f e (n + 1) k s = Jg f e n (k + 1) s' := by rw [Jg, h]
theorem ZC {R S T : Type} {f : Nat → S → Rd R S T} {e : Nat → S → T} {n k : Nat} {s : S} {r : R} (h : f k s = .ret r) : Jg f e (n + 1) k s = .ret r := by rw [Jg, h]
theorem EW (line : ByteArray) : ∀ (rest : List UInt8) (k b : Nat) (s1 : List ByteArray), line.data.toList.drop k = rest → k ≤ line.size → b ≤ k →
    Jg (Jd line) Jz (rest.length + 1) k (s1, (b : Int)) = if rest.all Ap then .brk (s1 ++ (Lib.fieldsGo ((line.data.toList.drop b).take (k - b)) rest).map Wk) else .ret ([], false)
  | [], k, b, s1, hr, hk, hb => by
    have hks : k = line.size := by
      have := congrArg List.length hr
      rw [List.length_drop, Uw] at this
      simp only [List.length_nil] at this
      omega
    have hlt : decide (((k : Nat) : Int) < (line.size : Int)) = false := decide_eq_false (by omega)
    simp only [List.length_nil, Jg]
    unfold Jd
    rw [hlt]
    simp only [Bool.false_and, cond_false, List.all_nil, if_true]
    have hl : ((line.data.toList.drop b).take (k - b)).length = k - b := by
      rw [List.length_take, List.length_drop, Uw]; omega
    unfold Lib.fieldsGo
    by_cases hbk : b < k
    · rw [decide_eq_true (show (b : Int) < ((k : Nat) : Int) by omega)]
      have hne : ((line.data.toList.drop b).take (k - b)).isEmpty = false := by
        cases hx : (line.data.toList.drop b).take (k - b) with
        | nil => rw [hx] at hl; simp at hl; omega
        | cons _ _ => rfl
      rw [hne]
      simp only [cond_true, Jz, Int.toNat_natCast]
      rw [Eg]
      rfl
    rw [decide_eq_false (show ¬ (b : Int) < ((k : Nat) : Int) by omega)]
    have hne : ((line.data.toList.drop b).take (k - b)).isEmpty = true := by
      rw [show k - b = 0 by omega]; rfl
    rw [hne]
    simp only [cond_false, Jz, if_true, List.map_nil, List.append_nil]
  | c :: rest, k, b, s1, hr, hk, hb => by
    obtain ⟨hc, hd, hlt0⟩ := Bp hr
    rw [Uw] at hlt0
    have hlt : decide (((k : Nat) : Int) < (line.size : Int)) = true := decide_eq_true (by omega)
    have hs := Cl hc
    rw [List.length_cons]
    have hf : Jd line k (s1, (b : Int)) = (bif (decide ((c.toNat : Int) < (32 : Int)) || decide ((c.toNat : Int) > (126 : Int))) then (.ret ([], false)) else (bif ((c.toNat : Int) != (32 : Int)) then (.next (s1, (b : Int))) else (bif decide ((b : Int) < ((k : Nat) : Int)) then (.next (s1 ++ [(ByteArray.extract line (Int.toNat (b : Int)) (Int.toNat ((k : Nat) : Int)))], ((k + 1 : Nat) : Int))) else (.next (s1, ((k + 1 : Nat) : Int)))))) := by
      unfold Jd
      rw [hlt, hs, Bool.true_and, Bool.true_and]
    rw [List.all_cons]
    cases hok : Ap c with
    | false =>
      have h1 : (decide ((c.toNat : Int) < (32 : Int)) || decide ((c.toNat : Int) > (126 : Int))) = true := by
        unfold Ap at hok
        simp only [Bool.and_eq_false_iff, decide_eq_false_iff_not] at hok
        simp only [Bool.or_eq_true, decide_eq_true_eq]
        omega
      rw [h1, cond_true] at hf
      rw [ZC hf]
      rfl
    | true =>
      have h1 : (decide ((c.toNat : Int) < (32 : Int)) || decide ((c.toNat : Int) > (126 : Int))) = false := by
        unfold Ap at hok
        simp only [Bool.and_eq_true, decide_eq_true_eq] at hok
        simp only [Bool.or_eq_false_iff, decide_eq_false_iff_not]
        omega
      rw [h1, cond_false] at hf
      rw [Bool.true_and]
      by_cases h32 : c.toNat = 32
      · have h2 : ((c.toNat : Int) != (32 : Int)) = false := by rw [h32]; rfl
        rw [h2, cond_false] at hf
        have hsp := Qai h32
        have hl : ((line.data.toList.drop b).take (k - b)).length = k - b := by
          rw [List.length_take, List.length_drop, Uw]; omega
        have ih := fun s2 => EW line rest (k + 1) (k + 1) s2 hd (by omega) (Nat.le_refl _)
        simp only [Nat.sub_self, List.take_zero] at ih
        by_cases hbk : b < k
        · rw [decide_eq_true (show (b : Int) < ((k : Nat) : Int) by omega), cond_true] at hf
          have hne : (line.data.toList.drop b).take (k - b) ≠ [] := fun e => by rw [e] at hl; simp at hl; omega
          rw [C6 hf, ih, Lib.fieldsGo_end _ _ _ hsp hne, Int.toNat_natCast, Int.toNat_natCast, Eg]
          split
          · rw [List.map_cons, List.append_assoc, List.singleton_append]
          rfl
        rw [decide_eq_false (show ¬ (b : Int) < ((k : Nat) : Int) by omega), cond_false] at hf
        have hne : (line.data.toList.drop b).take (k - b) = [] := by rw [show k - b = 0 by omega]; rfl
        rw [C6 hf, ih, hne, Lib.fieldsGo_sp _ _ hsp]
      have h2 : ((c.toNat : Int) != (32 : Int)) = true := by
        rw [bne_iff_ne]; omega
      rw [h2, cond_true] at hf
      have ih := EW line rest (k + 1) b s1 hd (by omega) (by omega)
      rw [C6 hf, ih, Lib.fieldsGo_more _ _ _ (Qbt hok h32)]
      have e : (line.data.toList.drop b).take (k + 1 - b) = (line.data.toList.drop b).take (k - b) ++ [c] := by
        have : (line.data.toList.drop b)[k - b]? = some c := by rw [List.getElem?_drop, show b + (k - b) = k by omega]; exact hc
        rw [show k + 1 - b = (k - b) + 1 by omega, List.take_add_one, this]
        rfl
      rw [e]
theorem ZD (line : ByteArray) : ∀ (rest : List UInt8) (k : Nat), line.data.toList.drop k = rest → Jg (K6 line) Wc rest.length k () = if rest.all Ap then .brk () else .ret ([], false)
  | [], k, _ => rfl
  | c :: rest, k, hr => by
    obtain ⟨hc, hd, _⟩ := Bp hr
    simp only [List.length_cons, Jg]
    unfold K6
    rw [Cl hc, IntWalk.i64_in (c.toNat : Int) (by have := c.toNat_lt; omega)]
    have e : Q9 (c.toNat : Int) 32 126 = Ap c := by
      unfold Q9 Ap
      congr 1
      · exact decide_eq_decide.2 (by omega)
      exact decide_eq_decide.2 (by omega)
    rw [e, List.all_cons]
    cases hok : Ap c with
    | false => rfl
    | true =>
      simp only [Bool.not_true, cond_false, Bool.true_and]
      exact ZD line rest (k + 1) hd
theorem EX (line : ByteArray) : Qb line = Xd line := by
  unfold Qb Xd
  cases decide ((ByteArray.size line : Int) > (600 : Int)) with
  | true => rfl
  | false =>
    simp only [cond_false]
    have h1 := EW line line.data.toList 0 0 [] rfl (Nat.zero_le _) (Nat.le_refl _)
    have h2 := ZD line line.data.toList 0 rfl
    rw [Uw] at h1 h2
    rw [show Int.toNat ((ByteArray.size line : Int) + 1) = line.size + 1 by omega, show Int.toNat (ByteArray.size line : Int) = line.size by omega]
    rw [show (([] : List ByteArray), (0 : Int)) = ([], ((0 : Nat) : Int)) from rfl, h1, h2]
    cases line.data.toList.all Ap with
    | false => rfl
    | true =>
      simp only [if_true, Out.on, Nat.sub_self, List.take_zero, List.nil_append]
      rfl
theorem Qaj (line : ByteArray) : (Xd line).1.length ≤ 24 ∧ ∀ y, y ∈ (Xd line).1 → y.size ≤ 600 := by
  unfold Xd
  cases hc : decide ((ByteArray.size line : Int) > (600 : Int)) with
  | true => exact ⟨Nat.zero_le _, fun y hy => by cases hy⟩
  | false =>
    have h6 := of_decide_eq_false hc
    simp only [cond_false]
    have h2 := ZD line line.data.toList 0 rfl
    rw [Uw] at h2
    rw [show Int.toNat (ByteArray.size line : Int) = line.size by omega, h2]
    cases line.data.toList.all Ap with
    | false => exact ⟨Nat.zero_le _, fun y hy => by cases hy⟩
    | true =>
      simp only [if_true, Out.on]
      cases h3 : decide (((Z2 line).length : Int) > (24 : Int)) with
      | true => exact ⟨Nat.zero_le _, fun y hy => by cases hy⟩
      | false =>
        have := of_decide_eq_false h3
        simp only [cond_false]
        refine ⟨by omega, fun y hy => ?_⟩
        have := (Ia line).2 y hy
        omega
theorem Cm (line : ByteArray) : (Qb line).1.length ≤ 24 ∧ ∀ y, y ∈ (Qb line).1 → y.size ≤ 600 := by rw [EX]; exact Qaj line
theorem Ij {l : List ByteArray} (h : ∀ y, y ∈ l → Word y) (hl : l.length ≤ 24) (hs : (Q6 ⟨#[32]⟩ l).size ≤ 600) : Xd (Q6 ⟨#[32]⟩ l) = (l, true) := by
  unfold Xd
  rw [decide_eq_false (show ¬ ((Q6 ⟨#[32]⟩ l).size : Int) > 600 by omega)]
  simp only [cond_false]
  have h2 := ZD (Q6 ⟨#[32]⟩ l) (Q6 ⟨#[32]⟩ l).data.toList 0 rfl
  rw [Uw] at h2
  rw [show Int.toNat (ByteArray.size (Q6 ⟨#[32]⟩ l) : Int) = (Q6 ⟨#[32]⟩ l).size by omega, h2]
  have ha : (Q6 ⟨#[32]⟩ l).data.toList.all Ap = true := List.all_eq_true.2 fun b hb => by
    have := Lw h b hb
    unfold Ap
    simp only [Bool.and_eq_true, decide_eq_true_eq]
    exact this
  rw [ha, F9 h]
  simp only [if_true, Out.on]
  rw [decide_eq_false (show ¬ (l.length : Int) > 24 by omega)]
  rfl
open GoE (enc wide)
def H2 (_ : Nat) (a0 : Vc) (s0 : (List ByteArray)) : Rd (ByteArray) ((List ByteArray)) ((List ByteArray)) := (.next (s0 ++ [a0.1, (Xe a0.2)]))
def H3 (_ : Nat) (s0 : (List ByteArray)) : (List ByteArray) := s0
def Yk (f : Jk) : ByteArray := (Out.on (Yr H2 H3 f.2.2.2.2 0 [(⟨#[102, 105, 108, 101]⟩ : ByteArray), (Qq f.1), (Qq f.2.1), (bif f.2.2.1 then ⟨#[115]⟩ else ⟨#[111]⟩), (Qq f.2.2.2.1)]) (fun y0 => (Q6 ⟨#[32]⟩ y0)))
theorem Mr (f : Jk) (hf : FBd f) : ACalls Tryz.prog 84 [.a [.i f.1, .i f.2.1, .b f.2.2.1, .i f.2.2.2.1, .h f.2.2.2.2]] (.s (Yk f)) := by
 refine en Qa Tryz.func84 fun w0 F0 hG => ?_
 have hf1 := hf.1
 have hf2 := hf.2.1
 have hf3 := hf.2.2.1
 have hf4 := hf.2.2.2.1
 have hfs := UR hf
 refine sn Qa [1, 2] [1] (p0) ?_
 refine tn Qa [1, 2, 3] [1] (p0) ?_
 refine Qc ?_
 refine tu Qa [(1, .p 1 0), (2, .s ⟨#[]⟩), (3, .s ⟨#[111]⟩), (8, .b f.2.2.1)] [0] [(1, [.i f.1, .i f.2.1, .b f.2.2.1, .i f.2.2.2.1, .h f.2.2.2.2])] [] (p0) ?_
 refine jn [(3, .s (bif f.2.2.1 then ⟨#[115]⟩ else ⟨#[111]⟩))] [3, 8] [] [] f.2.2.1 (fun h1 => ?_) (fun h1 => ?_) ?_
 ·
  refine ckt h1 ?_
  refine rn Qa [1, 2, 3] [1] (p0) ?_
  exact ⟨rfl, Qd (by rw [h1] <;> kernel_rfl)⟩
 ·
  refine ckf h1 ?_
  refine Qf ?_
  exact ⟨rfl, Qd (by rw [h1] <;> kernel_rfl)⟩
 have hk2 := Zf (n := f.1) (by omega)
 have hk3 := Zf (n := f.2.1) (by omega)
 have hk4 := Zf (n := f.2.2.2.1) (by omega)
 refine sN Qa Yz [1, 2, 4] [1] (pc 2 (Ko f.1 (by omega)) (pc 5 (Ko f.2.1 (by omega)) (pc 9 (Ko f.2.2.2.1 (by omega)) p0))) ?_
 refine Qc ?_
 refine tn Qa [2, 4, 21, 22, 23] [] (pl 2 f.2.2.2.2 p0) ?_
 refine mz [(4, .o 1216 [(⟨#[102, 105, 108, 101]⟩ : ByteArray), (Qq f.1), (Qq f.2.1), (bif f.2.2.1 then ⟨#[115]⟩ else ⟨#[111]⟩), (Qq f.2.2.2.1)]), (21, .h f.2.2.2.2), (22, .i (f.2.2.2.2.length : Int)), (23, .i 0)] [1, 3] [] [1] ?_
 refine wT 21 0 .sh f.2.2.2.2 (fun hw5 hl6 => ?_)
 refine DI H2 H3 f.2.2.2.2 [(⟨#[102, 105, 108, 101]⟩ : ByteArray), (Qq f.1), (Qq f.2.1), (bif f.2.2.1 then ⟨#[115]⟩ else ⟨#[111]⟩), (Qq f.2.2.2.1)] (fun k0 s0 => [(4, .o 147201 s0), (23, .i ((k0 : Nat) : Int))]) [4, 23] (fun y0 => [(4, .o 147351 y0)]) [4, 21, 22, 23] (fun k0 s0 => (∀ y, y ∈ s0 → ByteArray.size y ≤ 10) ∧ List.length s0 ≤ 5 + 2 * k0) (fun y0 => (∀ x, x ∈ y0 → ByteArray.size x ≤ 10) ∧ List.length y0 ≤ 15) (Zg [(1216, 147201)] (by kernel_rfl)) ⟨(by first | exact hfs | (simp; done) | decide), (by first | exact hfs | (simp; done) | decide)⟩ (fun k0 s0 hk0 hI0 => ?_) (fun k0 s0 hk0 hI0 => ?_) (fun y0 hD0 => ?_)
 ·
  have hA0_0 := hI0.2.1
  have hA0_1 := hI0.2.2
  obtain ⟨a0, hx0⟩ := Yp (l := f.2.2.2.2) (i := k0) hk0
  refine su Qa [(24, .b true)] [] [] [] (pe 0 (Q1 (decide_eq_true (p := ((k0 : Nat) : Int) < (f.2.2.2.2.length : Int)) (by omega))) p0) ?_
  refine Qc ?_
  refine ckT ?_
  refine Qf ?_
  refine Qc ?_
  refine Qz ?_
  refine sn Qa [2, 4, 6, 21, 22, 23] [6] (pn 0 hx0 p0) ?_
  have hk7 := VK a0.2
  refine wT 4 0 (.own true 147201) s0 (fun hw8 hl9 => ?_)
  refine qU Qa Yz [(4, .one (.slc (.own true 2176) 1 ((eL s0) ++ [[.s a0.1], [.s (Xe a0.2)]])))] [4, 24] [] [] (pc 5 (Ck a0.2) (pa s0 [a0.1, (Xe a0.2)] p0)) ?_
  refine eqn [(4, .o 2176 (s0 ++ [a0.1, (Xe a0.2)]))] [4] [] [] (by rw [show ((eL s0) ++ [[.s a0.1], [.s (Xe a0.2)]]) = (eL (s0 ++ [a0.1, (Xe a0.2)])) from Jo (rfl) (rfl)]; first | done | kernel_rfl) ?_
  refine rn Qa [2, 4, 21, 22, 23] [] (pe 0 (Jq (Q4 k0 (by omega))) p0) ?_
  exact Exists.intro (s0 ++ [a0.1, (Xe a0.2)]) (And.intro (Zg [(2176, 147201)] (by kernel_rfl)) ⟨Xp hx0 (rfl) hI0.1, (by first | exact EU hf hx0 hA0_0 | (simp; omega)), (by first | exact EU hf hx0 hA0_0 | (simp; omega))⟩)
 ·
  have hA0_0 := hI0.2.1
  have hA0_1 := hI0.2.2
  refine su Qa [(24, .b false)] [] [] [] (pe 0 (Q1 (decide_eq_false (p := ((k0 : Nat) : Int) < (f.2.2.2.2.length : Int)) (by omega))) p0) ?_
  refine Qc ?_
  refine ckF ?_
  refine Xu ?_
  exact Exists.intro s0 (And.intro (Zg [(147201, 147351)] (by kernel_rfl)) ⟨Yq hk0 (rfl) hI0.1, by first | exact hA0_0 | omega, by first | exact hA0_0 | omega⟩)
 have hD0_0 := hD0.2.1
 have hD0_1 := hD0.2.2
 refine sn Qa [2] [] (pc 1 (Kd y0 ⟨#[32]⟩ (by first | omega | exact Nat.le_trans (J0 (m := 10) (n := 20) rfl (by assumption) (by omega)) (by decide) | (simp only [Zd, Zy, Zq, ByteArray.size_append]; omega))) p0) ?_
 refine Qe ?_
 exact ps [] (V4 hD0.1 (rfl))
def Ua (_ : Nat) (a0 : Vc) (s0 : ByteArray) : Rd (ByteArray) (ByteArray) (ByteArray) := (.next ((((s0 ++ (⟨#[32]⟩ : ByteArray)) ++ a0.1) ++ (⟨#[32]⟩ : ByteArray)) ++ (Yc a0.2)))
def Ub (_ : Nat) (s0 : ByteArray) : ByteArray := s0
def Zm (f : Jk) : ByteArray := (Out.on (Yr Ua Ub f.2.2.2.2 0 ((bif f.2.2.1 then (((((⟨#[102, 105, 108, 101, 32]⟩ : ByteArray) ++ (Qq f.1)) ++ (⟨#[32]⟩ : ByteArray)) ++ (Qq f.2.1)) ++ (⟨#[32, 115, 32]⟩ : ByteArray)) else (((((⟨#[102, 105, 108, 101, 32]⟩ : ByteArray) ++ (Qq f.1)) ++ (⟨#[32]⟩ : ByteArray)) ++ (Qq f.2.1)) ++ (⟨#[32, 111, 32]⟩ : ByteArray))) ++ (Qq f.2.2.2.1))) (fun y0 => y0))
theorem Ms (f : Jk) (hf : FBd f) : ACalls Tryz.prog 50 [.a [.i f.1, .i f.2.1, .b f.2.2.1, .i f.2.2.2.1, .h f.2.2.2.2]] (.s (Zm f)) := by
 refine en Qa Tryz.func50 fun w0 F0 hG => ?_
 have hf1 := hf.1
 have hf2 := hf.2.1
 have hf3 := hf.2.2.1
 have hf4 := hf.2.2.2.1
 have hq1 : ByteArray.size (⟨#[32]⟩ : ByteArray) = 1 := rfl
 have hq2 : ByteArray.size (⟨#[102, 105, 108, 101, 32]⟩ : ByteArray) = 5 := rfl
 have hq3 : ByteArray.size (⟨#[32, 115, 32]⟩ : ByteArray) = 3 := rfl
 have hq4 : ByteArray.size (⟨#[32, 111, 32]⟩ : ByteArray) = 3 := rfl
 refine sn Qa [1, 2] [1] (p0) ?_
 have hk1 := Zf (n := f.1) (by omega)
 have hk2 := Zf (n := f.2.1) (by omega)
 refine tN Qa Yz [1, 2, 3] [1] (pc 2 (Jt f.1 (by omega)) (px (Yi (n := (ByteArray.size (⟨#[102, 105, 108, 101, 32]⟩ : ByteArray) + ByteArray.size (Qq f.1))) (by have hq0 : ByteArray.size (⟨#[102, 105, 108, 101, 32]⟩ : ByteArray) = 5 := rfl; unfold maxLen; first | omega | (simp only [ByteArray.size_append]; omega) | (cases f.2.2.1 <;> simp only [cond_true, cond_false, ByteArray.size_append] <;> omega))) (px (Yi (n := (ByteArray.size ((⟨#[102, 105, 108, 101, 32]⟩ : ByteArray) ++ (Qq f.1)) + ByteArray.size (⟨#[32]⟩ : ByteArray))) (by have hq0 : ByteArray.size (⟨#[102, 105, 108, 101, 32]⟩ : ByteArray) = 5 := rfl; have hq1 : ByteArray.size (⟨#[32]⟩ : ByteArray) = 1 := rfl; unfold maxLen; first | omega | (simp only [ByteArray.size_append]; omega) | (cases f.2.2.1 <;> simp only [cond_true, cond_false, ByteArray.size_append] <;> omega))) (pc 7 (Jt f.2.1 (by omega)) (px (Yi (n := (ByteArray.size (((⟨#[102, 105, 108, 101, 32]⟩ : ByteArray) ++ (Qq f.1)) ++ (⟨#[32]⟩ : ByteArray)) + ByteArray.size (Qq f.2.1))) (by have hq0 : ByteArray.size (⟨#[102, 105, 108, 101, 32]⟩ : ByteArray) = 5 := rfl; have hq1 : ByteArray.size (⟨#[32]⟩ : ByteArray) = 1 := rfl; unfold maxLen; first | omega | (simp only [ByteArray.size_append]; omega) | (cases f.2.2.1 <;> simp only [cond_true, cond_false, ByteArray.size_append] <;> omega))) p0))))) ?_
 refine Qc ?_
 refine tu Qa [(1, .p 1 0), (2, .s ⟨#[]⟩), (3, .s ((((⟨#[102, 105, 108, 101, 32]⟩ : ByteArray) ++ (Qq f.1)) ++ (⟨#[32]⟩ : ByteArray)) ++ (Qq f.2.1))), (15, .b f.2.2.1)] [0] [(1, [.i f.1, .i f.2.1, .b f.2.2.1, .i f.2.2.2.1, .h f.2.2.2.2])] [] (p0) ?_
 refine jn [(3, .s (bif f.2.2.1 then (((((⟨#[102, 105, 108, 101, 32]⟩ : ByteArray) ++ (Qq f.1)) ++ (⟨#[32]⟩ : ByteArray)) ++ (Qq f.2.1)) ++ (⟨#[32, 115, 32]⟩ : ByteArray)) else (((((⟨#[102, 105, 108, 101, 32]⟩ : ByteArray) ++ (Qq f.1)) ++ (⟨#[32]⟩ : ByteArray)) ++ (Qq f.2.1)) ++ (⟨#[32, 111, 32]⟩ : ByteArray))))] [3, 15] [] [] f.2.2.1 (fun h3 => ?_) (fun h3 => ?_) ?_
 ·
  refine ckt h3 ?_
  refine rn Qa [1, 2, 3] [1] (px (Yi (n := (ByteArray.size ((((⟨#[102, 105, 108, 101, 32]⟩ : ByteArray) ++ (Qq f.1)) ++ (⟨#[32]⟩ : ByteArray)) ++ (Qq f.2.1)) + ByteArray.size (⟨#[32, 115, 32]⟩ : ByteArray))) (by have hq0 : ByteArray.size (⟨#[102, 105, 108, 101, 32]⟩ : ByteArray) = 5 := rfl; have hq1 : ByteArray.size (⟨#[32, 115, 32]⟩ : ByteArray) = 3 := rfl; have hq2 : ByteArray.size (⟨#[32]⟩ : ByteArray) = 1 := rfl; unfold maxLen; first | omega | (simp only [ByteArray.size_append]; omega) | (cases f.2.2.1 <;> simp only [cond_true, cond_false, ByteArray.size_append] <;> omega))) p0) ?_
  exact ⟨rfl, Qd (by rw [h3] <;> kernel_rfl)⟩
 ·
  refine ckf h3 ?_
  refine rn Qa [1, 2, 3] [1] (px (Yi (n := (ByteArray.size ((((⟨#[102, 105, 108, 101, 32]⟩ : ByteArray) ++ (Qq f.1)) ++ (⟨#[32]⟩ : ByteArray)) ++ (Qq f.2.1)) + ByteArray.size (⟨#[32, 111, 32]⟩ : ByteArray))) (by have hq0 : ByteArray.size (⟨#[102, 105, 108, 101, 32]⟩ : ByteArray) = 5 := rfl; have hq1 : ByteArray.size (⟨#[32, 111, 32]⟩ : ByteArray) = 3 := rfl; have hq2 : ByteArray.size (⟨#[32]⟩ : ByteArray) = 1 := rfl; unfold maxLen; first | omega | (simp only [ByteArray.size_append]; omega) | (cases f.2.2.1 <;> simp only [cond_true, cond_false, ByteArray.size_append] <;> omega))) p0) ?_
  exact ⟨rfl, Qd (by rw [h3] <;> kernel_rfl)⟩
 have hk4 := Zf (n := f.2.2.2.1) (by omega)
 refine sn Qa [1, 2, 3] [1] (pc 3 (Jt f.2.2.2.1 (by omega)) (px (Yi (n := (ByteArray.size (bif f.2.2.1 then (((((⟨#[102, 105, 108, 101, 32]⟩ : ByteArray) ++ (Qq f.1)) ++ (⟨#[32]⟩ : ByteArray)) ++ (Qq f.2.1)) ++ (⟨#[32, 115, 32]⟩ : ByteArray)) else (((((⟨#[102, 105, 108, 101, 32]⟩ : ByteArray) ++ (Qq f.1)) ++ (⟨#[32]⟩ : ByteArray)) ++ (Qq f.2.1)) ++ (⟨#[32, 111, 32]⟩ : ByteArray))) + ByteArray.size (Qq f.2.2.2.1))) (by have hq0 : ByteArray.size (⟨#[102, 105, 108, 101, 32]⟩ : ByteArray) = 5 := rfl; have hq1 : ByteArray.size (⟨#[32, 111, 32]⟩ : ByteArray) = 3 := rfl; have hq2 : ByteArray.size (⟨#[32, 115, 32]⟩ : ByteArray) = 3 := rfl; have hq3 : ByteArray.size (⟨#[32]⟩ : ByteArray) = 1 := rfl; unfold maxLen; first | omega | (simp only [ByteArray.size_append]; omega) | (cases f.2.2.1 <;> simp only [cond_true, cond_false, ByteArray.size_append] <;> omega))) p0)) ?_
 refine Qc ?_
 refine tn Qa [1, 2, 3, 4] [1] (p0) ?_
 refine mz [(3, .s ((bif f.2.2.1 then (((((⟨#[102, 105, 108, 101, 32]⟩ : ByteArray) ++ (Qq f.1)) ++ (⟨#[32]⟩ : ByteArray)) ++ (Qq f.2.1)) ++ (⟨#[32, 115, 32]⟩ : ByteArray)) else (((((⟨#[102, 105, 108, 101, 32]⟩ : ByteArray) ++ (Qq f.1)) ++ (⟨#[32]⟩ : ByteArray)) ++ (Qq f.2.1)) ++ (⟨#[32, 111, 32]⟩ : ByteArray))) ++ (Qq f.2.2.2.1))), (4, .i 0)] [3] [] [] ?_
 refine wB 1 4 .sh f.2.2.2.2 (fun hw5 hl6 => ?_)
 refine LB Ua Ub f.2.2.2.2 ((bif f.2.2.1 then (((((⟨#[102, 105, 108, 101, 32]⟩ : ByteArray) ++ (Qq f.1)) ++ (⟨#[32]⟩ : ByteArray)) ++ (Qq f.2.1)) ++ (⟨#[32, 115, 32]⟩ : ByteArray)) else (((((⟨#[102, 105, 108, 101, 32]⟩ : ByteArray) ++ (Qq f.1)) ++ (⟨#[32]⟩ : ByteArray)) ++ (Qq f.2.1)) ++ (⟨#[32, 111, 32]⟩ : ByteArray))) ++ (Qq f.2.2.2.1)) (fun k0 s0 => [(3, .s s0), (4, .i ((k0 : Nat) : Int))]) [3, 4] (fun _ _ => []) [] (fun y0 => [(3, .s y0)]) [1, 3, 4] (fun _ => []) [1] (fun k0 s0 => ByteArray.size s0 ≤ 100 + 30 * k0) wf0 (by first | omega | (simp only [ByteArray.size_append]; omega) | (cases f.2.2.1 <;> simp only [cond_true, cond_false, ByteArray.size_append] <;> omega)) (fun k0 s0 hk0 hI0 => ?_) (fun k0 s0 hk0 hI0 => ?_) (fun y0 hD0 => ?_)
 ·
  have hA0_0 := hI0.2
  obtain ⟨a0, hx0⟩ := Yp (l := f.2.2.2.2) (i := k0) hk0
  have hna := EV hf (List.mem_of_getElem? hx0)
  refine Qc ?_
  refine sn Qa [1, 2, 3, 4, 29] [1] (pl 3 f.2.2.2.2 (pe 4 (Q1 (decide_eq_true (p := ((k0 : Nat) : Int) < (f.2.2.2.2.length : Int)) (by omega))) p0)) ?_
  refine ckT ?_
  refine Qf ?_
  refine Qc ?_
  refine Qz ?_
  have hk7 := NW a0.2
  refine qN Qa Yz [1, 2, 3, 4] [1] (px (Yi (n := (ByteArray.size s0 + ByteArray.size (⟨#[32]⟩ : ByteArray))) (by have hq0 : ByteArray.size (⟨#[32]⟩ : ByteArray) = 1 := rfl; unfold maxLen; first | omega | (simp only [ByteArray.size_append]; omega) | (cases f.2.2.1 <;> simp only [cond_true, cond_false, ByteArray.size_append] <;> omega))) (pn 5 hx0 (px (Yi (n := (ByteArray.size (s0 ++ (⟨#[32]⟩ : ByteArray)) + ByteArray.size a0.1)) (by have hq0 : ByteArray.size (⟨#[32]⟩ : ByteArray) = 1 := rfl; unfold maxLen; first | omega | (simp only [ByteArray.size_append]; omega) | (cases f.2.2.1 <;> simp only [cond_true, cond_false, ByteArray.size_append] <;> omega))) (px (Yi (n := (ByteArray.size ((s0 ++ (⟨#[32]⟩ : ByteArray)) ++ a0.1) + ByteArray.size (⟨#[32]⟩ : ByteArray))) (by have hq0 : ByteArray.size (⟨#[32]⟩ : ByteArray) = 1 := rfl; unfold maxLen; first | omega | (simp only [ByteArray.size_append]; omega) | (cases f.2.2.1 <;> simp only [cond_true, cond_false, ByteArray.size_append] <;> omega))) (pn 13 hx0 (pc 16 (W9 a0.2) (px (Yi (n := (ByteArray.size (((s0 ++ (⟨#[32]⟩ : ByteArray)) ++ a0.1) ++ (⟨#[32]⟩ : ByteArray)) + ByteArray.size (Yc a0.2))) (by have hq0 : ByteArray.size (⟨#[32]⟩ : ByteArray) = 1 := rfl; unfold maxLen; first | omega | (simp only [ByteArray.size_append]; omega) | (cases f.2.2.1 <;> simp only [cond_true, cond_false, ByteArray.size_append] <;> omega))) p0))))))) ?_
  refine qu Qa [(3, .s ((((s0 ++ (⟨#[32]⟩ : ByteArray)) ++ a0.1) ++ (⟨#[32]⟩ : ByteArray)) ++ (Yc a0.2))), (4, .i ((k0 + 1 : Nat) : Int))] [3, 4] [] [] (pe 1 (Jq (Q4 k0 (by omega))) p0) ?_
  exact xw ((((s0 ++ (⟨#[32]⟩ : ByteArray)) ++ a0.1) ++ (⟨#[32]⟩ : ByteArray)) ++ (Yc a0.2)) ⟨Xp hx0 (rfl) hI0.1, (by first | omega | (simp only [ByteArray.size_append]; omega))⟩
 ·
  have hA0_0 := hI0.2
  refine Qc ?_
  refine sn Qa [1, 2, 3, 4, 29] [1] (pl 3 f.2.2.2.2 (pe 4 (Q1 (decide_eq_false (p := ((k0 : Nat) : Int) < (f.2.2.2.2.length : Int)) (by omega))) p0)) ?_
  refine ckF ?_
  refine Xu ?_
  exact xw _ (Yq hk0 (rfl) hI0.1)
 refine sn Qa [2] [] (p0) ?_
 refine Qe ?_
 exact ps [] (V4 hD0 (rfl))
open GoE (enc wide)
def Xn (n_ : Nat) (q : (List Qw)) (at_ : Int) : ByteArray := match n_ with
 | 0 => default
 | n_ + 1 => (bif ((nth q (Int.toNat at_)).1 == (2 : Int)) then (Q6 ⟨#[32]⟩ [(Qo ((nth q (Int.toNat at_)).1)), (nth q (Int.toNat at_)).2.2.2.1]) else (bif (bif ((nth q (Int.toNat at_)).1 == (8 : Int)) then ((nth q (Int.toNat at_)).1 == (8 : Int)) else ((nth q (Int.toNat at_)).1 == (9 : Int))) then (Q6 ⟨#[32]⟩ [(Qo ((nth q (Int.toNat at_)).1)), (nth q (Int.toNat at_)).2.2.2.1]) else (bif (bif ((nth q (Int.toNat at_)).1 == (3 : Int)) then ((nth q (Int.toNat at_)).1 == (3 : Int)) else ((nth q (Int.toNat at_)).1 == (4 : Int))) then (Q6 ⟨#[32]⟩ [(Qo ((nth q (Int.toNat at_)).1)), (nth q (Int.toNat at_)).2.2.2.1, (Xe ((nth q (Int.toNat at_)).2.2.2.2.1, (nth q (Int.toNat at_)).2.2.2.2.2.1, (nth q (Int.toNat at_)).2.2.2.2.2.2))]) else (bif ((nth q (Int.toNat at_)).1 == (5 : Int)) then (Q6 ⟨#[32]⟩ [(Qo ((nth q (Int.toNat at_)).1)), (Xn n_ q ((nth q (Int.toNat at_)).2.1))]) else (bif ((nth q (Int.toNat at_)).1 == (6 : Int)) then (Q6 ⟨#[32]⟩ [(Qo ((nth q (Int.toNat at_)).1)), (Xn n_ q ((nth q (Int.toNat at_)).2.1)), (Xn n_ q ((nth q (Int.toNat at_)).2.2.1))]) else (bif ((nth q (Int.toNat at_)).1 == (7 : Int)) then (Q6 ⟨#[32]⟩ [(Qo ((nth q (Int.toNat at_)).1)), (Xn n_ q ((nth q (Int.toNat at_)).2.1)), (Xn n_ q ((nth q (Int.toNat at_)).2.2.1))]) else (Q6 ⟨#[32]⟩ [(Qo ((nth q (Int.toNat at_)).1))])))))))
theorem Qb8 : ∀ (n : Nat) {q : List Qw} (_ : Qk q = true) {k : Nat} (_ : k < q.length), (Xn n q (k : Int)).size + 8 ≤ 40 * 2 ^ k
 | 0, q, hv, k, hk => by
  have h1 : 1 ≤ 2 ^ k := Nat.one_le_two_pow
  show 0 + 8 ≤ _
  omega
 | n + 1, q, hv, k, hk => by
  have h1 : 1 ≤ 2 ^ k := Nat.one_le_two_pow
  have e1 : (⟨#[32]⟩ : ByteArray).size = 1 := rfl
  have hnm := Pv hv (at_ := (k : Int)) (by omega) (by omega)
  have hop := ET (nth q (Int.toNat (k : Int))).1
  have hfv := VK ((nth q (Int.toNat (k : Int))).2.2.2.2.1, (nth q (Int.toNat (k : Int))).2.2.2.2.2.1, (nth q (Int.toNat (k : Int))).2.2.2.2.2.2)
  have kid : ∀ j : Int, 0 ≤ j ∧ j < (k : Int) → (Xn n q j).size + 8 ≤ 20 * 2 ^ k := fun j hj => by
   obtain ⟨m, rfl⟩ := Int.eq_ofNat_of_zero_le hj.1
   have h2 := Qb8 n hv (k := m) (by omega)
   have h3 : 2 ^ (m + 1) ≤ 2 ^ k := Nat.pow_le_pow_right (by decide) (by omega)
   rw [Nat.pow_succ] at h3
   omega
  have ka := BB hv (k := (k : Int)) (by omega) (by omega)
  have kb := BC hv (k := (k : Int)) (by omega) (by omega)
  have kc := DQ hv (k := (k : Int)) (by omega) (by omega)
  have kd := BD hv (k := (k : Int)) (by omega) (by omega)
  have ke := DR hv (k := (k : Int)) (by omega) (by omega)
  unfold Xn
  generalize nth q (Int.toNat (k : Int)) = x at *
  simp only [Zd, Zy, Zq]
  cases h2 : (x.1 == (2 : Int)) with
  | true => simp only [cond_true, ByteArray.size_append]; omega
  | false =>
  cases h8 : (x.1 == (8 : Int)) with
  | true => simp only [cond_true, cond_false, ByteArray.size_append]; omega
  | false =>
  cases h9 : (x.1 == (9 : Int)) with
  | true => simp only [cond_true, cond_false, ByteArray.size_append]; omega
  | false =>
  cases h3 : (x.1 == (3 : Int)) with
  | true => simp only [cond_true, cond_false, ByteArray.size_append]; omega
  | false =>
  cases h4 : (x.1 == (4 : Int)) with
  | true => simp only [cond_true, cond_false, ByteArray.size_append]; omega
  | false =>
  cases h5 : (x.1 == (5 : Int)) with
  | true => have := kid _ (ka h5); simp only [cond_true, cond_false, ByteArray.size_append]; omega
  | false =>
  cases h6 : (x.1 == (6 : Int)) with
  | true => have := kid _ (kb h6); have := kid _ (kd h6); simp only [cond_true, cond_false, ByteArray.size_append]; omega
  | false =>
  cases h7 : (x.1 == (7 : Int)) with
  | true => have := kid _ (kc h7); have := kid _ (ke h7); simp only [cond_true, cond_false, ByteArray.size_append]; omega
  | false => simp only [cond_false]; omega
theorem VL (n : Nat) {q : List Qw} (hv : Qk q = true) {k : Int} (h0 : 0 ≤ k) (h1 : k < (q.length : Int)) : (Xn n q k).size ≤ 10240 := by
 obtain ⟨m, rfl⟩ := Int.eq_ofNat_of_zero_le h0
 have h2 := Qb8 n hv (k := m) (by omega)
 have h3 := Df hv
 have h4 : 2 ^ m ≤ 2 ^ 8 := Nat.pow_le_pow_right (by decide) (by omega)
 omega
theorem Pw : ∀ (n_ : Nat) (q : (List Qw)) (at_ : Int) (hv : Qk q = true) (ha : 0 ≤ at_) (hb : at_ < (q.length : Int)) (hn : at_ < ((n_ : Nat) : Int)), ACalls Tryz.prog 119 [.h q, .i at_] (.s (Xn n_ q at_)) := by
 intro n_
 induction n_ with
 | zero => intro q at_ hv ha hb hn; exact (by omega : False).elim
 | succ n_ ih =>
  intro q at_ hv ha hb hn
  refine en Qa Tryz.func119 fun w0 F0 hG => ?_
  have hnm := Pv hv ha hb
  have hql := Df hv
  have hq1 : ByteArray.size (⟨#[32]⟩ : ByteArray) = 1 := rfl
  refine sn Qa [0, 1, 4] [] (p0) ?_
  refine wT 0 0 .sh q (fun hw2 hl3 => ?_)
  have hx1 := ng q (Int.toNat at_)
  refine tn Qa [0, 4, 5] [5] (pg 2 at_ hx1 p0) ?_
  have hk4 := ET ((nth q (Int.toNat at_)).1)
  refine tu Qa [(4, .s ⟨#[]⟩), (5, .p 5 0), (6, .o 896 [(Qo ((nth q (Int.toNat at_)).1))])] [1] [(5, [.i ((nth q (Int.toNat at_)).1), .i ((nth q (Int.toNat at_)).2.1), .i ((nth q (Int.toNat at_)).2.2.1), .s ((nth q (Int.toNat at_)).2.2.2.1), .i ((nth q (Int.toNat at_)).2.2.2.2.1), .i ((nth q (Int.toNat at_)).2.2.2.2.2.1), .s ((nth q (Int.toNat at_)).2.2.2.2.2.2)])] [] (pc 2 (Ee ((nth q (Int.toNat at_)).1)) p0) ?_
  refine Qc ?_
  refine sn Qa [0, 4, 5, 6, 16] [5] (p0) ?_
  refine Qz ?_
  refine Qc ?_
  refine tn Qa [0, 4, 5, 6, 16, 17] [5] (p0) ?_
  refine ck ((nth q (Int.toNat at_)).1 == (2 : Int)) (fun h5 => ?_) (fun h5 => ?_)
  ·
   have h5d := eq_of_beq h5
   refine Qf ?_
   refine ckt h5 ?_
   refine wT 6 0 (.own true 896) [(Qo ((nth q (Int.toNat at_)).1))] (fun hw6 hl7 => ?_)
   refine qu Qa [(6, .o 1600 [(Qo ((nth q (Int.toNat at_)).1)), (nth q (Int.toNat at_)).2.2.2.1])] [0, 5, 6] [] [5] (pa [(Qo ((nth q (Int.toNat at_)).1))] [(nth q (Int.toNat at_)).2.2.2.1] p0) ?_
   refine sn Qa [4] [] (pc 1 (Kd [(Qo ((nth q (Int.toNat at_)).1)), (nth q (Int.toNat at_)).2.2.2.1] ⟨#[32]⟩ (by first | omega | exact Nat.le_trans (J0 (m := 10) (n := 20) rfl (by assumption) (by omega)) (by decide) | (simp only [Zd, Zy, Zq, ByteArray.size_append]; omega))) p0) ?_
   refine Qe ?_
   exact ps [] (Xh h5 (rfl))
  have h5d := Yg h5
  refine tu Qa [(16, .i ((nth q (Int.toNat at_)).1)), (17, .b ((nth q (Int.toNat at_)).1 == (8 : Int)))] [] [] [] (p0) ?_
  refine jn [(17, .b (bif ((nth q (Int.toNat at_)).1 == (8 : Int)) then ((nth q (Int.toNat at_)).1 == (8 : Int)) else ((nth q (Int.toNat at_)).1 == (9 : Int))))] [17] [] [] ((nth q (Int.toNat at_)).1 == (8 : Int)) (fun h8 => ?_) (fun h8 => ?_) ?_
  ·
   have h8d := eq_of_beq h8
   refine ckt h8 ?_
   refine Qf ?_
   exact ⟨rfl, Qd (by rw [h8] <;> kernel_rfl)⟩
  ·
   have h8d := Yg h8
   refine ckf h8 ?_
   refine rn Qa [0, 4, 5, 6, 16, 17] [5] (p0) ?_
   exact ⟨rfl, Qd (by rw [h8] <;> kernel_rfl)⟩
  refine ck (bif ((nth q (Int.toNat at_)).1 == (8 : Int)) then ((nth q (Int.toNat at_)).1 == (8 : Int)) else ((nth q (Int.toNat at_)).1 == (9 : Int))) (fun h9 => ?_) (fun h9 => ?_)
  ·
   refine wT 6 0 (.own true 896) [(Qo ((nth q (Int.toNat at_)).1))] (fun hw10 hl11 => ?_)
   refine rn Qa [4, 6] [] (pa [(Qo ((nth q (Int.toNat at_)).1))] [(nth q (Int.toNat at_)).2.2.2.1] p0) ?_
   refine tn Qa [4] [] (pc 1 (Kd [(Qo ((nth q (Int.toNat at_)).1)), (nth q (Int.toNat at_)).2.2.2.1] ⟨#[32]⟩ (by first | omega | exact Nat.le_trans (J0 (m := 10) (n := 20) rfl (by assumption) (by omega)) (by decide) | (simp only [Zd, Zy, Zq, ByteArray.size_append]; omega))) p0) ?_
   refine Qe ?_
   exact ps [] (Qj h5 (Xh h9 (rfl)))
  refine Qc ?_
  refine sn Qa [0, 4, 5, 6, 16, 26] [5] (p0) ?_
  refine mz [(26, .b ((nth q (Int.toNat at_)).1 == (3 : Int)))] [17] [] [] ?_
  refine jn [(26, .b (bif ((nth q (Int.toNat at_)).1 == (3 : Int)) then ((nth q (Int.toNat at_)).1 == (3 : Int)) else ((nth q (Int.toNat at_)).1 == (4 : Int))))] [26] [] [] ((nth q (Int.toNat at_)).1 == (3 : Int)) (fun h12 => ?_) (fun h12 => ?_) ?_
  ·
   have h12d := eq_of_beq h12
   refine ckt h12 ?_
   refine Qf ?_
   exact ⟨rfl, Qd (by rw [h12] <;> kernel_rfl)⟩
  ·
   have h12d := Yg h12
   refine ckf h12 ?_
   refine rn Qa [0, 4, 5, 6, 16, 26] [5] (p0) ?_
   exact ⟨rfl, Qd (by rw [h12] <;> kernel_rfl)⟩
  refine ck (bif ((nth q (Int.toNat at_)).1 == (3 : Int)) then ((nth q (Int.toNat at_)).1 == (3 : Int)) else ((nth q (Int.toNat at_)).1 == (4 : Int))) (fun h13 => ?_) (fun h13 => ?_)
  ·
   have hk14 := VK ((nth q (Int.toNat at_)).2.2.2.2.1, (nth q (Int.toNat at_)).2.2.2.2.2.1, (nth q (Int.toNat at_)).2.2.2.2.2.2)
   refine wT 6 0 (.own true 896) [(Qo ((nth q (Int.toNat at_)).1))] (fun hw15 hl16 => ?_)
   refine rN Qa Yz [4, 6] [] (pc 5 (Ck ((nth q (Int.toNat at_)).2.2.2.2.1, (nth q (Int.toNat at_)).2.2.2.2.2.1, (nth q (Int.toNat at_)).2.2.2.2.2.2)) (pa [(Qo ((nth q (Int.toNat at_)).1))] [(nth q (Int.toNat at_)).2.2.2.1, (Xe ((nth q (Int.toNat at_)).2.2.2.2.1, (nth q (Int.toNat at_)).2.2.2.2.2.1, (nth q (Int.toNat at_)).2.2.2.2.2.2))] p0)) ?_
   refine tn Qa [4] [] (pc 1 (Kd [(Qo ((nth q (Int.toNat at_)).1)), (nth q (Int.toNat at_)).2.2.2.1, (Xe ((nth q (Int.toNat at_)).2.2.2.2.1, (nth q (Int.toNat at_)).2.2.2.2.2.1, (nth q (Int.toNat at_)).2.2.2.2.2.2))] ⟨#[32]⟩ (by first | omega | exact Nat.le_trans (J0 (m := 10) (n := 20) rfl (by assumption) (by omega)) (by decide) | (simp only [Zd, Zy, Zq, ByteArray.size_append]; omega))) p0) ?_
   refine Qe ?_
   exact ps [] (Qj h5 (Qj h9 (Xh h13 (rfl))))
  refine sn Qa [0, 4, 5, 6, 16, 37] [5] (p0) ?_
  refine ck ((nth q (Int.toNat at_)).1 == (5 : Int)) (fun h17 => ?_) (fun h17 => ?_)
  ·
   have h17k := BB hv ha hb h17; have h17z := VL n_ hv h17k.1 (by omega)
   have h17d := eq_of_beq h17
   refine wT 6 0 (.own true 896) [(Qo ((nth q (Int.toNat at_)).1))] (fun hw18 hl19 => ?_)
   refine qn Qa [4, 6] [] (pc 4 (ih q ((nth q (Int.toNat at_)).2.1) hv (by have hz := BB hv ha hb h17; omega) (by have hz := BB hv ha hb h17; omega) (by have hz := BB hv ha hb h17; omega)) (pa [(Qo ((nth q (Int.toNat at_)).1))] [(Xn n_ q ((nth q (Int.toNat at_)).2.1))] p0)) ?_
   refine tu Qa [(4, .s (Q6 ⟨#[32]⟩ [(Qo ((nth q (Int.toNat at_)).1)), (Xn n_ q ((nth q (Int.toNat at_)).2.1))]))] [0, 4, 5, 6, 16, 26] [] [5] (pc 1 (Kd [(Qo ((nth q (Int.toNat at_)).1)), (Xn n_ q ((nth q (Int.toNat at_)).2.1))] ⟨#[32]⟩ (by first | omega | exact Nat.le_trans (J0 (m := 10) (n := 20) rfl (by assumption) (by omega)) (by decide) | (simp only [Zd, Zy, Zq, ByteArray.size_append]; omega))) p0) ?_
   refine Qe ?_
   exact ps [] (Qj h5 (Qj h9 (Qj h13 (Xh h17 (rfl)))))
  have h17d := Yg h17
  refine Qc ?_
  refine tn Qa [0, 4, 5, 6, 16, 46] [5] (p0) ?_
  refine ck ((nth q (Int.toNat at_)).1 == (6 : Int)) (fun h20 => ?_) (fun h20 => ?_)
  ·
   have h20k := BC hv ha hb h20; have h20z := VL n_ hv h20k.1 (by omega); have h20m := BD hv ha hb h20; have h20y := VL n_ hv h20m.1 (by omega)
   have h20d := eq_of_beq h20
   refine Qf ?_
   refine ckt h20 ?_
   refine wT 6 0 (.own true 896) [(Qo ((nth q (Int.toNat at_)).1))] (fun hw21 hl22 => ?_)
   refine qU Qa Yz [(6, .o 3776 [(Qo ((nth q (Int.toNat at_)).1)), (Xn n_ q ((nth q (Int.toNat at_)).2.1)), (Xn n_ q ((nth q (Int.toNat at_)).2.2.1))])] [0, 5, 6, 16, 26] [] [5] (pc 4 (ih q ((nth q (Int.toNat at_)).2.1) hv (by have hz := BC hv ha hb h20; omega) (by have hz := BC hv ha hb h20; omega) (by have hz := BC hv ha hb h20; omega)) (pc 8 (ih q ((nth q (Int.toNat at_)).2.2.1) hv (by have hz := BD hv ha hb h20; omega) (by have hz := BD hv ha hb h20; omega) (by have hz := BD hv ha hb h20; omega)) (pa [(Qo ((nth q (Int.toNat at_)).1))] [(Xn n_ q ((nth q (Int.toNat at_)).2.1)), (Xn n_ q ((nth q (Int.toNat at_)).2.2.1))] p0))) ?_
   refine sn Qa [4] [] (pc 1 (Kd [(Qo ((nth q (Int.toNat at_)).1)), (Xn n_ q ((nth q (Int.toNat at_)).2.1)), (Xn n_ q ((nth q (Int.toNat at_)).2.2.1))] ⟨#[32]⟩ (by first | omega | exact Nat.le_trans (J0 (m := 10) (n := 20) rfl (by assumption) (by omega)) (by decide) | (simp only [Zd, Zy, Zq, ByteArray.size_append]; omega))) p0) ?_
   refine Qe ?_
   exact ps [] (Qj h5 (Qj h9 (Qj h13 (Qj h17 (Xh h20 (rfl))))))
  have h20d := Yg h20
  refine qu Qa [(46, .b ((nth q (Int.toNat at_)).1 == (7 : Int)))] [16, 26] [] [] (p0) ?_
  refine ck ((nth q (Int.toNat at_)).1 == (7 : Int)) (fun h23 => ?_) (fun h23 => ?_)
  ·
   have h23k := DQ hv ha hb h23; have h23z := VL n_ hv h23k.1 (by omega); have h23m := DR hv ha hb h23; have h23y := VL n_ hv h23m.1 (by omega)
   have h23d := eq_of_beq h23
   refine wT 6 0 (.own true 896) [(Qo ((nth q (Int.toNat at_)).1))] (fun hw24 hl25 => ?_)
   refine rN Qa Yz [4, 6] [] (pc 4 (ih q ((nth q (Int.toNat at_)).2.1) hv (by have hz := DQ hv ha hb h23; omega) (by have hz := DQ hv ha hb h23; omega) (by have hz := DQ hv ha hb h23; omega)) (pc 8 (ih q ((nth q (Int.toNat at_)).2.2.1) hv (by have hz := DR hv ha hb h23; omega) (by have hz := DR hv ha hb h23; omega) (by have hz := DR hv ha hb h23; omega)) (pa [(Qo ((nth q (Int.toNat at_)).1))] [(Xn n_ q ((nth q (Int.toNat at_)).2.1)), (Xn n_ q ((nth q (Int.toNat at_)).2.2.1))] p0))) ?_
   refine tn Qa [4] [] (pc 1 (Kd [(Qo ((nth q (Int.toNat at_)).1)), (Xn n_ q ((nth q (Int.toNat at_)).2.1)), (Xn n_ q ((nth q (Int.toNat at_)).2.2.1))] ⟨#[32]⟩ (by first | omega | exact Nat.le_trans (J0 (m := 10) (n := 20) rfl (by assumption) (by omega)) (by decide) | (simp only [Zd, Zy, Zq, ByteArray.size_append]; omega))) p0) ?_
   refine Qe ?_
   exact ps [] (Qj h5 (Qj h9 (Qj h13 (Qj h17 (Qj h20 (Xh h23 (rfl)))))))
  have h23d := Yg h23
  refine Qf ?_
  refine sn Qa [4] [] (pc 1 (Kd [(Qo ((nth q (Int.toNat at_)).1))] ⟨#[32]⟩ (by first | omega | exact Nat.le_trans (J0 (m := 10) (n := 20) rfl (by assumption) (by omega)) (by decide) | (simp only [Zd, Zy, Zq, ByteArray.size_append]; omega))) p0) ?_
  refine Qe ?_
  exact ps [] (Qj h5 (Qj h9 (Qj h13 (Qj h17 (Qj h20 (Qj h23 (rfl)))))))
def Y3 (n_ : Nat) (q : (List Qw)) (at_ : Int) : ByteArray := match n_ with
 | 0 => default
 | n_ + 1 => (bif ((nth q (Int.toNat at_)).1 == (2 : Int)) then (((Xk ((nth q (Int.toNat at_)).1)) ++ (⟨#[32]⟩ : ByteArray)) ++ ((nth q (Int.toNat at_)).2.2.2.1)) else (bif (bif ((nth q (Int.toNat at_)).1 == (8 : Int)) then ((nth q (Int.toNat at_)).1 == (8 : Int)) else ((nth q (Int.toNat at_)).1 == (9 : Int))) then (((Xk ((nth q (Int.toNat at_)).1)) ++ (⟨#[32]⟩ : ByteArray)) ++ ((nth q (Int.toNat at_)).2.2.2.1)) else (bif (bif ((nth q (Int.toNat at_)).1 == (3 : Int)) then ((nth q (Int.toNat at_)).1 == (3 : Int)) else ((nth q (Int.toNat at_)).1 == (4 : Int))) then (((((Xk ((nth q (Int.toNat at_)).1)) ++ (⟨#[32]⟩ : ByteArray)) ++ ((nth q (Int.toNat at_)).2.2.2.1)) ++ (⟨#[32]⟩ : ByteArray)) ++ (Yc ((nth q (Int.toNat at_)).2.2.2.2.1, (nth q (Int.toNat at_)).2.2.2.2.2.1, (nth q (Int.toNat at_)).2.2.2.2.2.2))) else (bif ((nth q (Int.toNat at_)).1 == (5 : Int)) then (((Xk ((nth q (Int.toNat at_)).1)) ++ (⟨#[32]⟩ : ByteArray)) ++ (Y3 n_ q ((nth q (Int.toNat at_)).2.1))) else (bif ((nth q (Int.toNat at_)).1 == (6 : Int)) then (((((Xk ((nth q (Int.toNat at_)).1)) ++ (⟨#[32]⟩ : ByteArray)) ++ (Y3 n_ q ((nth q (Int.toNat at_)).2.1))) ++ (⟨#[32]⟩ : ByteArray)) ++ (Y3 n_ q ((nth q (Int.toNat at_)).2.2.1))) else (bif ((nth q (Int.toNat at_)).1 == (7 : Int)) then (((((Xk ((nth q (Int.toNat at_)).1)) ++ (⟨#[32]⟩ : ByteArray)) ++ (Y3 n_ q ((nth q (Int.toNat at_)).2.1))) ++ (⟨#[32]⟩ : ByteArray)) ++ (Y3 n_ q ((nth q (Int.toNat at_)).2.2.1))) else (Xk ((nth q (Int.toNat at_)).1))))))))
theorem EY : ∀ (n : Nat) (q : List Qw) (k : Int), Y3 n q k = Xn n q k
 | 0, _, _ => rfl
 | n + 1, q, k => by
  unfold Y3 Xn
  simp only [Zd, Zy, Zq, UQ, Qah, EY n]
theorem ZE (n : Nat) {q : List Qw} (hv : Qk q = true) {k : Int} (h0 : 0 ≤ k) (h1 : k < (q.length : Int)) : (Y3 n q k).size ≤ 10240 := by rw [EY]; exact VL n hv h0 h1
theorem QE : ∀ (n_ : Nat) (q : (List Qw)) (at_ : Int) (hv : Qk q = true) (ha : 0 ≤ at_) (hb : at_ < (q.length : Int)) (hn : at_ < ((n_ : Nat) : Int)), ACalls Tryz.prog 74 [.h q, .i at_] (.s (Y3 n_ q at_)) := by
 intro n_
 induction n_ with
 | zero => intro q at_ hv ha hb hn; exact (by omega : False).elim
 | succ n_ ih =>
  intro q at_ hv ha hb hn
  refine en Qa Tryz.func74 fun w0 F0 hG => ?_
  have hnm := Pv hv ha hb
  have hql := Df hv
  have hq1 : ByteArray.size (⟨#[32]⟩ : ByteArray) = 1 := rfl
  refine sn Qa [0, 1, 4] [] (p0) ?_
  refine wT 0 0 .sh q (fun hw2 hl3 => ?_)
  have hx1 := ng q (Int.toNat at_)
  refine tn Qa [0, 4, 5] [5] (pg 2 at_ hx1 p0) ?_
  have hk4 := NX ((nth q (Int.toNat at_)).1)
  refine tu Qa [(4, .s ⟨#[]⟩), (5, .p 5 0), (6, .s (Xk ((nth q (Int.toNat at_)).1)))] [1] [(5, [.i ((nth q (Int.toNat at_)).1), .i ((nth q (Int.toNat at_)).2.1), .i ((nth q (Int.toNat at_)).2.2.1), .s ((nth q (Int.toNat at_)).2.2.2.1), .i ((nth q (Int.toNat at_)).2.2.2.2.1), .i ((nth q (Int.toNat at_)).2.2.2.2.2.1), .s ((nth q (Int.toNat at_)).2.2.2.2.2.2)])] [] (pc 2 (Ef ((nth q (Int.toNat at_)).1)) p0) ?_
  refine Qc ?_
  refine sn Qa [0, 4, 5, 6, 15] [5] (p0) ?_
  refine Qz ?_
  refine Qc ?_
  refine tn Qa [0, 4, 5, 6, 15, 16] [5] (p0) ?_
  refine ck ((nth q (Int.toNat at_)).1 == (2 : Int)) (fun h5 => ?_) (fun h5 => ?_)
  ·
   have h5d := eq_of_beq h5
   refine Qf ?_
   refine ckt h5 ?_
   refine tu Qa [(4, .s (((Xk ((nth q (Int.toNat at_)).1)) ++ (⟨#[32]⟩ : ByteArray)) ++ ((nth q (Int.toNat at_)).2.2.2.1)))] [0, 4, 5] [] [5] (px (Yi (n := (ByteArray.size (Xk ((nth q (Int.toNat at_)).1)) + ByteArray.size (⟨#[32]⟩ : ByteArray))) (by have hq0 : ByteArray.size (⟨#[32]⟩ : ByteArray) = 1 := rfl; unfold maxLen; first | omega | (simp only [ByteArray.size_append]; omega))) (px (Yi (n := (ByteArray.size ((Xk ((nth q (Int.toNat at_)).1)) ++ (⟨#[32]⟩ : ByteArray)) + ByteArray.size ((nth q (Int.toNat at_)).2.2.2.1))) (by have hq0 : ByteArray.size (⟨#[32]⟩ : ByteArray) = 1 := rfl; unfold maxLen; first | omega | (simp only [ByteArray.size_append]; omega))) p0)) ?_
   refine Qe ?_
   exact ps [] (Xh h5 (rfl))
  have h5d := Yg h5
  refine tu Qa [(15, .i ((nth q (Int.toNat at_)).1)), (16, .b ((nth q (Int.toNat at_)).1 == (8 : Int)))] [] [] [] (p0) ?_
  refine jn [(16, .b (bif ((nth q (Int.toNat at_)).1 == (8 : Int)) then ((nth q (Int.toNat at_)).1 == (8 : Int)) else ((nth q (Int.toNat at_)).1 == (9 : Int))))] [16] [] [] ((nth q (Int.toNat at_)).1 == (8 : Int)) (fun h6 => ?_) (fun h6 => ?_) ?_
  ·
   refine ckt h6 ?_
   refine Qf ?_
   exact ⟨rfl, Qd (by rw [h6] <;> kernel_rfl)⟩
  ·
   refine ckf h6 ?_
   refine rn Qa [0, 4, 5, 6, 15, 16] [5] (p0) ?_
   exact ⟨rfl, Qd (by rw [h6] <;> kernel_rfl)⟩
  refine ck (bif ((nth q (Int.toNat at_)).1 == (8 : Int)) then ((nth q (Int.toNat at_)).1 == (8 : Int)) else ((nth q (Int.toNat at_)).1 == (9 : Int))) (fun h7 => ?_) (fun h7 => ?_)
  ·
   refine sn Qa [4, 6] [] (px (Yi (n := (ByteArray.size (Xk ((nth q (Int.toNat at_)).1)) + ByteArray.size (⟨#[32]⟩ : ByteArray))) (by have hq0 : ByteArray.size (⟨#[32]⟩ : ByteArray) = 1 := rfl; unfold maxLen; first | omega | (simp only [ByteArray.size_append]; omega))) (px (Yi (n := (ByteArray.size ((Xk ((nth q (Int.toNat at_)).1)) ++ (⟨#[32]⟩ : ByteArray)) + ByteArray.size ((nth q (Int.toNat at_)).2.2.2.1))) (by have hq0 : ByteArray.size (⟨#[32]⟩ : ByteArray) = 1 := rfl; unfold maxLen; first | omega | (simp only [ByteArray.size_append]; omega))) p0)) ?_
   refine Qe ?_
   exact ps [] (Qj h5 (Xh h7 (rfl)))
  refine Qc ?_
  refine sn Qa [0, 4, 5, 6, 15, 25] [5] (p0) ?_
  refine mz [(25, .b ((nth q (Int.toNat at_)).1 == (3 : Int)))] [16] [] [] ?_
  refine jn [(25, .b (bif ((nth q (Int.toNat at_)).1 == (3 : Int)) then ((nth q (Int.toNat at_)).1 == (3 : Int)) else ((nth q (Int.toNat at_)).1 == (4 : Int))))] [25] [] [] ((nth q (Int.toNat at_)).1 == (3 : Int)) (fun h8 => ?_) (fun h8 => ?_) ?_
  ·
   refine ckt h8 ?_
   refine Qf ?_
   exact ⟨rfl, Qd (by rw [h8] <;> kernel_rfl)⟩
  ·
   refine ckf h8 ?_
   refine rn Qa [0, 4, 5, 6, 15, 25] [5] (p0) ?_
   exact ⟨rfl, Qd (by rw [h8] <;> kernel_rfl)⟩
  refine ck (bif ((nth q (Int.toNat at_)).1 == (3 : Int)) then ((nth q (Int.toNat at_)).1 == (3 : Int)) else ((nth q (Int.toNat at_)).1 == (4 : Int))) (fun h9 => ?_) (fun h9 => ?_)
  ·
   have hk10 := NW ((nth q (Int.toNat at_)).2.2.2.2.1, (nth q (Int.toNat at_)).2.2.2.2.2.1, (nth q (Int.toNat at_)).2.2.2.2.2.2)
   refine sN Qa Yz [4, 6] [] (px (Yi (n := (ByteArray.size (Xk ((nth q (Int.toNat at_)).1)) + ByteArray.size (⟨#[32]⟩ : ByteArray))) (by have hq0 : ByteArray.size (⟨#[32]⟩ : ByteArray) = 1 := rfl; unfold maxLen; first | omega | (simp only [ByteArray.size_append]; omega))) (px (Yi (n := (ByteArray.size ((Xk ((nth q (Int.toNat at_)).1)) ++ (⟨#[32]⟩ : ByteArray)) + ByteArray.size ((nth q (Int.toNat at_)).2.2.2.1))) (by have hq0 : ByteArray.size (⟨#[32]⟩ : ByteArray) = 1 := rfl; unfold maxLen; first | omega | (simp only [ByteArray.size_append]; omega))) (px (Yi (n := (ByteArray.size (((Xk ((nth q (Int.toNat at_)).1)) ++ (⟨#[32]⟩ : ByteArray)) ++ ((nth q (Int.toNat at_)).2.2.2.1)) + ByteArray.size (⟨#[32]⟩ : ByteArray))) (by have hq0 : ByteArray.size (⟨#[32]⟩ : ByteArray) = 1 := rfl; unfold maxLen; first | omega | (simp only [ByteArray.size_append]; omega))) (pc 8 (W9 ((nth q (Int.toNat at_)).2.2.2.2.1, (nth q (Int.toNat at_)).2.2.2.2.2.1, (nth q (Int.toNat at_)).2.2.2.2.2.2)) (px (Yi (n := (ByteArray.size ((((Xk ((nth q (Int.toNat at_)).1)) ++ (⟨#[32]⟩ : ByteArray)) ++ ((nth q (Int.toNat at_)).2.2.2.1)) ++ (⟨#[32]⟩ : ByteArray)) + ByteArray.size (Yc ((nth q (Int.toNat at_)).2.2.2.2.1, (nth q (Int.toNat at_)).2.2.2.2.2.1, (nth q (Int.toNat at_)).2.2.2.2.2.2)))) (by have hq0 : ByteArray.size (⟨#[32]⟩ : ByteArray) = 1 := rfl; unfold maxLen; first | omega | (simp only [ByteArray.size_append]; omega))) p0))))) ?_
   refine Qe ?_
   exact ps [] (Qj h5 (Qj h7 (Xh h9 (rfl))))
  refine sn Qa [0, 4, 5, 6, 15, 38] [5] (p0) ?_
  refine ck ((nth q (Int.toNat at_)).1 == (5 : Int)) (fun h11 => ?_) (fun h11 => ?_)
  ·
   have h11k := BB hv ha hb h11; have h11z := ZE n_ hv h11k.1 (by omega)
   have h11d := eq_of_beq h11
   refine tn Qa [4, 6] [] (px (Yi (n := (ByteArray.size (Xk ((nth q (Int.toNat at_)).1)) + ByteArray.size (⟨#[32]⟩ : ByteArray))) (by have hq0 : ByteArray.size (⟨#[32]⟩ : ByteArray) = 1 := rfl; unfold maxLen; first | omega | (simp only [ByteArray.size_append]; omega))) (pc 5 (ih q ((nth q (Int.toNat at_)).2.1) hv (by have hz := BB hv ha hb h11; omega) (by have hz := BB hv ha hb h11; omega) (by have hz := BB hv ha hb h11; omega)) (px (Yi (n := (ByteArray.size ((Xk ((nth q (Int.toNat at_)).1)) ++ (⟨#[32]⟩ : ByteArray)) + ByteArray.size (Y3 n_ q ((nth q (Int.toNat at_)).2.1)))) (by have hq0 : ByteArray.size (⟨#[32]⟩ : ByteArray) = 1 := rfl; unfold maxLen; first | omega | (simp only [ByteArray.size_append]; omega))) p0))) ?_
   refine Qe ?_
   exact ps [] (Qj h5 (Qj h7 (Qj h9 (Xh h11 (rfl)))))
  have h11d := Yg h11
  refine Qc ?_
  refine tn Qa [0, 4, 5, 6, 15, 47] [5] (p0) ?_
  refine ck ((nth q (Int.toNat at_)).1 == (6 : Int)) (fun h12 => ?_) (fun h12 => ?_)
  ·
   have h12k := BC hv ha hb h12; have h12z := ZE n_ hv h12k.1 (by omega); have h12m := BD hv ha hb h12; have h12y := ZE n_ hv h12m.1 (by omega)
   have h12d := eq_of_beq h12
   refine Qf ?_
   refine ckt h12 ?_
   refine tU Qa Yz [(4, .s (((((Xk ((nth q (Int.toNat at_)).1)) ++ (⟨#[32]⟩ : ByteArray)) ++ (Y3 n_ q ((nth q (Int.toNat at_)).2.1))) ++ (⟨#[32]⟩ : ByteArray)) ++ (Y3 n_ q ((nth q (Int.toNat at_)).2.2.1))))] [0, 4, 5, 15, 25] [] [5] (px (Yi (n := (ByteArray.size (Xk ((nth q (Int.toNat at_)).1)) + ByteArray.size (⟨#[32]⟩ : ByteArray))) (by have hq0 : ByteArray.size (⟨#[32]⟩ : ByteArray) = 1 := rfl; unfold maxLen; first | omega | (simp only [ByteArray.size_append]; omega))) (pc 5 (ih q ((nth q (Int.toNat at_)).2.1) hv (by have hz := BC hv ha hb h12; omega) (by have hz := BC hv ha hb h12; omega) (by have hz := BC hv ha hb h12; omega)) (px (Yi (n := (ByteArray.size ((Xk ((nth q (Int.toNat at_)).1)) ++ (⟨#[32]⟩ : ByteArray)) + ByteArray.size (Y3 n_ q ((nth q (Int.toNat at_)).2.1)))) (by have hq0 : ByteArray.size (⟨#[32]⟩ : ByteArray) = 1 := rfl; unfold maxLen; first | omega | (simp only [ByteArray.size_append]; omega))) (px (Yi (n := (ByteArray.size (((Xk ((nth q (Int.toNat at_)).1)) ++ (⟨#[32]⟩ : ByteArray)) ++ (Y3 n_ q ((nth q (Int.toNat at_)).2.1))) + ByteArray.size (⟨#[32]⟩ : ByteArray))) (by have hq0 : ByteArray.size (⟨#[32]⟩ : ByteArray) = 1 := rfl; unfold maxLen; first | omega | (simp only [ByteArray.size_append]; omega))) (pc 11 (ih q ((nth q (Int.toNat at_)).2.2.1) hv (by have hz := BD hv ha hb h12; omega) (by have hz := BD hv ha hb h12; omega) (by have hz := BD hv ha hb h12; omega)) (px (Yi (n := (ByteArray.size ((((Xk ((nth q (Int.toNat at_)).1)) ++ (⟨#[32]⟩ : ByteArray)) ++ (Y3 n_ q ((nth q (Int.toNat at_)).2.1))) ++ (⟨#[32]⟩ : ByteArray)) + ByteArray.size (Y3 n_ q ((nth q (Int.toNat at_)).2.2.1)))) (by have hq0 : ByteArray.size (⟨#[32]⟩ : ByteArray) = 1 := rfl; unfold maxLen; first | omega | (simp only [ByteArray.size_append]; omega))) p0)))))) ?_
   refine Qe ?_
   exact ps [] (Qj h5 (Qj h7 (Qj h9 (Qj h11 (Xh h12 (rfl))))))
  have h12d := Yg h12
  refine qu Qa [(47, .b ((nth q (Int.toNat at_)).1 == (7 : Int)))] [15, 25] [] [] (p0) ?_
  refine ck ((nth q (Int.toNat at_)).1 == (7 : Int)) (fun h13 => ?_) (fun h13 => ?_)
  ·
   have h13k := DQ hv ha hb h13; have h13z := ZE n_ hv h13k.1 (by omega); have h13m := DR hv ha hb h13; have h13y := ZE n_ hv h13m.1 (by omega)
   have h13d := eq_of_beq h13
   refine sN Qa Yz [4, 6] [] (px (Yi (n := (ByteArray.size (Xk ((nth q (Int.toNat at_)).1)) + ByteArray.size (⟨#[32]⟩ : ByteArray))) (by have hq0 : ByteArray.size (⟨#[32]⟩ : ByteArray) = 1 := rfl; unfold maxLen; first | omega | (simp only [ByteArray.size_append]; omega))) (pc 5 (ih q ((nth q (Int.toNat at_)).2.1) hv (by have hz := DQ hv ha hb h13; omega) (by have hz := DQ hv ha hb h13; omega) (by have hz := DQ hv ha hb h13; omega)) (px (Yi (n := (ByteArray.size ((Xk ((nth q (Int.toNat at_)).1)) ++ (⟨#[32]⟩ : ByteArray)) + ByteArray.size (Y3 n_ q ((nth q (Int.toNat at_)).2.1)))) (by have hq0 : ByteArray.size (⟨#[32]⟩ : ByteArray) = 1 := rfl; unfold maxLen; first | omega | (simp only [ByteArray.size_append]; omega))) (px (Yi (n := (ByteArray.size (((Xk ((nth q (Int.toNat at_)).1)) ++ (⟨#[32]⟩ : ByteArray)) ++ (Y3 n_ q ((nth q (Int.toNat at_)).2.1))) + ByteArray.size (⟨#[32]⟩ : ByteArray))) (by have hq0 : ByteArray.size (⟨#[32]⟩ : ByteArray) = 1 := rfl; unfold maxLen; first | omega | (simp only [ByteArray.size_append]; omega))) (pc 11 (ih q ((nth q (Int.toNat at_)).2.2.1) hv (by have hz := DR hv ha hb h13; omega) (by have hz := DR hv ha hb h13; omega) (by have hz := DR hv ha hb h13; omega)) (px (Yi (n := (ByteArray.size ((((Xk ((nth q (Int.toNat at_)).1)) ++ (⟨#[32]⟩ : ByteArray)) ++ (Y3 n_ q ((nth q (Int.toNat at_)).2.1))) ++ (⟨#[32]⟩ : ByteArray)) + ByteArray.size (Y3 n_ q ((nth q (Int.toNat at_)).2.2.1)))) (by have hq0 : ByteArray.size (⟨#[32]⟩ : ByteArray) = 1 := rfl; unfold maxLen; first | omega | (simp only [ByteArray.size_append]; omega))) p0)))))) ?_
   refine Qe ?_
   exact ps [] (Qj h5 (Qj h7 (Qj h9 (Qj h11 (Qj h12 (Xh h13 (rfl)))))))
  refine Qf ?_
  refine sn Qa [4] [] (p0) ?_
  refine Qe ?_
  exact ps [] (Qj h5 (Qj h7 (Qj h9 (Qj h11 (Qj h12 (Qj h13 (rfl)))))))
def Qv (q : (List Qw)) : ByteArray := (bif (!(Qk q)) then ⟨#[]⟩ else (Xn (List.length q) q ((q.length : Int) - 1)))
theorem Ly (q : (List Qw)) : ACalls Tryz.prog 85 [.h q] (.s (Qv q)) := by
 refine en Qa Tryz.func85 fun w0 F0 hG => ?_
 refine sn Qa [0, 2] [] (p0) ?_
 refine Qc ?_
 refine tn Qa [0, 2, 5] [] (pc 1 (Kz q) p0) ?_
 refine ck (!(Qk q)) (fun h1 => ?_) (fun h1 => ?_)
 ·
  refine tu Qa [(2, .s ⟨#[]⟩)] [] [] [] (p0) ?_
  refine Qe ?_
  exact ps [] (Xh h1 (rfl))
 have h1n : (Qk q) = true := Z4 h1
 refine Qf ?_
 refine wT 0 0 .sh q (fun hw2 hl3 => ?_)
 refine tu Qa [(2, .s (Xn (List.length q) q ((q.length : Int) - 1)))] [0] [] [] (pl 2 q (pe 3 (Jq (IntWalk.i64_in ((q.length : Int) - 1) (by omega))) (pc 4 (Pw (List.length q) q ((q.length : Int) - 1) h1n (by have := Df h1n; omega) (by omega) (by omega)) p0))) ?_
 refine Qe ?_
 exact ps [] (Qj h1 (rfl))
def Xv (q : (List Qw)) : ByteArray := (bif (!(Yh q)) then ⟨#[]⟩ else (Y3 (List.length q) q ((q.length : Int) - 1)))
theorem Cn (q : (List Qw)) : ACalls Tryz.prog 51 [.h q] (.s (Xv q)) := by
 refine en Qa Tryz.func51 fun w0 F0 hG => ?_
 refine sn Qa [0, 2] [] (p0) ?_
 refine Qc ?_
 refine tn Qa [0, 2, 5] [] (pc 1 (K0 q) p0) ?_
 refine ck (!(Yh q)) (fun h1 => ?_) (fun h1 => ?_)
 ·
  refine tu Qa [(2, .s ⟨#[]⟩)] [] [] [] (p0) ?_
  refine Qe ?_
  exact ps [] (Xh h1 (rfl))
 have h1n : (Yh q) = true := Z4 h1
 refine Qf ?_
 refine wT 0 0 .sh q (fun hw2 hl3 => ?_)
 refine tu Qa [(2, .s (Y3 (List.length q) q ((q.length : Int) - 1)))] [0] [] [] (pl 2 q (pe 3 (Jq (IntWalk.i64_in ((q.length : Int) - 1) (by omega))) (pc 4 (QE (List.length q) q ((q.length : Int) - 1) (Fw h1n) (by have := Df (Fw h1n); omega) (by omega) (by omega)) p0))) ?_
 refine Qe ?_
 exact ps [] (Qj h1 (rfl))
theorem RV (q : List Qw) : (Qv q).size ≤ 10240 := by
  unfold Qv
  cases hv : Qk q with
  | false => exact Nat.zero_le _
  | true =>
    have := Df hv
    exact VL _ hv (by omega) (by omega)
theorem RW (q : List Qw) : Xv q = Qv q := by
  unfold Xv Qv
  rw [← LE, EY]
theorem NY (q : List Qw) : (Xv q).size ≤ 10240 := by rw [RW]; exact RV q
theorem EZ {x : Qp} (h : Qi x = true) : Zh x.2 = true := by
  unfold Qi J6 at h
  simp only [Bool.and_eq_true] at h
  have h2 := h.2
  unfold Vl at h2
  cases hv : Zh x.2 with
  | true => rfl
  | false => rw [hv] at h2; cases h2
theorem Bq {x : Qp} (h : Qi x = true) : x.1.1.length ≤ 5 ∧ x.1.2.1.length ≤ 12 ∧ x.2.length ≤ 5 := by
  have h1 := B7 h
  exact ⟨h1.1, h1.2.1, G8 (EZ h)⟩
theorem Nk {x : Qp} (h : Qi x = true) {d : Z9} (hd : d ∈ x.2) : d.1.size ≤ 6 ∧ Qy d.1 = true ∧ Qk d.2 = true := by
  have h1 := EZ h
  unfold Zh at h1
  obtain ⟨_, h2⟩ := Ie (fun _ _ _ => rfl) h1
  obtain ⟨i, hi⟩ := List.getElem?_of_mem hd
  have h3 := bo (h2 i d hi)
  have h4 := bn h3.1
  have h5 : Qk d.2 = true := by
    have h6 := h3.2
    cases hc : decide (((i : Nat) : Int) > (0 : Int)) with
    | true => rw [hc] at h6; exact bn (bo h6).2
    | false => rw [hc] at h6; exact bn h6
  exact ⟨(Bz h4).2, h4, h5⟩
/-! ### a file's words -/
theorem FA {α β : Type} {R : Type} {f : Nat → α → List β → Rd R (List β) (List β)} {e : Nat → List β → List β} {g : α → List β} (hf : ∀ k a s, f k a s = .next (s ++ g a)) (he : ∀ k s, e k s = s) : ∀ (l : List α) (k : Nat) (s : List β), Yr f e l k s = .brk (s ++ l.flatMap g)
  | [], k, s => by simp [Yr, he]
  | a :: l, k, s => by
    simp only [Yr, hf]
    rw [FA hf he l, List.flatMap_cons, List.append_assoc]
def Uk (f : Jk) : List ByteArray := [(⟨#[102, 105, 108, 101]⟩ : ByteArray), (Qq f.1), (Qq f.2.1), (bif f.2.2.1 then ⟨#[115]⟩ else ⟨#[111]⟩), (Qq f.2.2.2.1)] ++ f.2.2.2.2.flatMap fun a => [a.1, Xe a.2]
theorem Nl (f : Jk) : Yk f = Q6 ⟨#[32]⟩ (Uk f) := by
  unfold Yk
  rw [FA (f := H2) (e := H3) (g := fun a => [a.1, Xe a.2]) (fun _ _ _ => rfl) (fun _ _ => rfl)]
  rfl
theorem UT : ∀ (l : List Vc) (k : Nat) (p : List ByteArray), p ≠ [] → Yr Ua Ub l k (Q6 ⟨#[32]⟩ p) = .brk (Q6 ⟨#[32]⟩ (p ++ l.flatMap fun a => [a.1, Xe a.2]))
  | [], k, p, _ => by simp [Yr, Ub]
  | a :: l, k, p, hp => by
    simp only [Yr, Ua]
    rw [show (((Q6 ⟨#[32]⟩ p ++ (⟨#[32]⟩ : ByteArray)) ++ a.1) ++ (⟨#[32]⟩ : ByteArray)) ++ (Yc a.2) = Q6 ⟨#[32]⟩ (p ++ [a.1, Xe a.2]) by
      rw [H1 _ hp (fun e => by cases e), Zy, Qah]; simp only [ByteArray.append_assoc]]
    rw [UT l (k + 1) _ (by simp), List.flatMap_cons, List.append_assoc]
theorem LX (f : Jk) : Zm f = Q6 ⟨#[32]⟩ (Uk f) := by
  have h0 : ((bif f.2.2.1 then (((((⟨#[102, 105, 108, 101, 32]⟩ : ByteArray) ++ (Qq f.1)) ++ (⟨#[32]⟩ : ByteArray)) ++ (Qq f.2.1)) ++ (⟨#[32, 115, 32]⟩ : ByteArray)) else (((((⟨#[102, 105, 108, 101, 32]⟩ : ByteArray) ++ (Qq f.1)) ++ (⟨#[32]⟩ : ByteArray)) ++ (Qq f.2.1)) ++ (⟨#[32, 111, 32]⟩ : ByteArray))) ++ (Qq f.2.2.2.1)) = Q6 ⟨#[32]⟩ [(⟨#[102, 105, 108, 101]⟩ : ByteArray), (Qq f.1), (Qq f.2.1), (bif f.2.2.1 then ⟨#[115]⟩ else ⟨#[111]⟩), (Qq f.2.2.2.1)] := by
    rw [Jh, Jh, Zq]
    rw [show (⟨#[102, 105, 108, 101, 32]⟩ : ByteArray) = (⟨#[102, 105, 108, 101]⟩ : ByteArray) ++ (⟨#[32]⟩ : ByteArray) from rfl, show (⟨#[32, 115, 32]⟩ : ByteArray) = (⟨#[32]⟩ : ByteArray) ++ (⟨#[115]⟩ : ByteArray) ++ (⟨#[32]⟩ : ByteArray) from rfl, show (⟨#[32, 111, 32]⟩ : ByteArray) = (⟨#[32]⟩ : ByteArray) ++ (⟨#[111]⟩ : ByteArray) ++ (⟨#[32]⟩ : ByteArray) from rfl]
    cases f.2.2.1 <;> simp only [cond_true, cond_false, ByteArray.append_assoc]
  unfold Zm
  rw [h0, UT _ _ _ (fun e => by cases e)]
  rfl
theorem LY (f : Jk) : Zm f = Yk f := by rw [LX, Nl]
theorem ZF {f : Jk} (h : FBd f) : (Uk f).length ≤ 15 ∧ ∀ y, y ∈ Uk f → y.size ≤ 10 := by
  have hl := h.2.2.2.1
  have hlen : ∀ l : List Vc, (l.flatMap fun a => [a.1, Xe a.2]).length = 2 * l.length := fun l => by
    induction l with
    | nil => rfl
    | cons a l ih => rw [List.flatMap_cons, List.length_append, ih]; simp only [List.length_cons, List.length_nil]; omega
  refine ⟨by unfold Uk; rw [List.length_append, hlen]; simp only [List.length_cons, List.length_nil]; omega, fun y hy => ?_⟩
  rcases List.mem_append.1 hy with hy | hy
  · exact UR h y hy
  obtain ⟨a, ha, hy⟩ := List.mem_flatMap.1 hy
  simp only [List.mem_cons, List.mem_nil_iff, or_false] at hy
  rcases hy with rfl | rfl
  · exact EV h ha
  exact VK _
theorem RX {f : Jk} (h : FBd f) : (Yk f).size ≤ 200 := by
  rw [Nl]
  have h1 := ZF h
  exact Nat.le_trans (J0 (m := 10) (n := 15) rfl h1.2 h1.1) (by decide)
open GoE (enc wide)
def Wm (_ : Nat) (a0 : X9) (s0 : (List ByteArray)) : Rd ((List ByteArray)) ((List ByteArray)) ((List ByteArray)) := (.next (s0 ++ [(X1 a0)]))
def Wn (_ : Nat) (s0 : (List ByteArray)) : (List ByteArray) := s0
def Wo (_ : Nat) (a1 : Jk) (s1 : (List ByteArray)) : Rd ((List ByteArray)) ((List ByteArray)) ((List ByteArray)) := (.next (s1 ++ [(Yk a1)]))
def Wp (_ : Nat) (s1 : (List ByteArray)) : (List ByteArray) := s1
def Wq (_ : Nat) (a2 : Z9) (s2 : (List ByteArray)) : Rd ((List ByteArray)) ((List ByteArray)) ((List ByteArray)) := (.next (s2 ++ [((((⟨#[100, 105, 114, 32]⟩ : ByteArray) ++ a2.1) ++ (⟨#[32]⟩ : ByteArray)) ++ (Qv a2.2))]))
def Wr (_ : Nat) (s2 : (List ByteArray)) : (List ByteArray) := s2
def Qx (x : Qp) : (List ByteArray) := (bif (!(Qi x)) then [] else (Out.on (Yr Wm Wn x.1.1 0 []) (fun y0 => (Out.on (Yr Wo Wp x.1.2.1 0 (y0 ++ [((⟨#[110, 101, 120, 116, 32]⟩ : ByteArray) ++ (Qq x.1.2.2))])) (fun y1 => (Out.on (Yr Wq Wr x.2 0 y1) (fun y2 => y2)))))))
theorem Aq (x : Qp) : ACalls Tryz.prog 59 [.a [.h x.1.1, .h x.1.2.1, .i x.1.2.2, .h x.2]] (.o 0 (Qx x)) := by
 refine en Qa Tryz.func59 fun w0 F0 hG => ?_
 refine sn Qa [1, 2] [1] (p0) ?_
 refine Qc ?_
 refine tn Qa [1, 2, 12] [1] (pc 1 (Ju x) p0) ?_
 refine ck (!(Qi x)) (fun h1 => ?_) (fun h1 => ?_)
 ·
  have h1n : (Qi x) = false := Vp h1
  refine tu Qa [(1, .p 1 0), (2, .e 0)] [0] [(1, [.h x.1.1, .h x.1.2.1, .i x.1.2.2, .h x.2])] [] (p0) ?_
  refine opn [(false, 2, 0, true, 384000, 1)] ?_
  refine Qe ?_
  exact po0 [] (Xh h1 (rfl))
 have h1n : (Qi x) = true := Z4 h1
 have h1nn := (B7 h1n).2.2.1; have h1nl := Bq h1n
 refine Qf ?_
 refine tu Qa [(1, .p 1 0), (2, .e 0), (3, .one (.slc (.own true 832) 1 []))] [0] [(1, [.h x.1.1, .h x.1.2.1, .i x.1.2.2, .h x.2])] [] (p0) ?_
 refine Qc ?_
 refine sn Qa [1, 2, 3, 16, 17, 18] [1] (pl 3 x.1.1 p0) ?_
 refine mz [(16, .h x.1.1), (17, .i (x.1.1.length : Int)), (18, .i 0)] [] [] [] ?_
 refine wT 16 0 .sh x.1.1 (fun hw2 hl3 => ?_)
 refine DI Wm Wn x.1.1 [] (fun k0 s0 => [(3, .o 147202 s0), (18, .i ((k0 : Nat) : Int))]) [3, 18] (fun y0 => [(3, .o 147352 y0)]) [3, 16, 17, 18] (fun k0 s0 => List.length s0 ≤ k0 ∧ List.length s0 ≤ k0) (fun y0 => List.length y0 ≤ 5) (Zg [(832, 147202)] (by kernel_rfl)) ⟨(by simp), (by simp)⟩ (fun k0 s0 hk0 hI0 => ?_) (fun k0 s0 hk0 hI0 => ?_) (fun y0 hD0 => ?_)
 ·
  have hA0_0 := hI0.2.1
  have hA0_1 := hI0.2.2
  obtain ⟨a0, hx0⟩ := Yp (l := x.1.1) (i := k0) hk0
  refine su Qa [(19, .b true)] [] [] [] (pe 0 (Q1 (decide_eq_true (p := ((k0 : Nat) : Int) < (x.1.1.length : Int)) (by omega))) p0) ?_
  refine Qc ?_
  refine ckT ?_
  refine Qf ?_
  refine Qc ?_
  refine Qz ?_
  refine sn Qa [1, 2, 3, 5, 16, 17, 18] [1, 5] (pn 0 hx0 p0) ?_
  refine wT 3 0 (.own true 147202) s0 (fun hw4 hl5 => ?_)
  refine qu Qa [(3, .one (.slc (.own true 1664) 1 ((eL s0) ++ [[.s (X1 a0)]])))] [3, 19] [] [] (pc 2 (Ll a0) (pa s0 [(X1 a0)] p0)) ?_
  refine eqn [(3, .o 1664 (s0 ++ [(X1 a0)]))] [3] [] [] (by rw [show ((eL s0) ++ [[.s (X1 a0)]]) = (eL (s0 ++ [(X1 a0)])) from Jo (rfl) (rfl)]; first | done | kernel_rfl) ?_
  refine rn Qa [1, 2, 3, 16, 17, 18] [1] (pe 0 (Jq (Q4 k0 (by omega))) p0) ?_
  exact Exists.intro (s0 ++ [(X1 a0)]) (And.intro (Zg [(1664, 147202)] (by kernel_rfl)) ⟨Xp hx0 (rfl) hI0.1, by first | omega | (simp; omega) | simp, (by (simp; omega))⟩)
 ·
  have hA0_0 := hI0.2.1
  have hA0_1 := hI0.2.2
  refine su Qa [(19, .b false)] [] [] [] (pe 0 (Q1 (decide_eq_false (p := ((k0 : Nat) : Int) < (x.1.1.length : Int)) (by omega))) p0) ?_
  refine Qc ?_
  refine ckF ?_
  refine Xu ?_
  exact Exists.intro s0 (And.intro (Zg [(147202, 147352)] (by kernel_rfl)) ⟨Yq hk0 (rfl) hI0.1, by first | omega | (simp only [List.length_set]; omega)⟩)
 have hD0_0 := hD0.2
 have hk6 := Zf (n := x.1.2.2) (by omega)
 refine wT 3 0 (.own true 147352) y0 (fun hw7 hl8 => ?_)
 refine su Qa [(3, .one (.slc (.own true 2240) 1 ((eL y0) ++ [[.s ((⟨#[110, 101, 120, 116, 32]⟩ : ByteArray) ++ (Qq x.1.2.2))]])))] [3] [] [] (pc 4 (Ko x.1.2.2 (by omega)) (px (Yi (n := (ByteArray.size (⟨#[110, 101, 120, 116, 32]⟩ : ByteArray) + ByteArray.size (Qq x.1.2.2))) (by have hq0 : ByteArray.size (⟨#[110, 101, 120, 116, 32]⟩ : ByteArray) = 5 := rfl; unfold maxLen; first | omega | (simp only [ByteArray.size_append]; omega))) (pa y0 [((⟨#[110, 101, 120, 116, 32]⟩ : ByteArray) ++ (Qq x.1.2.2))] p0))) ?_
 refine eqn [(3, .o 2240 (y0 ++ [((⟨#[110, 101, 120, 116, 32]⟩ : ByteArray) ++ (Qq x.1.2.2))]))] [3] [] [] (by rw [show ((eL y0) ++ [[.s ((⟨#[110, 101, 120, 116, 32]⟩ : ByteArray) ++ (Qq x.1.2.2))]]) = (eL (y0 ++ [((⟨#[110, 101, 120, 116, 32]⟩ : ByteArray) ++ (Qq x.1.2.2))])) from Jo (rfl) (rfl)]; first | done | kernel_rfl) ?_
 refine Qc ?_
 refine sn Qa [1, 2, 3, 38, 39, 40] [1] (pl 3 x.1.2.1 p0) ?_
 refine mz [(38, .h x.1.2.1), (39, .i (x.1.2.1.length : Int)), (40, .i 0)] [] [] [] ?_
 refine wT 38 0 .sh x.1.2.1 (fun hw9 hl10 => ?_)
 refine DI Wo Wp x.1.2.1 (y0 ++ [((⟨#[110, 101, 120, 116, 32]⟩ : ByteArray) ++ (Qq x.1.2.2))]) (fun k1 s1 => [(3, .o 147202 s1), (40, .i ((k1 : Nat) : Int))]) [3, 40] (fun y1 => [(3, .o 147352 y1)]) [3, 38, 39, 40] (fun k1 s1 => List.length s1 ≤ (y0 ++ [((⟨#[110, 101, 120, 116, 32]⟩ : ByteArray) ++ (Qq x.1.2.2))]).length + k1 ∧ List.length s1 ≤ 6 + k1) (fun y1 => List.length y1 ≤ 18) (Zg [(2240, 147202)] (by kernel_rfl)) ⟨(by simp), (by (simp; omega))⟩ (fun k1 s1 hk1 hI1 => ?_) (fun k1 s1 hk1 hI1 => ?_) (fun y1 hD1 => ?_)
 ·
  have hA1_0 := hI1.2.1
  have hA1_1 := hI1.2.2
  obtain ⟨a1, hx1⟩ := Yp (l := x.1.2.1) (i := k1) hk1
  have hfb := (B7 ‹Qi x = true›).2.2.2 _ (List.mem_of_getElem? hx1)
  have hA9 := hA1_0; simp only [List.length_append, List.length_cons, List.length_nil] at hA9
  refine su Qa [(41, .b true)] [] [] [] (pe 0 (Q1 (decide_eq_true (p := ((k1 : Nat) : Int) < (x.1.2.1.length : Int)) (by omega))) p0) ?_
  refine Qc ?_
  refine ckT ?_
  refine Qf ?_
  refine Qc ?_
  refine Qz ?_
  refine sn Qa [1, 2, 3, 7, 38, 39, 40] [1, 7] (pn 0 hx1 p0) ?_
  refine wT 3 0 (.own true 147202) s1 (fun hw11 hl12 => ?_)
  refine qu Qa [(3, .one (.slc (.own true 3072) 1 ((eL s1) ++ [[.s (Yk a1)]])))] [3, 41] [] [] (pc 2 (Mr a1 (by assumption)) (pa s1 [(Yk a1)] p0)) ?_
  refine eqn [(3, .o 3072 (s1 ++ [(Yk a1)]))] [3] [] [] (by rw [show ((eL s1) ++ [[.s (Yk a1)]]) = (eL (s1 ++ [(Yk a1)])) from Jo (rfl) (rfl)]; first | done | kernel_rfl) ?_
  refine rn Qa [1, 2, 3, 38, 39, 40] [1] (pe 0 (Jq (Q4 k1 (by omega))) p0) ?_
  exact Exists.intro (s1 ++ [(Yk a1)]) (And.intro (Zg [(3072, 147202)] (by kernel_rfl)) ⟨Xp hx1 (rfl) hI1.1, by first | omega | (simp; omega) | simp, (by (simp; omega))⟩)
 ·
  have hA1_0 := hI1.2.1
  have hA1_1 := hI1.2.2
  refine su Qa [(41, .b false)] [] [] [] (pe 0 (Q1 (decide_eq_false (p := ((k1 : Nat) : Int) < (x.1.2.1.length : Int)) (by omega))) p0) ?_
  refine Qc ?_
  refine ckF ?_
  refine Xu ?_
  exact Exists.intro s1 (And.intro (Zg [(147202, 147352)] (by kernel_rfl)) ⟨Yq hk1 (rfl) hI1.1, by first | omega | (simp only [List.length_set]; omega)⟩)
 have hD1_0 := hD1.2
 refine Qc ?_
 refine sn Qa [2, 3, 51, 52, 53] [] (pl 2 x.2 p0) ?_
 refine mz [(51, .h x.2), (52, .i (x.2.length : Int)), (53, .i 0)] [1] [] [1] ?_
 refine wT 51 0 .sh x.2 (fun hw13 hl14 => ?_)
 refine Qa7 Wq Wr x.2 y1 (fun k2 s2 => [(3, .o 147201 s2), (53, .i ((k2 : Nat) : Int))]) [3, 53] (fun y2 => [(3, .o 147351 y2)]) [3, 51, 52, 53] (fun k2 s2 => List.length s2 ≤ y1.length + k2 ∧ List.length s2 ≤ 18 + k2) (Zg [(147352, 147201)] (by kernel_rfl)) ⟨(by simp), (by (simp; omega))⟩ (fun k2 s2 hk2 hI2 => ?_) (fun k2 s2 hk2 hI2 => ?_) (fun y2 hD2 => ?_)
 ·
  have hA2_0 := hI2.2.1
  have hA2_1 := hI2.2.2
  obtain ⟨a2, hx2⟩ := Yp (l := x.2) (i := k2) hk2
  have hdn := (Nk ‹Qi x = true› (List.mem_of_getElem? hx2)).1
  refine su Qa [(54, .b true)] [] [] [] (pe 0 (Q1 (decide_eq_true (p := ((k2 : Nat) : Int) < (x.2.length : Int)) (by omega))) p0) ?_
  refine Qc ?_
  refine ckT ?_
  refine Qf ?_
  refine Qc ?_
  refine Qz ?_
  refine sn Qa [2, 3, 9, 51, 52, 53] [9] (pn 0 hx2 p0) ?_
  have hk15 := RV a2.2
  refine wT 3 0 (.own true 147201) s2 (fun hw16 hl17 => ?_)
  refine qU Qa Yz [(3, .one (.slc (.own true 4288) 1 ((eL s2) ++ [[.s ((((⟨#[100, 105, 114, 32]⟩ : ByteArray) ++ a2.1) ++ (⟨#[32]⟩ : ByteArray)) ++ (Qv a2.2))]])))] [3, 54] [] [] (px (Yi (n := (ByteArray.size (⟨#[100, 105, 114, 32]⟩ : ByteArray) + ByteArray.size a2.1)) (by have hq0 : ByteArray.size (⟨#[100, 105, 114, 32]⟩ : ByteArray) = 4 := rfl; unfold maxLen; first | omega | (simp only [ByteArray.size_append]; omega))) (px (Yi (n := (ByteArray.size ((⟨#[100, 105, 114, 32]⟩ : ByteArray) ++ a2.1) + ByteArray.size (⟨#[32]⟩ : ByteArray))) (by have hq0 : ByteArray.size (⟨#[100, 105, 114, 32]⟩ : ByteArray) = 4 := rfl; have hq1 : ByteArray.size (⟨#[32]⟩ : ByteArray) = 1 := rfl; unfold maxLen; first | omega | (simp only [ByteArray.size_append]; omega))) (pc 7 (Ly a2.2) (px (Yi (n := (ByteArray.size (((⟨#[100, 105, 114, 32]⟩ : ByteArray) ++ a2.1) ++ (⟨#[32]⟩ : ByteArray)) + ByteArray.size (Qv a2.2))) (by have hq0 : ByteArray.size (⟨#[100, 105, 114, 32]⟩ : ByteArray) = 4 := rfl; have hq1 : ByteArray.size (⟨#[32]⟩ : ByteArray) = 1 := rfl; unfold maxLen; first | omega | (simp only [ByteArray.size_append]; omega))) (pa s2 [((((⟨#[100, 105, 114, 32]⟩ : ByteArray) ++ a2.1) ++ (⟨#[32]⟩ : ByteArray)) ++ (Qv a2.2))] p0))))) ?_
  refine eqn [(3, .o 4288 (s2 ++ [((((⟨#[100, 105, 114, 32]⟩ : ByteArray) ++ a2.1) ++ (⟨#[32]⟩ : ByteArray)) ++ (Qv a2.2))]))] [3] [] [] (by rw [show ((eL s2) ++ [[.s ((((⟨#[100, 105, 114, 32]⟩ : ByteArray) ++ a2.1) ++ (⟨#[32]⟩ : ByteArray)) ++ (Qv a2.2))]]) = (eL (s2 ++ [((((⟨#[100, 105, 114, 32]⟩ : ByteArray) ++ a2.1) ++ (⟨#[32]⟩ : ByteArray)) ++ (Qv a2.2))])) from Jo (rfl) (rfl)]; first | done | kernel_rfl) ?_
  refine rn Qa [2, 3, 51, 52, 53] [] (pe 0 (Jq (Q4 k2 (by omega))) p0) ?_
  exact Exists.intro (s2 ++ [((((⟨#[100, 105, 114, 32]⟩ : ByteArray) ++ a2.1) ++ (⟨#[32]⟩ : ByteArray)) ++ (Qv a2.2))]) (And.intro (Zg [(4288, 147201)] (by kernel_rfl)) ⟨Xp hx2 (rfl) hI2.1, by first | omega | (simp; omega) | simp, (by (simp; omega))⟩)
 ·
  have hA2_0 := hI2.2.1
  have hA2_1 := hI2.2.2
  refine su Qa [(54, .b false)] [] [] [] (pe 0 (Q1 (decide_eq_false (p := ((k2 : Nat) : Int) < (x.2.length : Int)) (by omega))) p0) ?_
  refine Qc ?_
  refine ckF ?_
  refine Xu ?_
  exact Exists.intro _ (And.intro (Zg [(147201, 147351)] (by kernel_rfl)) (Yq hk2 (rfl) hI2.1))
 refine sn Qa [2] [] (p0) ?_
 refine Qe ?_
 exact po0 [] (Qj h1 (V4 hD0.1 (V4 hD1.1 (V4 hD2 (rfl)))))
def Ws (_ : Nat) (a0 : X9) (s0 : (List ByteArray)) : Rd ((List ByteArray)) ((List ByteArray)) ((List ByteArray)) := (.next (s0 ++ [(Zj a0)]))
def Wt (_ : Nat) (s0 : (List ByteArray)) : (List ByteArray) := s0
def Wu (_ : Nat) (a1 : Jk) (s1 : (List ByteArray)) : Rd ((List ByteArray)) ((List ByteArray)) ((List ByteArray)) := (.next (s1 ++ [(Zm a1)]))
def Wv (_ : Nat) (s1 : (List ByteArray)) : (List ByteArray) := s1
def Ww (_ : Nat) (a2 : Z9) (s2 : (List ByteArray)) : Rd ((List ByteArray)) ((List ByteArray)) ((List ByteArray)) := (.next (s2 ++ [((((⟨#[100, 105, 114, 32]⟩ : ByteArray) ++ a2.1) ++ (⟨#[32]⟩ : ByteArray)) ++ (Xv a2.2))]))
def Wx (_ : Nat) (s2 : (List ByteArray)) : (List ByteArray) := s2
def Xz (x : Qp) : (List ByteArray) := (bif (!(Q3 x)) then [] else (Out.on (Yr Ws Wt x.1.1 0 []) (fun y0 => (Out.on (Yr Wu Wv x.1.2.1 0 (y0 ++ [((⟨#[110, 101, 120, 116, 32]⟩ : ByteArray) ++ (Qq x.1.2.2))])) (fun y1 => (Out.on (Yr Ww Wx x.2 0 y1) (fun y2 => y2)))))))
theorem Ar (x : Qp) : ACalls Tryz.prog 30 [.a [.h x.1.1, .h x.1.2.1, .i x.1.2.2, .h x.2]] (.o 0 (Xz x)) := by
 refine en Qa Tryz.func30 fun w0 F0 hG => ?_
 refine sn Qa [1, 2] [1] (p0) ?_
 refine tn Qa [1, 2, 3] [1] (p0) ?_
 refine Qc ?_
 refine tu Qa [(1, .p 1 0), (2, .e 0), (3, .one (.slc (.own true 448) 1 [])), (10, .b (!(Q3 x)))] [0] [(1, [.h x.1.1, .h x.1.2.1, .i x.1.2.2, .h x.2])] [] (pc 1 (Jv x) p0) ?_
 refine ck (!(Q3 x)) (fun h1 => ?_) (fun h1 => ?_)
 ·
  have h1n : (Q3 x) = false := Vp h1
  refine sn Qa [1, 2, 3] [1] (p0) ?_
  refine Qe ?_
  exact po0 [] (Xh h1 (rfl))
 have h1n : (Q3 x) = true := Z4 h1
 have h1nn := (QA h1n).2.2.1; have h1nl := Bq ((A4 x).symm.trans h1n)
 refine Qf ?_
 refine Qc ?_
 refine sn Qa [1, 2, 3, 4] [1] (p0) ?_
 refine mz [(4, .i 0)] [10] [] [] ?_
 refine wB 1 0 .sh x.1.1 (fun hw2 hl3 => ?_)
 refine DI Ws Wt x.1.1 [] (fun k0 s0 => [(3, .o 147202 s0), (4, .i ((k0 : Nat) : Int))]) [3, 4] (fun y0 => [(3, .o 147352 y0)]) [3, 4] (fun k0 s0 => List.length s0 ≤ k0 ∧ List.length s0 ≤ k0) (fun y0 => List.length y0 ≤ 5) (Zg [(448, 147202)] (by kernel_rfl)) ⟨(by simp), (by simp)⟩ (fun k0 s0 hk0 hI0 => ?_) (fun k0 s0 hk0 hI0 => ?_) (fun y0 hD0 => ?_)
 ·
  have hA0_0 := hI0.2.1
  have hA0_1 := hI0.2.2
  obtain ⟨a0, hx0⟩ := Yp (l := x.1.1) (i := k0) hk0
  refine Qc ?_
  refine sn Qa [1, 2, 3, 4, 17] [1] (pl 4 x.1.1 (pe 5 (Q1 (decide_eq_true (p := ((k0 : Nat) : Int) < (x.1.1.length : Int)) (by omega))) p0)) ?_
  refine ckT ?_
  refine Qf ?_
  refine Qc ?_
  refine Qz ?_
  refine wT 3 0 (.own true 147202) s0 (fun hw4 hl5 => ?_)
  refine qu Qa [(3, .one (.slc (.own true 1856) 1 ((eL s0) ++ [[.s (Zj a0)]])))] [3] [] [] (pn 5 hx0 (pc 7 (Lm a0) (pa s0 [(Zj a0)] p0))) ?_
  refine eqn [(3, .o 1856 (s0 ++ [(Zj a0)]))] [3] [] [] (by rw [show ((eL s0) ++ [[.s (Zj a0)]]) = (eL (s0 ++ [(Zj a0)])) from Jo (rfl) (rfl)]; first | done | kernel_rfl) ?_
  refine rn Qa [1, 2, 3, 4] [1] (pe 1 (Jq (Q4 k0 (by omega))) p0) ?_
  exact Exists.intro (s0 ++ [(Zj a0)]) (And.intro (Zg [(1856, 147202)] (by kernel_rfl)) ⟨Xp hx0 (rfl) hI0.1, by first | omega | (simp; omega) | simp, (by (simp; omega))⟩)
 ·
  have hA0_0 := hI0.2.1
  have hA0_1 := hI0.2.2
  refine Qc ?_
  refine sn Qa [1, 2, 3, 4, 17] [1] (pl 4 x.1.1 (pe 5 (Q1 (decide_eq_false (p := ((k0 : Nat) : Int) < (x.1.1.length : Int)) (by omega))) p0)) ?_
  refine ckF ?_
  refine Xu ?_
  exact Exists.intro s0 (And.intro (Zg [(147202, 147352)] (by kernel_rfl)) ⟨Yq hk0 (rfl) hI0.1, by first | omega | (simp only [List.length_set]; omega)⟩)
 have hD0_0 := hD0.2
 have hk6 := Zf (n := x.1.2.2) (by omega)
 refine wT 3 0 (.own true 147352) y0 (fun hw7 hl8 => ?_)
 refine su Qa [(3, .one (.slc (.own true 2368) 1 ((eL y0) ++ [[.s ((⟨#[110, 101, 120, 116, 32]⟩ : ByteArray) ++ (Qq x.1.2.2))]])))] [3] [] [] (pc 4 (Jt x.1.2.2 (by omega)) (px (Yi (n := (ByteArray.size (⟨#[110, 101, 120, 116, 32]⟩ : ByteArray) + ByteArray.size (Qq x.1.2.2))) (by have hq0 : ByteArray.size (⟨#[110, 101, 120, 116, 32]⟩ : ByteArray) = 5 := rfl; unfold maxLen; first | omega | (simp only [ByteArray.size_append]; omega))) (pa y0 [((⟨#[110, 101, 120, 116, 32]⟩ : ByteArray) ++ (Qq x.1.2.2))] p0))) ?_
 refine eqn [(3, .o 2368 (y0 ++ [((⟨#[110, 101, 120, 116, 32]⟩ : ByteArray) ++ (Qq x.1.2.2))]))] [3] [] [] (by rw [show ((eL y0) ++ [[.s ((⟨#[110, 101, 120, 116, 32]⟩ : ByteArray) ++ (Qq x.1.2.2))]]) = (eL (y0 ++ [((⟨#[110, 101, 120, 116, 32]⟩ : ByteArray) ++ (Qq x.1.2.2))])) from Jo (rfl) (rfl)]; first | done | kernel_rfl) ?_
 refine Qc ?_
 refine sn Qa [1, 2, 3, 5] [1] (p0) ?_
 refine mz [(5, .i 0)] [] [] [] ?_
 refine wB 1 1 .sh x.1.2.1 (fun hw9 hl10 => ?_)
 refine DI Wu Wv x.1.2.1 (y0 ++ [((⟨#[110, 101, 120, 116, 32]⟩ : ByteArray) ++ (Qq x.1.2.2))]) (fun k1 s1 => [(3, .o 147202 s1), (5, .i ((k1 : Nat) : Int))]) [3, 5] (fun y1 => [(3, .o 147352 y1)]) [3, 5] (fun k1 s1 => List.length s1 ≤ (y0 ++ [((⟨#[110, 101, 120, 116, 32]⟩ : ByteArray) ++ (Qq x.1.2.2))]).length + k1 ∧ List.length s1 ≤ 6 + k1) (fun y1 => List.length y1 ≤ 18) (Zg [(2368, 147202)] (by kernel_rfl)) ⟨(by simp), (by (simp; omega))⟩ (fun k1 s1 hk1 hI1 => ?_) (fun k1 s1 hk1 hI1 => ?_) (fun y1 hD1 => ?_)
 ·
  have hA1_0 := hI1.2.1
  have hA1_1 := hI1.2.2
  obtain ⟨a1, hx1⟩ := Yp (l := x.1.2.1) (i := k1) hk1
  have hfb := (B7 ((A4 x).symm.trans ‹Q3 x = true›)).2.2.2 _ (List.mem_of_getElem? hx1)
  have hA9 := hA1_0; simp only [List.length_append, List.length_cons, List.length_nil] at hA9
  refine Qc ?_
  refine sn Qa [1, 2, 3, 5, 43] [1] (pl 4 x.1.2.1 (pe 5 (Q1 (decide_eq_true (p := ((k1 : Nat) : Int) < (x.1.2.1.length : Int)) (by omega))) p0)) ?_
  refine ckT ?_
  refine Qf ?_
  refine Qc ?_
  refine Qz ?_
  refine wT 3 0 (.own true 147202) s1 (fun hw11 hl12 => ?_)
  refine qu Qa [(3, .one (.slc (.own true 3520) 1 ((eL s1) ++ [[.s (Zm a1)]])))] [3] [] [] (pn 5 hx1 (pc 7 (Ms a1 (by assumption)) (pa s1 [(Zm a1)] p0))) ?_
  refine eqn [(3, .o 3520 (s1 ++ [(Zm a1)]))] [3] [] [] (by rw [show ((eL s1) ++ [[.s (Zm a1)]]) = (eL (s1 ++ [(Zm a1)])) from Jo (rfl) (rfl)]; first | done | kernel_rfl) ?_
  refine rn Qa [1, 2, 3, 5] [1] (pe 1 (Jq (Q4 k1 (by omega))) p0) ?_
  exact Exists.intro (s1 ++ [(Zm a1)]) (And.intro (Zg [(3520, 147202)] (by kernel_rfl)) ⟨Xp hx1 (rfl) hI1.1, by first | omega | (simp; omega) | simp, (by (simp; omega))⟩)
 ·
  have hA1_0 := hI1.2.1
  have hA1_1 := hI1.2.2
  refine Qc ?_
  refine sn Qa [1, 2, 3, 5, 43] [1] (pl 4 x.1.2.1 (pe 5 (Q1 (decide_eq_false (p := ((k1 : Nat) : Int) < (x.1.2.1.length : Int)) (by omega))) p0)) ?_
  refine ckF ?_
  refine Xu ?_
  exact Exists.intro s1 (And.intro (Zg [(147202, 147352)] (by kernel_rfl)) ⟨Yq hk1 (rfl) hI1.1, by first | omega | (simp only [List.length_set]; omega)⟩)
 have hD1_0 := hD1.2
 refine Qc ?_
 refine sn Qa [1, 2, 3, 6] [1] (p0) ?_
 refine mz [(6, .i 0)] [] [] [] ?_
 refine wB 1 3 .sh x.2 (fun hw13 hl14 => ?_)
 refine LB Ww Wx x.2 y1 (fun k2 s2 => [(3, .o 147202 s2), (6, .i ((k2 : Nat) : Int))]) [3, 6] (fun _ _ => []) [] (fun y2 => [(3, .o 147352 y2)]) [1, 3, 6] (fun _ => []) [1] (fun k2 s2 => List.length s2 ≤ y1.length + k2 ∧ List.length s2 ≤ 18 + k2) (Zg [(147352, 147202)] (by kernel_rfl)) ⟨(by simp), (by (simp; omega))⟩ (fun k2 s2 hk2 hI2 => ?_) (fun k2 s2 hk2 hI2 => ?_) (fun y2 hD2 => ?_)
 ·
  have hA2_0 := hI2.2.1
  have hA2_1 := hI2.2.2
  obtain ⟨a2, hx2⟩ := Yp (l := x.2) (i := k2) hk2
  have hdn := (Nk ((A4 x).symm.trans ‹Q3 x = true›) (List.mem_of_getElem? hx2)).1
  refine Qc ?_
  refine sn Qa [1, 2, 3, 6, 60] [1] (pl 3 x.2 (pe 4 (Q1 (decide_eq_true (p := ((k2 : Nat) : Int) < (x.2.length : Int)) (by omega))) p0)) ?_
  refine ckT ?_
  refine Qf ?_
  refine Qc ?_
  refine Qz ?_
  have hk15 := NY a2.2
  refine wT 3 0 (.own true 147202) s2 (fun hw16 hl17 => ?_)
  refine qU Qa Yz [(3, .one (.slc (.own true 5184) 1 ((eL s2) ++ [[.s ((((⟨#[100, 105, 114, 32]⟩ : ByteArray) ++ a2.1) ++ (⟨#[32]⟩ : ByteArray)) ++ (Xv a2.2))]])))] [3] [] [] (pn 4 hx2 (px (Yi (n := (ByteArray.size (⟨#[100, 105, 114, 32]⟩ : ByteArray) + ByteArray.size a2.1)) (by have hq0 : ByteArray.size (⟨#[100, 105, 114, 32]⟩ : ByteArray) = 4 := rfl; unfold maxLen; first | omega | (simp only [ByteArray.size_append]; omega))) (px (Yi (n := (ByteArray.size ((⟨#[100, 105, 114, 32]⟩ : ByteArray) ++ a2.1) + ByteArray.size (⟨#[32]⟩ : ByteArray))) (by have hq0 : ByteArray.size (⟨#[100, 105, 114, 32]⟩ : ByteArray) = 4 := rfl; have hq1 : ByteArray.size (⟨#[32]⟩ : ByteArray) = 1 := rfl; unfold maxLen; first | omega | (simp only [ByteArray.size_append]; omega))) (pn 12 hx2 (pc 15 (Cn a2.2) (px (Yi (n := (ByteArray.size (((⟨#[100, 105, 114, 32]⟩ : ByteArray) ++ a2.1) ++ (⟨#[32]⟩ : ByteArray)) + ByteArray.size (Xv a2.2))) (by have hq0 : ByteArray.size (⟨#[100, 105, 114, 32]⟩ : ByteArray) = 4 := rfl; have hq1 : ByteArray.size (⟨#[32]⟩ : ByteArray) = 1 := rfl; unfold maxLen; first | omega | (simp only [ByteArray.size_append]; omega))) (pa s2 [((((⟨#[100, 105, 114, 32]⟩ : ByteArray) ++ a2.1) ++ (⟨#[32]⟩ : ByteArray)) ++ (Xv a2.2))] p0))))))) ?_
  refine eqn [(3, .o 5184 (s2 ++ [((((⟨#[100, 105, 114, 32]⟩ : ByteArray) ++ a2.1) ++ (⟨#[32]⟩ : ByteArray)) ++ (Xv a2.2))]))] [3] [] [] (by rw [show ((eL s2) ++ [[.s ((((⟨#[100, 105, 114, 32]⟩ : ByteArray) ++ a2.1) ++ (⟨#[32]⟩ : ByteArray)) ++ (Xv a2.2))]]) = (eL (s2 ++ [((((⟨#[100, 105, 114, 32]⟩ : ByteArray) ++ a2.1) ++ (⟨#[32]⟩ : ByteArray)) ++ (Xv a2.2))])) from Jo (rfl) (rfl)]; first | done | kernel_rfl) ?_
  refine rn Qa [1, 2, 3, 6] [1] (pe 1 (Jq (Q4 k2 (by omega))) p0) ?_
  exact Exists.intro (s2 ++ [((((⟨#[100, 105, 114, 32]⟩ : ByteArray) ++ a2.1) ++ (⟨#[32]⟩ : ByteArray)) ++ (Xv a2.2))]) (And.intro (Zg [(5184, 147202)] (by kernel_rfl)) ⟨Xp hx2 (rfl) hI2.1, by first | omega | (simp; omega) | simp, (by (simp; omega))⟩)
 ·
  have hA2_0 := hI2.2.1
  have hA2_1 := hI2.2.2
  refine Qc ?_
  refine sn Qa [1, 2, 3, 6, 60] [1] (pl 3 x.2 (pe 4 (Q1 (decide_eq_false (p := ((k2 : Nat) : Int) < (x.2.length : Int)) (by omega))) p0)) ?_
  refine ckF ?_
  refine Xu ?_
  exact Exists.intro _ (And.intro (Zg [(147202, 147352)] (by kernel_rfl)) (Yq hk2 (rfl) hI2.1))
 refine sn Qa [2] [] (p0) ?_
 refine Qe ?_
 exact po0 [] (Qj h1 (V4 hD0.1 (V4 hD1.1 (V4 hD2 (rfl)))))
def Kp (d : Z9) : ByteArray := (((⟨#[100, 105, 114, 32]⟩ : ByteArray) ++ d.1) ++ (⟨#[32]⟩ : ByteArray)) ++ (Qv d.2)
theorem Px (x : Qp) : Qx x = bif !(Qi x) then [] else ((x.1.1.map X1 ++ [((⟨#[110, 101, 120, 116, 32]⟩ : ByteArray) ++ (Qq x.1.2.2))]) ++ x.1.2.1.map Yk) ++ x.2.map Kp := by
  unfold Qx
  cases Qi x with
  | false => rfl
  | true =>
    simp only [Bool.not_true, cond_false]
    rw [C1 (f := Wm) (e := Wn) (g := X1) (fun _ _ _ => rfl)]
    simp only [Out.on]
    rw [C1 (f := Wo) (e := Wp) (g := Yk) (fun _ _ _ => rfl)]
    simp only [Out.on]
    rw [C1 (f := Wq) (e := Wr) (g := Kp) (fun _ _ _ => rfl)]
    rfl
theorem enc_eq (x : Qp) : Xz x = Qx x := by
  rw [Px]
  unfold Xz
  rw [A4]
  cases Qi x with
  | false => rfl
  | true =>
    simp only [Bool.not_true, cond_false]
    rw [C1 (f := Ws) (e := Wt) (g := Zj) (fun _ _ _ => rfl)]
    simp only [Out.on]
    rw [C1 (f := Wu) (e := Wv) (g := Zm) (fun _ _ _ => rfl)]
    simp only [Out.on]
    rw [C1 (f := Ww) (e := Wx) (g := fun d => (((⟨#[100, 105, 114, 32]⟩ : ByteArray) ++ d.1) ++ (⟨#[32]⟩ : ByteArray)) ++ (Xv d.2)) (fun _ _ _ => rfl)]
    rw [show Zj = X1 from funext EN, show Zm = Yk from funext LY, show (fun d : Z9 => (((⟨#[100, 105, 114, 32]⟩ : ByteArray) ++ d.1) ++ (⟨#[32]⟩ : ByteArray)) ++ (Xv d.2)) = Kp from funext fun d => by rw [RW]; rfl]
    rfl
theorem FB (x : Qp) : (Qx x).length ≤ 23 ∧ ∀ y, y ∈ Qx x → y.size ≤ 10300 := by
  rw [Px]
  cases hv : Qi x with
  | false => exact ⟨Nat.zero_le _, fun y hy => by cases hy⟩
  | true =>
    have h1 := Bq hv
    have h2 := B7 hv
    simp only [Bool.not_true, cond_false]
    refine ⟨by simp only [List.length_append, List.length_map, List.length_cons, List.length_nil]; omega, fun y hy => ?_⟩
    rcases List.mem_append.1 hy with hy | hy
    · rcases List.mem_append.1 hy with hy | hy
      · rcases List.mem_append.1 hy with hy | hy
        · obtain ⟨f, _, rfl⟩ := List.mem_map.1 hy
          have := VH f; omega
        rw [List.mem_singleton.1 hy, ByteArray.size_append]
        have h3 := Zf (n := x.1.2.2) (by omega)
        have e1 : (⟨#[110, 101, 120, 116, 32]⟩ : ByteArray).size = 5 := rfl
        omega
      obtain ⟨f, hf, rfl⟩ := List.mem_map.1 hy
      have := RX (h2.2.2.2 f hf); omega
    obtain ⟨d, hd, rfl⟩ := List.mem_map.1 hy
    have h3 := (Nk hv hd).1
    have h4 := RV d.2
    have e1 : (⟨#[100, 105, 114, 32]⟩ : ByteArray).size = 4 := rfl
    have e2 : (⟨#[32]⟩ : ByteArray).size = 1 := rfl
    unfold Kp
    simp only [ByteArray.size_append]
    omega
theorem RY (x : Qp) : (Xz x).length ≤ 23 ∧ ∀ y, y ∈ Xz x → y.size ≤ 10300 := by rw [enc_eq]; exact FB x
theorem UU {R S T : Type} {f : S → Rd R S T} (hf : ∀ s r, f s ≠ .ret r) : ∀ (n : Nat) (s : S) (o : Out R T), whl f n s = some o → ∃ t, o = .brk t
  | 0, s, o, h => by cases h
  | n + 1, s, o, h => by
    simp only [whl] at h
    cases hs : f s with
    | next s' => rw [hs] at h; exact UU hf n s' o h
    | brk t => rw [hs] at h; exact ⟨t, (Option.some.inj h).symm⟩
    | ret r => exact absurd hs (hf s r)
/-! ### words for operations -/
theorem Qak (op : Int) : 1 ≤ (Qo op).size := by
  cases h : Q9 op 1 9 with
  | false => unfold Qo; rw [h]; exact Nat.le_refl 1
  | true => rcases Nj h with rfl | rfl | rfl | rfl | rfl | rfl | rfl | rfl | rfl <;> decide
def Eh (p : Nat → Bool) : Nat → Nat → Int → Int
  | 0, _, s => s
  | n + 1, k, s => Eh p n (k + 1) (bif p k then ((k + 1 : Nat) : Int) else s)
theorem Ei {R : Type} {f : Nat → Int → Rd R Int Int} {e : Nat → Int → Int} {p : Nat → Bool} (hf : ∀ k s, f k s = bif p k then .next ((k + 1 : Nat) : Int) else .next s) (he : ∀ k s, e k s = s) : ∀ (n k : Nat) (s : Int), Jg f e n k s = .brk (Eh p n k s)
  | 0, k, s => by simp only [Jg, he]; rfl
  | n + 1, k, s => by
    simp only [Jg, hf]
    cases hp : p k with
    | true => simp only [cond_true]; rw [Ei hf he n]; simp only [Eh, hp, cond_true]
    | false => simp only [cond_false]; rw [Ei hf he n]; simp only [Eh, hp, cond_false]
def Fj (w : ByteArray) : Int := Eh (fun k => (Qo ((k + 1 : Nat) : Int)).toList == w.toList) 9 0 0
theorem VM (p : Nat → Bool) : ∀ (n k : Nat) (s : Int), 0 ≤ s → s ≤ k → 0 ≤ Eh p n k s ∧ Eh p n k s ≤ k + n
  | 0, k, s, h0, h1 => ⟨h0, by unfold Eh; omega⟩
  | n + 1, k, s, h0, h1 => by
    unfold Eh
    cases hp : p k with
    | true => have := VM p n (k + 1) ((k + 1 : Nat) : Int) (by omega) (by omega); simp only [cond_true]; omega
    | false => have := VM p n (k + 1) s h0 (by omega); simp only [cond_false]; omega
theorem RZ (w : ByteArray) : 0 ≤ Fj w ∧ Fj w ≤ 9 := by
  have := VM (fun k => (Qo ((k + 1 : Nat) : Int)).toList == w.toList) 9 0 0 (by omega) (by omega)
  unfold Fj; omega
theorem QF : Fj ⟨#[]⟩ = 0 := by kernel_rfl
theorem Qbu {s : ByteArray} (h : s.size = 0) : s = ⟨#[]⟩ := by
  apply ByteArray.ext
  exact Array.eq_empty_of_size_eq_zero h
theorem FC {w : ByteArray} (h : Fj w ≠ 0) : 1 ≤ w.size := by
  refine Classical.byContradiction fun hn => h ?_
  rw [Qbu (s := w) (by omega)]
  exact QF
end
end Go.Proofs.YtbemokhfcmepjaaGreatDoor
