/- Texts of this proof, put together by a program: Isa, Isb, Ckc, Slb, Ev, Ex, Ey, Eva, Evb, Tw, Clr, Inr, Ins, Df, Eua, Eub, Gb, Cua, Cub. -/
import Derived.Test.YtcnkkobgogmakaaGreatP4
import Derived.KernelRfl
import Derived.Laws.Externs
import Derived.Lib.AppendZerosOnto
import Derived.Deep.RegionLaw
set_option linter.unusedVariables false
set_option linter.unusedSimpArgs false
namespace Go.Proofs.YtcnkkobgogmakaaGreat
open Go.RowKit
open GoE (enc wide)
def implFieldKind_f0 (name : ByteArray) (_ : Nat) (a0 : Y5) (_ : Unit) : Rd (Int) (Unit) (Unit) := (bif (a0.1.toList == name.toList) then (.ret a0.2) else (.next ()))
def implFieldKind_e0 (_ : Nat) (_ : Unit) : Unit := ()
def implFieldKind (s_ : (List Y5)) (name : ByteArray) : Int := (Out.on (Xp (implFieldKind_f0 name) implFieldKind_e0 s_ 0 ()) (fun _ => 0))
theorem implFieldKind_a (s_ : (List Y5)) (name : ByteArray) : ACalls Tryz.prog 268 [.h s_, .s name] (.i (implFieldKind s_ name)) := by
 refine en Qa Tryz.func268 fun w0 F0 hG => ?_
 refine sn Qa [0, 1, 4] [] (p0) ?_
 refine Qd ?_
 refine tn Qa [1, 4, 7, 8, 9] [] (pl 1 s_ p0) ?_
 refine mz [(4, .i 0), (7, .h s_), (8, .i (s_.length : Int)), (9, .i 0)] [0] [] [] ?_
 refine wT 7 0 .sh s_ (fun hw1 hl2 => ?_)
 refine blL0 (implFieldKind_f0 name) implFieldKind_e0 s_ () (fun k0 _ => [(9, .i ((k0 : Nat) : Int))]) [9] (fun _ => []) [1, 7, 8, 9] (Qc (by kernel_rfl)) (fun k0 s0 hk0 hI0 => ?_) (fun k0 s0 hk0 hI0 => ?_) (fun y0 hD0 => ?_)
 ·
  obtain ⟨a0, hx0⟩ := Xl (l := s_) (i := k0) hk0
  refine sn Qa [1, 4, 7, 8, 9, 10] [] (pe 0 (Qs (decide_eq_true (p := ((k0 : Nat) : Int) < (s_.length : Int)) (by omega))) p0) ?_
  refine Qd ?_
  refine ckT ?_
  refine Qf ?_
  refine Qd ?_
  refine Qr ?_
  refine tn Qa [1, 4, 6, 7, 8, 9] [6] (pn 0 hx0 p0) ?_
  refine tu Qa [(6, .p 6 0), (16, .b (a0.1.toList == name.toList))] [] [(6, [.s a0.1, .i a0.2])] [] (p0) ?_
  refine ck (a0.1.toList == name.toList) (fun h3 => ?_) (fun h3 => ?_)
  ·
   refine sn Qa [1, 4, 7, 8, 9] [] (p0) ?_
   refine Qe ?_
   have hr4 : (Xp (implFieldKind_f0 name) implFieldKind_e0 s_ 0 ()) = .ret a0.2 := Zj hx0 (Q4 h3 (rfl)) hI0
   exact pi [] (on_r hr4)
  ·
   refine Qf ?_
   refine rn Qa [1, 4, 7, 8, 9] [] (pe 0 (Zq (Qu k0 (by omega))) p0) ?_
   exact Exists.intro _ (And.intro (Qc (by kernel_rfl)) (Qv hx0 (Qk h3 (rfl)) hI0))
 ·
  refine sn Qa [1, 4, 7, 8, 9, 10] [] (pe 0 (Qs (decide_eq_false (p := ((k0 : Nat) : Int) < (s_.length : Int)) (by omega))) p0) ?_
  refine Qd ?_
  refine ckF ?_
  refine Qz ?_
  exact Exists.intro _ (And.intro (Qc (by kernel_rfl)) (Xm hk0 (rfl) hI0))
 ·
  refine sn Qa [4] [] (p0) ?_
  refine Qe ?_
  exact pi [] (V2 hD0 (rfl))
def Zm (s_ : (List Y5)) (name : ByteArray) (v : Vp) : Bool := ((Jy v) && ((v.1 != (0 : Int)) && (v.1 == (implFieldKind s_ name))))
theorem implMatchesSchema_a (s_ : (List Y5)) (name : ByteArray) (v : Vp) : ACalls Tryz.prog 239 [.h s_, .s name, .a [.i v.1, .i v.2.1, .s v.2.2]] (.b (Zm s_ name v)) := by
 refine en Qa Tryz.func239 fun w0 F0 hG => ?_
 refine sn Qa [0, 1, 5, 6] [5] (p0) ?_
 refine Qd ?_
 refine mz [(5, .p 5 0), (6, .b false)] [2] [(5, [.i v.1, .i v.2.1, .s v.2.2])] [] ?_
 refine jn [(6, .b ((Jy v) && ((v.1 != (0 : Int)) && (v.1 == (implFieldKind s_ name)))))] [0, 1, 5, 6] [] [5] (Jy v) (fun h1 => ?_) (fun h1 => ?_) ?_
 ·
  refine Xd (v.1 != (0 : Int)) (fun h2 => ?_) (fun h2 => ?_)
  ·
   refine rN Qa Yr [6] [] (pc 1 (cb h1 (Kh v)) (pt 5 h2 (pc 12 (implFieldKind_a s_ name) p0))) ?_
   exact ⟨rfl, Qc (by rw [h1, h2]; first | done | kernel_rfl)⟩
  ·
   refine rN Qa Yr [6] [] (pc 1 (cb h1 (Kh v)) (pf 5 h2 p0)) ?_
   exact ⟨rfl, Qc (by rw [h1, h2]; first | done | kernel_rfl)⟩
 ·
  refine rN Qa Yr [6] [] (pc 1 (cb h1 (Kh v)) p0) ?_
  exact ⟨rfl, Qc (by rw [h1]; first | done | kernel_rfl)⟩
 refine Qe ?_
 exact pb [] (show Zm s_ name v = ((Jy v) && ((v.1 != (0 : Int)) && (v.1 == (implFieldKind s_ name)))) from rfl)
def Kv (n : Int) : Bool := (Yd n 0 2)
theorem implisUser_a (n : Int) : ACalls Tryz.prog 68 [.i n] (.b (Kv n)) := by
 refine en Qa Tryz.func68 fun w0 F0 hG => ?_
 refine sn Qa [0, 2] [] (p0) ?_
 refine tn Qa [2] [] (pc 1 (Z3 n 0 2) p0) ?_
 refine Qe ?_
 exact pb [] (show Kv n = (Yd n 0 2) from rfl)
def Vr (s_ : (List Y5)) (k0 : Nat) (a0 : Y5) (_ : Unit) : Rd (Bool) (Unit) (Unit) := (bif ((!(X9 a0.1)) || (bif (a0.2 != (1 : Int)) then ((a0.2 != (2 : Int)) || (decide (((k0 : Nat) : Int) > (0 : Int)) && (!(Op.bytesLess ((nth s_ (Int.toNat (((k0 : Nat) : Int) - 1))).1).toList a0.1.toList)))) else (decide (((k0 : Nat) : Int) > (0 : Int)) && (!(Op.bytesLess ((nth s_ (Int.toNat (((k0 : Nat) : Int) - 1))).1).toList a0.1.toList))))) then (.ret false) else (.next ()))
def W5 (_ : Nat) (_ : Unit) : Unit := ()
def Jl (s_ : (List Y5)) : Bool := (Out.on (Xp (Vr s_) W5 s_ 0 ()) (fun _ => decide ((s_.length : Int) ≤ (5 : Int))))
theorem Ug (s_ : (List Y5)) : ACalls Tryz.prog 191 [.h s_] (.b (Jl s_)) := by
 refine en Qa Tryz.func191 fun w0 F0 hG => ?_
 refine sn Qa [0, 2] [] (p0) ?_
 refine Qd ?_
 refine tn Qa [0, 2, 5, 6, 7] [] (pl 1 s_ p0) ?_
 refine mz [(2, .b false), (5, .h s_), (6, .i (s_.length : Int)), (7, .i 0)] [] [] [] ?_
 refine wT 0 0 .sh s_ (fun hw1 hl2 => ?_)
 refine blL0 (Vr s_) W5 s_ () (fun k0 _ => [(7, .i ((k0 : Nat) : Int))]) [7] (fun _ => []) [5, 6, 7] (Qc (by kernel_rfl)) (fun k0 s0 hk0 hI0 => ?_) (fun k0 s0 hk0 hI0 => ?_) (fun y0 hD0 => ?_)
 ·
  obtain ⟨a0, hx0⟩ := Xl (l := s_) (i := k0) hk0
  refine sn Qa [0, 2, 5, 6, 7, 8] [] (pe 0 (Qs (decide_eq_true (p := ((k0 : Nat) : Int) < (s_.length : Int)) (by omega))) p0) ?_
  refine Qd ?_
  refine ckT ?_
  refine Qf ?_
  refine Qd ?_
  refine Qr ?_
  refine tn Qa [0, 2, 3, 4, 5, 6, 7] [4] (pn 1 hx0 p0) ?_
  refine Qd ?_
  refine mz [(3, .i ((k0 : Nat) : Int)), (4, .p 4 0)] [] [(4, [.s a0.1, .i a0.2])] [] ?_
  refine jn [(40, .b ((!(X9 a0.1)) || (bif (a0.2 != (1 : Int)) then ((a0.2 != (2 : Int)) || (decide (((k0 : Nat) : Int) > (0 : Int)) && (!(Op.bytesLess ((nth s_ (Int.toNat (((k0 : Nat) : Int) - 1))).1).toList a0.1.toList)))) else (decide (((k0 : Nat) : Int) > (0 : Int)) && (!(Op.bytesLess ((nth s_ (Int.toNat (((k0 : Nat) : Int) - 1))).1).toList a0.1.toList))))))] [3, 4] [] [4] (!(X9 a0.1)) (fun h3 => ?_) (fun h3 => ?_) ?_
  ·
   have h3n : (X9 a0.1) = false := bnot_t h3
   refine rN Qa Yr [0, 2, 5, 6, 7, 40] [] (pc 2 (cb h3n (Yi a0.1)) (pe 3 (show .b (!false) = .b true from rfl) p0)) ?_
   exact ⟨rfl, Qc (by rw [h3]; first | done | kernel_rfl)⟩
  ·
   have h3n : (X9 a0.1) = true := Kg h3
   refine Xd (a0.2 != (1 : Int)) (fun h4 => ?_) (fun h4 => ?_)
   ·
    have h4d := ne_of_bne h4
    refine Xd (a0.2 != (2 : Int)) (fun h5 => ?_) (fun h5 => ?_)
    ·
     refine rN Qa Yr [0, 2, 5, 6, 7, 40] [] (pc 2 (cb h3n (Yi a0.1)) (pe 3 (show .b (!true) = .b false from rfl) (pt 7 h4 (pt 11 h5 p0)))) ?_
     exact ⟨rfl, Qc (by rw [h3, h4, h5]; first | done | kernel_rfl)⟩
    ·
     have h5d := W7 h5
     refine Xd (decide (((k0 : Nat) : Int) > (0 : Int))) (fun h6 => ?_) (fun h6 => ?_)
     ·
      have h6d := of_decide_eq_true h6
      have hx7 := ng s_ (Int.toNat (((k0 : Nat) : Int) - 1))
      refine rN Qa Yr [0, 2, 5, 6, 7, 40] [] (pc 2 (cb h3n (Yi a0.1)) (pe 3 (show .b (!true) = .b false from rfl) (pt 7 h4 (pf 11 h5 (pt 16 h6 (pe 20 (Zq (IntWalk.i64_in (((k0 : Nat) : Int) - 1) (by omega))) (pg 21 (((k0 : Nat) : Int) - 1) hx7 p0))))))) ?_
      exact ⟨rfl, Qc (by rw [h3, h4, h5, h6]; first | done | kernel_rfl)⟩
     ·
      refine rN Qa Yr [0, 2, 5, 6, 7, 40] [] (pc 2 (cb h3n (Yi a0.1)) (pe 3 (show .b (!true) = .b false from rfl) (pt 7 h4 (pf 11 h5 (pf 16 h6 p0))))) ?_
      exact ⟨rfl, Qc (by rw [h3, h4, h5, h6]; first | done | kernel_rfl)⟩
   ·
    have h4d := W7 h4
    refine Xd (decide (((k0 : Nat) : Int) > (0 : Int))) (fun h8 => ?_) (fun h8 => ?_)
    ·
     have h8d := of_decide_eq_true h8
     have hx9 := ng s_ (Int.toNat (((k0 : Nat) : Int) - 1))
     refine rN Qa Yr [0, 2, 5, 6, 7, 40] [] (pc 2 (cb h3n (Yi a0.1)) (pe 3 (show .b (!true) = .b false from rfl) (pf 7 h4 (pt 16 h8 (pe 20 (Zq (IntWalk.i64_in (((k0 : Nat) : Int) - 1) (by omega))) (pg 21 (((k0 : Nat) : Int) - 1) hx9 p0)))))) ?_
     exact ⟨rfl, Qc (by rw [h3, h4, h8]; first | done | kernel_rfl)⟩
    ·
     refine rN Qa Yr [0, 2, 5, 6, 7, 40] [] (pc 2 (cb h3n (Yi a0.1)) (pe 3 (show .b (!true) = .b false from rfl) (pf 7 h4 (pf 16 h8 p0)))) ?_
     exact ⟨rfl, Qc (by rw [h3, h4, h8]; first | done | kernel_rfl)⟩
  refine ck ((!(X9 a0.1)) || (bif (a0.2 != (1 : Int)) then ((a0.2 != (2 : Int)) || (decide (((k0 : Nat) : Int) > (0 : Int)) && (!(Op.bytesLess ((nth s_ (Int.toNat (((k0 : Nat) : Int) - 1))).1).toList a0.1.toList)))) else (decide (((k0 : Nat) : Int) > (0 : Int)) && (!(Op.bytesLess ((nth s_ (Int.toNat (((k0 : Nat) : Int) - 1))).1).toList a0.1.toList))))) (fun h10 => ?_) (fun h10 => ?_)
  ·
   refine su Qa [] [40] [] [] (p0) ?_
   refine Qe ?_
   have hr11 : (Xp (Vr s_) W5 s_ 0 ()) = .ret false := Zj hx0 (Q4 h10 (rfl)) hI0
   exact pb [] (on_r hr11)
  ·
   refine Qf ?_
   refine rn Qa [0, 2, 5, 6, 7] [] (pe 0 (Zq (Qu k0 (by omega))) p0) ?_
   exact Exists.intro _ (And.intro (Qc (by kernel_rfl)) (Qv hx0 (Qk h10 (rfl)) hI0))
 ·
  refine sn Qa [0, 2, 5, 6, 7, 8] [] (pe 0 (Qs (decide_eq_false (p := ((k0 : Nat) : Int) < (s_.length : Int)) (by omega))) p0) ?_
  refine Qd ?_
  refine ckF ?_
  refine Qz ?_
  exact Exists.intro _ (And.intro (Qc (by kernel_rfl)) (Xm hk0 (rfl) hI0))
 ·
  refine sn Qa [2] [] (pl 1 s_ p0) ?_
  refine Qe ?_
  exact pb [] (V2 hD0 (rfl))
def Jo (s_ : (List Y5)) (f : Xy) (k0 : Nat) (a0 : AttrD) (_ : Unit) : Rd (Bool) (Unit) (Unit) := (bif (bif decide (((k0 : Nat) : Int) > (0 : Int)) then ((!(Op.bytesLess ((nth f.2.2.2.2 (Int.toNat (((k0 : Nat) : Int) - 1))).1).toList a0.1.toList)) || (!(Zm s_ a0.1 a0.2))) else (!(Zm s_ a0.1 a0.2))) then (.ret false) else (.next ()))
def Vc (_ : Nat) (_ : Unit) : Unit := ()
def Zy (s_ : (List Y5)) (f : Xy) : Bool := (Out.on (Xp (Jo s_ f) Vc f.2.2.2.2 0 ()) (fun _ => ((Yd f.1 1 60) && ((Kv f.2.1) && ((Yd f.2.2.2.1 0 60) && (Jl s_))))))
theorem implIsValidFile_a (s_ : (List Y5)) (f : Xy) : ACalls Tryz.prog 190 [.h s_, .a [.i f.1, .i f.2.1, .b f.2.2.1, .i f.2.2.2.1, .h f.2.2.2.2]] (.b (Zy s_ f)) := by
 refine en Qa Tryz.func190 fun w0 F0 hG => ?_
 refine sn Qa [0, 3, 4] [3] (p0) ?_
 refine Qd ?_
 refine tn Qa [0, 3, 4, 8, 9, 10] [3] (pl 2 f.2.2.2.2 p0) ?_
 refine mz [(3, .p 3 0), (4, .b false), (8, .h f.2.2.2.2), (9, .i (f.2.2.2.2.length : Int)), (10, .i 0)] [1] [(3, [.i f.1, .i f.2.1, .b f.2.2.1, .i f.2.2.2.1, .h f.2.2.2.2])] [] ?_
 refine wT 8 0 .sh f.2.2.2.2 (fun hw1 hl2 => ?_)
 refine blL0 (Jo s_ f) Vc f.2.2.2.2 () (fun k0 _ => [(10, .i ((k0 : Nat) : Int))]) [10] (fun _ => []) [8, 9, 10] (Qc (by kernel_rfl)) (fun k0 s0 hk0 hI0 => ?_) (fun k0 s0 hk0 hI0 => ?_) (fun y0 hD0 => ?_)
 ·
  obtain ⟨a0, hx0⟩ := Xl (l := f.2.2.2.2) (i := k0) hk0
  refine su Qa [(11, .b true)] [] [] [] (pe 0 (Qs (decide_eq_true (p := ((k0 : Nat) : Int) < (f.2.2.2.2.length : Int)) (by omega))) p0) ?_
  refine Qd ?_
  refine ckT ?_
  refine Qf ?_
  refine Qd ?_
  refine Qr ?_
  refine sn Qa [0, 3, 4, 5, 6, 8, 9, 10] [3, 6] (pn 1 hx0 p0) ?_
  refine Qd ?_
  refine mz [(5, .i ((k0 : Nat) : Int)), (6, .p 6 0)] [11] [(6, [.s a0.1, .i a0.2.1, .i a0.2.2.1, .s a0.2.2.2])] [] ?_
  refine jn [(37, .b (bif decide (((k0 : Nat) : Int) > (0 : Int)) then ((!(Op.bytesLess ((nth f.2.2.2.2 (Int.toNat (((k0 : Nat) : Int) - 1))).1).toList a0.1.toList)) || (!(Zm s_ a0.1 a0.2))) else (!(Zm s_ a0.1 a0.2))))] [5, 6] [] [6] (decide (((k0 : Nat) : Int) > (0 : Int))) (fun h3 => ?_) (fun h3 => ?_) ?_
  ·
   have h3d := of_decide_eq_true h3
   refine Xd (!(Op.bytesLess ((nth f.2.2.2.2 (Int.toNat (((k0 : Nat) : Int) - 1))).1).toList a0.1.toList)) (fun h4 => ?_) (fun h4 => ?_)
   ·
    have hx5 := ng f.2.2.2.2 (Int.toNat (((k0 : Nat) : Int) - 1))
    refine rN Qa Yr [0, 3, 4, 8, 9, 10, 37] [3] (pt 1 h3 (pe 6 (Zq (IntWalk.i64_in (((k0 : Nat) : Int) - 1) (by omega))) (pg 7 (((k0 : Nat) : Int) - 1) hx5 (pt 12 h4 p0)))) ?_
    exact ⟨rfl, Qc (by rw [h3, h4]; first | done | kernel_rfl)⟩
   ·
    have hx6 := ng f.2.2.2.2 (Int.toNat (((k0 : Nat) : Int) - 1))
    refine rN Qa Yr [0, 3, 4, 8, 9, 10, 37] [3] (pt 1 h3 (pe 6 (Zq (IntWalk.i64_in (((k0 : Nat) : Int) - 1) (by omega))) (pg 7 (((k0 : Nat) : Int) - 1) hx6 (pf 12 h4 (pc 20 (implMatchesSchema_a s_ a0.1 a0.2) p0))))) ?_
    exact ⟨rfl, Qc (by rw [h3, h4]; first | done | kernel_rfl)⟩
  ·
   refine rN Qa Yr [0, 3, 4, 8, 9, 10, 37] [3] (pf 1 h3 (pc 20 (implMatchesSchema_a s_ a0.1 a0.2) p0)) ?_
   exact ⟨rfl, Qc (by rw [h3]; first | done | kernel_rfl)⟩
  refine ck (bif decide (((k0 : Nat) : Int) > (0 : Int)) then ((!(Op.bytesLess ((nth f.2.2.2.2 (Int.toNat (((k0 : Nat) : Int) - 1))).1).toList a0.1.toList)) || (!(Zm s_ a0.1 a0.2))) else (!(Zm s_ a0.1 a0.2))) (fun h7 => ?_) (fun h7 => ?_)
  ·
   refine su Qa [] [37] [] [] (p0) ?_
   refine Qe ?_
   have hr8 : (Xp (Jo s_ f) Vc f.2.2.2.2 0 ()) = .ret false := Zj hx0 (Q4 h7 (rfl)) hI0
   exact pb [] (on_r hr8)
  ·
   refine Qf ?_
   refine rn Qa [0, 3, 4, 8, 9, 10] [3] (pe 0 (Zq (Qu k0 (by omega))) p0) ?_
   exact Exists.intro _ (And.intro (Qc (by kernel_rfl)) (Qv hx0 (Qk h7 (rfl)) hI0))
 ·
  refine su Qa [(11, .b false)] [] [] [] (pe 0 (Qs (decide_eq_false (p := ((k0 : Nat) : Int) < (f.2.2.2.2.length : Int)) (by omega))) p0) ?_
  refine Qd ?_
  refine ckF ?_
  refine Qz ?_
  exact Exists.intro _ (And.intro (Qc (by kernel_rfl)) (Xm hk0 (rfl) hI0))
 ·
  refine Qd ?_
  refine jn [(4, .b ((Yd f.1 1 60) && ((Kv f.2.1) && ((Yd f.2.2.2.1 0 60) && (Jl s_)))))] [0, 3, 4] [] [3] (Yd f.1 1 60) (fun h9 => ?_) (fun h9 => ?_) ?_
  ·
   have h9w := within_iff.1 h9
   refine Xd (Kv f.2.1) (fun h10 => ?_) (fun h10 => ?_)
   ·
    refine Xd (Yd f.2.2.2.1 0 60) (fun h11 => ?_) (fun h11 => ?_)
    ·
     have h11w := within_iff.1 h11
     refine rn Qa [4] [] (pc 2 (cb h9 (Z3 f.1 1 60)) (pc 6 (cb h10 (implisUser_a f.2.1)) (pc 11 (cb h11 (Z3 f.2.2.2.1 0 60)) (pc 15 (Ug s_) p0)))) ?_
     exact ⟨rfl, Qc (by rw [h9, h10, h11]; first | done | kernel_rfl)⟩
    ·
     refine rn Qa [4] [] (pc 2 (cb h9 (Z3 f.1 1 60)) (pc 6 (cb h10 (implisUser_a f.2.1)) (pc 11 (cb h11 (Z3 f.2.2.2.1 0 60)) p0))) ?_
     exact ⟨rfl, Qc (by rw [h9, h10, h11]; first | done | kernel_rfl)⟩
   ·
    refine rn Qa [4] [] (pc 2 (cb h9 (Z3 f.1 1 60)) (pc 6 (cb h10 (implisUser_a f.2.1)) p0)) ?_
    exact ⟨rfl, Qc (by rw [h9, h10]; first | done | kernel_rfl)⟩
  ·
   refine rn Qa [4] [] (pc 2 (cb h9 (Z3 f.1 1 60)) p0) ?_
   exact ⟨rfl, Qc (by rw [h9]; first | done | kernel_rfl)⟩
  refine Qe ?_
  exact pb [] (V2 hD0 (rfl))
def Yn (s_ : Q2) (k0 : Nat) (a0 : Xy) (_ : Unit) : Rd (Bool) (Unit) (Unit) := (bif ((!(Zy s_.1 a0)) || (decide (a0.1 ≥ s_.2.2) || (decide (((k0 : Nat) : Int) > (0 : Int)) && decide ((nth s_.2.1 (Int.toNat (((k0 : Nat) : Int) - 1))).1 ≥ a0.1)))) then (.ret false) else (.next ()))
def Jc (_ : Nat) (_ : Unit) : Unit := ()
def Xo (s_ : Q2) : Bool := (Out.on (Xp (Yn s_) Jc s_.2.1 0 ()) (fun _ => ((Jl s_.1) && (decide ((s_.2.1.length : Int) ≤ (12 : Int)) && (Yd s_.2.2 1 61)))))
theorem implIsValidStore_a (s_ : Q2) : ACalls Tryz.prog 145 [.a [.h s_.1, .h s_.2.1, .i s_.2.2]] (.b (Xo s_)) := by
 refine en Qa Tryz.func145 fun w0 F0 hG => ?_
 refine sn Qa [1, 2] [1] (p0) ?_
 refine Qd ?_
 refine tn Qa [1, 2, 6, 7, 8] [1] (pl 2 s_.2.1 p0) ?_
 refine mz [(1, .p 1 0), (2, .b false), (6, .h s_.2.1), (7, .i (s_.2.1.length : Int)), (8, .i 0)] [0] [(1, [.h s_.1, .h s_.2.1, .i s_.2.2])] [] ?_
 refine wT 6 0 .sh s_.2.1 (fun hw1 hl2 => ?_)
 refine blL0 (Yn s_) Jc s_.2.1 () (fun k0 _ => [(8, .i ((k0 : Nat) : Int))]) [8] (fun _ => []) [6, 7, 8] (Qc (by kernel_rfl)) (fun k0 s0 hk0 hI0 => ?_) (fun k0 s0 hk0 hI0 => ?_) (fun y0 hD0 => ?_)
 ·
  obtain ⟨a0, hx0⟩ := Xl (l := s_.2.1) (i := k0) hk0
  refine sn Qa [1, 2, 6, 7, 8, 9] [1] (pe 0 (Qs (decide_eq_true (p := ((k0 : Nat) : Int) < (s_.2.1.length : Int)) (by omega))) p0) ?_
  refine Qd ?_
  refine ckT ?_
  refine Qf ?_
  refine Qd ?_
  refine Qr ?_
  refine tn Qa [1, 2, 3, 4, 6, 7, 8] [1, 4] (pn 1 hx0 p0) ?_
  refine Qd ?_
  refine mz [(3, .i ((k0 : Nat) : Int)), (4, .p 4 0)] [] [(4, [.i a0.1, .i a0.2.1, .b a0.2.2.1, .i a0.2.2.2.1, .h a0.2.2.2.2])] [] ?_
  refine jn [(40, .b ((!(Zy s_.1 a0)) || (decide (a0.1 ≥ s_.2.2) || (decide (((k0 : Nat) : Int) > (0 : Int)) && decide ((nth s_.2.1 (Int.toNat (((k0 : Nat) : Int) - 1))).1 ≥ a0.1)))))] [3, 4] [] [4] (!(Zy s_.1 a0)) (fun h3 => ?_) (fun h3 => ?_) ?_
  ·
   have h3n : (Zy s_.1 a0) = false := bnot_t h3
   refine rN Qa Yr [1, 2, 6, 7, 8, 40] [1] (pc 3 (cb h3n (implIsValidFile_a s_.1 a0)) (pe 4 (show .b (!false) = .b true from rfl) p0)) ?_
   exact ⟨rfl, Qc (by rw [h3]; first | done | kernel_rfl)⟩
  ·
   have h3n : (Zy s_.1 a0) = true := Kg h3
   refine Xd (decide (a0.1 ≥ s_.2.2)) (fun h4 => ?_) (fun h4 => ?_)
   ·
    refine rN Qa Yr [1, 2, 6, 7, 8, 40] [1] (pc 3 (cb h3n (implIsValidFile_a s_.1 a0)) (pe 4 (show .b (!true) = .b false from rfl) (pt 10 h4 p0))) ?_
    exact ⟨rfl, Qc (by rw [h3, h4]; first | done | kernel_rfl)⟩
   ·
    have h4d := of_decide_eq_false h4
    refine Xd (decide (((k0 : Nat) : Int) > (0 : Int))) (fun h5 => ?_) (fun h5 => ?_)
    ·
     have h5d := of_decide_eq_true h5
     have hx6 := ng s_.2.1 (Int.toNat (((k0 : Nat) : Int) - 1))
     refine rN Qa Yr [1, 2, 6, 7, 8, 40] [1] (pc 3 (cb h3n (implIsValidFile_a s_.1 a0)) (pe 4 (show .b (!true) = .b false from rfl) (pf 10 h4 (pt 14 h5 (pe 19 (Zq (IntWalk.i64_in (((k0 : Nat) : Int) - 1) (by omega))) (pg 20 (((k0 : Nat) : Int) - 1) hx6 p0)))))) ?_
     exact ⟨rfl, Qc (by rw [h3, h4, h5]; first | done | kernel_rfl)⟩
    ·
     refine rN Qa Yr [1, 2, 6, 7, 8, 40] [1] (pc 3 (cb h3n (implIsValidFile_a s_.1 a0)) (pe 4 (show .b (!true) = .b false from rfl) (pf 10 h4 (pf 14 h5 p0)))) ?_
     exact ⟨rfl, Qc (by rw [h3, h4, h5]; first | done | kernel_rfl)⟩
  refine ck ((!(Zy s_.1 a0)) || (decide (a0.1 ≥ s_.2.2) || (decide (((k0 : Nat) : Int) > (0 : Int)) && decide ((nth s_.2.1 (Int.toNat (((k0 : Nat) : Int) - 1))).1 ≥ a0.1)))) (fun h7 => ?_) (fun h7 => ?_)
  ·
   refine su Qa [] [40] [] [] (p0) ?_
   refine Qe ?_
   have hr8 : (Xp (Yn s_) Jc s_.2.1 0 ()) = .ret false := Zj hx0 (Q4 h7 (rfl)) hI0
   exact pb [] (on_r hr8)
  ·
   have h7r : ((decide (a0.1 ≥ s_.2.2) || (decide (((k0 : Nat) : Int) > (0 : Int)) && decide ((nth s_.2.1 (Int.toNat (((k0 : Nat) : Int) - 1))).1 ≥ a0.1)))) = false := or_r h7
   have h7rl : (decide (a0.1 ≥ s_.2.2)) = false := or_l h7r
   have h7rld := of_decide_eq_false h7rl
   refine Qf ?_
   refine rn Qa [1, 2, 6, 7, 8] [1] (pe 0 (Zq (Qu k0 (by omega))) p0) ?_
   exact Exists.intro _ (And.intro (Qc (by kernel_rfl)) (Qv hx0 (Qk h7 (rfl)) hI0))
 ·
  refine sn Qa [1, 2, 6, 7, 8, 9] [1] (pe 0 (Qs (decide_eq_false (p := ((k0 : Nat) : Int) < (s_.2.1.length : Int)) (by omega))) p0) ?_
  refine Qd ?_
  refine ckF ?_
  refine Qz ?_
  exact Exists.intro _ (And.intro (Qc (by kernel_rfl)) (Xm hk0 (rfl) hI0))
 ·
  refine Qd ?_
  refine jn [(2, .b ((Jl s_.1) && (decide ((s_.2.1.length : Int) ≤ (12 : Int)) && (Yd s_.2.2 1 61))))] [1, 2] [] [1] (Jl s_.1) (fun h9 => ?_) (fun h9 => ?_) ?_
  ·
   refine Xd (decide ((s_.2.1.length : Int) ≤ (12 : Int))) (fun h10 => ?_) (fun h10 => ?_)
   ·
    refine rn Qa [2] [] (pc 2 (cb h9 (Ug s_.1)) (pl 6 s_.2.1 (pt 7 h10 (pc 12 (Z3 s_.2.2 1 61) p0)))) ?_
    exact ⟨rfl, Qc (by rw [h9, h10]; first | done | kernel_rfl)⟩
   ·
    refine rn Qa [2] [] (pc 2 (cb h9 (Ug s_.1)) (pl 6 s_.2.1 (pf 7 h10 p0))) ?_
    exact ⟨rfl, Qc (by rw [h9, h10]; first | done | kernel_rfl)⟩
  ·
   refine rn Qa [2] [] (pc 2 (cb h9 (Ug s_.1)) p0) ?_
   exact ⟨rfl, Qc (by rw [h9]; first | done | kernel_rfl)⟩
  refine Qe ?_
  exact pb [] (V2 hD0 (rfl))
def specFieldKind_f0 (name : ByteArray) (_ : Nat) (a0 : Y5) (_ : Unit) : Rd (Int) (Unit) (Unit) := (bif (a0.1.toList == name.toList) then (.ret a0.2) else (.next ()))
def specFieldKind_e0 (_ : Nat) (_ : Unit) : Unit := ()
def specFieldKind (s_ : (List Y5)) (name : ByteArray) : Int := (Out.on (Xp (specFieldKind_f0 name) specFieldKind_e0 s_ 0 ()) (fun _ => 0))
theorem specFieldKind_a (s_ : (List Y5)) (name : ByteArray) : ACalls Tryz.prog 143 [.h s_, .s name] (.i (specFieldKind s_ name)) := by
 refine en Qa Tryz.func143 fun w0 F0 hG => ?_
 refine sn Qa [0, 1, 4] [] (p0) ?_
 refine Qd ?_
 refine tn Qa [0, 1, 4, 5] [] (p0) ?_
 refine mz [(4, .i 0), (5, .i 0)] [] [] [] ?_
 refine wT 0 0 .sh s_ (fun hw1 hl2 => ?_)
 refine blL0 (specFieldKind_f0 name) specFieldKind_e0 s_ () (fun k0 _ => [(5, .i ((k0 : Nat) : Int))]) [5] (fun _ => []) [0, 1, 5] (Qc (by kernel_rfl)) (fun k0 s0 hk0 hI0 => ?_) (fun k0 s0 hk0 hI0 => ?_) (fun y0 hD0 => ?_)
 ·
  obtain ⟨a0, hx0⟩ := Xl (l := s_) (i := k0) hk0
  refine Qd ?_
  refine sn Qa [0, 1, 4, 5, 9] [] (pl 2 s_ (pe 3 (Qs (decide_eq_true (p := ((k0 : Nat) : Int) < (s_.length : Int)) (by omega))) p0)) ?_
  refine ckT ?_
  refine Qf ?_
  refine Qd ?_
  refine Qr ?_
  refine tn Qa [0, 1, 4, 5, 18] [] (pn 2 hx0 p0) ?_
  refine ck (a0.1.toList == name.toList) (fun h3 => ?_) (fun h3 => ?_)
  ·
   refine tu Qa [(4, .i a0.2)] [4] [] [] (pn 2 hx0 p0) ?_
   refine Qe ?_
   have hr4 : (Xp (specFieldKind_f0 name) specFieldKind_e0 s_ 0 ()) = .ret a0.2 := Zj hx0 (Q4 h3 (rfl)) hI0
   exact pi [] (on_r hr4)
  ·
   refine Qf ?_
   refine qu Qa [(5, .i ((k0 + 1 : Nat) : Int))] [5] [] [] (pe 1 (Zq (Qu k0 (by omega))) p0) ?_
   exact Exists.intro _ (And.intro (Qc (by kernel_rfl)) (Qv hx0 (Qk h3 (rfl)) hI0))
 ·
  refine Qd ?_
  refine sn Qa [0, 1, 4, 5, 9] [] (pl 2 s_ (pe 3 (Qs (decide_eq_false (p := ((k0 : Nat) : Int) < (s_.length : Int)) (by omega))) p0)) ?_
  refine ckF ?_
  refine Qz ?_
  exact Exists.intro _ (And.intro (Qc (by kernel_rfl)) (Xm hk0 (rfl) hI0))
 ·
  refine sn Qa [4] [] (p0) ?_
  refine Qe ?_
  exact pi [] (V2 hD0 (rfl))
def Z1 (s_ : (List Y5)) (name : ByteArray) (v : Vp) : Bool := ((Zk v) && ((v.1 != (0 : Int)) && (v.1 == (specFieldKind s_ name))))
theorem specMatchesSchema_a (s_ : (List Y5)) (name : ByteArray) (v : Vp) : ACalls Tryz.prog 97 [.h s_, .s name, .a [.i v.1, .i v.2.1, .s v.2.2]] (.b (Z1 s_ name v)) := by
 refine en Qa Tryz.func97 fun w0 F0 hG => ?_
 refine sn Qa [0, 1, 5, 6] [5] (p0) ?_
 refine Qd ?_
 refine mz [(5, .p 5 0), (6, .b false)] [2] [(5, [.i v.1, .i v.2.1, .s v.2.2])] [] ?_
 refine jn [(6, .b ((Zk v) && ((v.1 != (0 : Int)) && (v.1 == (specFieldKind s_ name)))))] [0, 1, 5, 6] [] [5] (Zk v) (fun h1 => ?_) (fun h1 => ?_) ?_
 ·
  refine Xd (v.1 != (0 : Int)) (fun h2 => ?_) (fun h2 => ?_)
  ·
   refine rN Qa Yr [6] [] (pc 1 (cb h1 (Ze v)) (pt 5 h2 (pc 12 (specFieldKind_a s_ name) p0))) ?_
   exact ⟨rfl, Qc (by rw [h1, h2]; first | done | kernel_rfl)⟩
  ·
   refine rN Qa Yr [6] [] (pc 1 (cb h1 (Ze v)) (pf 5 h2 p0)) ?_
   exact ⟨rfl, Qc (by rw [h1, h2]; first | done | kernel_rfl)⟩
 ·
  refine rN Qa Yr [6] [] (pc 1 (cb h1 (Ze v)) p0) ?_
  exact ⟨rfl, Qc (by rw [h1]; first | done | kernel_rfl)⟩
 refine Qe ?_
 exact pb [] (show Z1 s_ name v = ((Zk v) && ((v.1 != (0 : Int)) && (v.1 == (specFieldKind s_ name)))) from rfl)
def Vs (s_ : (List Y5)) (k0 : Nat) (a0 : Y5) (_ : Unit) : Rd (Bool) (Unit) (Unit) := (bif ((!(Xj a0.1)) || ((!(Q1 a0.2 1 2)) || (decide (((k0 : Nat) : Int) > (0 : Int)) && (!(Op.bytesLess ((nth s_ (Int.toNat (((k0 : Nat) : Int) - 1))).1).toList a0.1.toList))))) then (.ret false) else (.next ()))
def W6 (_ : Nat) (_ : Unit) : Unit := ()
def Zn (s_ : (List Y5)) : Bool := (Out.on (Xp (Vs s_) W6 s_ 0 ()) (fun _ => decide ((s_.length : Int) ≤ (5 : Int))))
theorem J8 (s_ : (List Y5)) : ACalls Tryz.prog 96 [.h s_] (.b (Zn s_)) := by
 refine en Qa Tryz.func96 fun w0 F0 hG => ?_
 refine sn Qa [0, 2] [] (p0) ?_
 refine Qd ?_
 refine tn Qa [0, 2, 3] [] (p0) ?_
 refine mz [(2, .b false), (3, .i 0)] [] [] [] ?_
 refine wT 0 0 .sh s_ (fun hw1 hl2 => ?_)
 refine blL0 (Vs s_) W6 s_ () (fun k0 _ => [(3, .i ((k0 : Nat) : Int))]) [3] (fun _ => []) [3] (Qc (by kernel_rfl)) (fun k0 s0 hk0 hI0 => ?_) (fun k0 s0 hk0 hI0 => ?_) (fun y0 hD0 => ?_)
 ·
  obtain ⟨a0, hx0⟩ := Xl (l := s_) (i := k0) hk0
  refine Qd ?_
  refine sn Qa [0, 2, 3, 7] [] (pl 2 s_ (pe 3 (Qs (decide_eq_true (p := ((k0 : Nat) : Int) < (s_.length : Int)) (by omega))) p0)) ?_
  refine ckT ?_
  refine Qf ?_
  refine Qd ?_
  refine Qr ?_
  refine Qd ?_
  refine mz [(7, .b true)] [] [] [] ?_
  refine jn [(43, .b ((!(Xj a0.1)) || ((!(Q1 a0.2 1 2)) || (decide (((k0 : Nat) : Int) > (0 : Int)) && (!(Op.bytesLess ((nth s_ (Int.toNat (((k0 : Nat) : Int) - 1))).1).toList a0.1.toList))))))] [7] [] [] (!(Xj a0.1)) (fun h3 => ?_) (fun h3 => ?_) ?_
  ·
   have h3n : (Xj a0.1) = false := bnot_t h3
   refine rN Qa Yr [0, 2, 3, 43] [] (pn 2 hx0 (pc 5 (cb h3n (Xt a0.1)) (pe 6 (show .b (!false) = .b true from rfl) p0))) ?_
   exact ⟨rfl, Qc (by rw [h3]; first | done | kernel_rfl)⟩
  ·
   have h3n : (Xj a0.1) = true := Kg h3
   refine Xd (!(Q1 a0.2 1 2)) (fun h4 => ?_) (fun h4 => ?_)
   ·
    have h4n : (Q1 a0.2 1 2) = false := bnot_t h4
    refine rN Qa Yr [0, 2, 3, 43] [] (pn 2 hx0 (pc 5 (cb h3n (Xt a0.1)) (pe 6 (show .b (!true) = .b false from rfl) (pn 10 hx0 (pc 13 (cb h4n (Ys a0.2 1 2)) (pe 14 (show .b (!false) = .b true from rfl) p0)))))) ?_
    exact ⟨rfl, Qc (by rw [h3, h4]; first | done | kernel_rfl)⟩
   ·
    have h4n : (Q1 a0.2 1 2) = true := Kg h4
    have h4nw := l01In_iff.1 h4n
    refine Xd (decide (((k0 : Nat) : Int) > (0 : Int))) (fun h5 => ?_) (fun h5 => ?_)
    ·
     have h5d := of_decide_eq_true h5
     have hx6 := ng s_ (Int.toNat (((k0 : Nat) : Int) - 1))
     refine rN Qa Yr [0, 2, 3, 43] [] (pn 2 hx0 (pc 5 (cb h3n (Xt a0.1)) (pe 6 (show .b (!true) = .b false from rfl) (pn 10 hx0 (pc 13 (cb h4n (Ys a0.2 1 2)) (pe 14 (show .b (!true) = .b false from rfl) (pt 18 h5 (pe 22 (Zq (IntWalk.i64_in (((k0 : Nat) : Int) - 1) (by omega))) (pg 23 (((k0 : Nat) : Int) - 1) hx6 (pn 28 hx0 p0)))))))))) ?_
     exact ⟨rfl, Qc (by rw [h3, h4, h5]; first | done | kernel_rfl)⟩
    ·
     refine rN Qa Yr [0, 2, 3, 43] [] (pn 2 hx0 (pc 5 (cb h3n (Xt a0.1)) (pe 6 (show .b (!true) = .b false from rfl) (pn 10 hx0 (pc 13 (cb h4n (Ys a0.2 1 2)) (pe 14 (show .b (!true) = .b false from rfl) (pf 18 h5 p0))))))) ?_
     exact ⟨rfl, Qc (by rw [h3, h4, h5]; first | done | kernel_rfl)⟩
  refine ck ((!(Xj a0.1)) || ((!(Q1 a0.2 1 2)) || (decide (((k0 : Nat) : Int) > (0 : Int)) && (!(Op.bytesLess ((nth s_ (Int.toNat (((k0 : Nat) : Int) - 1))).1).toList a0.1.toList))))) (fun h7 => ?_) (fun h7 => ?_)
  ·
   refine sn Qa [0, 2, 3] [] (p0) ?_
   refine Qe ?_
   have hr8 : (Xp (Vs s_) W6 s_ 0 ()) = .ret false := Zj hx0 (Q4 h7 (rfl)) hI0
   exact pb [] (on_r hr8)
  ·
   have h7r : (((!(Q1 a0.2 1 2)) || (decide (((k0 : Nat) : Int) > (0 : Int)) && (!(Op.bytesLess ((nth s_ (Int.toNat (((k0 : Nat) : Int) - 1))).1).toList a0.1.toList))))) = false := or_r h7
   have h7rl : ((!(Q1 a0.2 1 2))) = false := or_l h7r
   have h7rln : (Q1 a0.2 1 2) = true := Kg h7rl
   have h7rlnw := l01In_iff.1 h7rln
   refine Qf ?_
   refine rn Qa [0, 2, 3] [] (pe 1 (Zq (Qu k0 (by omega))) p0) ?_
   exact Exists.intro _ (And.intro (Qc (by kernel_rfl)) (Qv hx0 (Qk h7 (rfl)) hI0))
 ·
  refine Qd ?_
  refine sn Qa [0, 2, 3, 7] [] (pl 2 s_ (pe 3 (Qs (decide_eq_false (p := ((k0 : Nat) : Int) < (s_.length : Int)) (by omega))) p0)) ?_
  refine ckF ?_
  refine Qz ?_
  exact Exists.intro _ (And.intro (Qc (by kernel_rfl)) (Xm hk0 (rfl) hI0))
 ·
  refine sn Qa [2] [] (pl 1 s_ p0) ?_
  refine Qe ?_
  exact pb [] (V2 hD0 (rfl))
def Yt (s_ : (List Y5)) (f : Xy) (k0 : Nat) (a0 : AttrD) (_ : Unit) : Rd (Bool) (Unit) (Unit) := (bif ((!(Z1 s_ a0.1 a0.2)) || (decide (((k0 : Nat) : Int) > (0 : Int)) && (!(Op.bytesLess ((nth f.2.2.2.2 (Int.toNat (((k0 : Nat) : Int) - 1))).1).toList a0.1.toList)))) then (.ret false) else (.next ()))
def Z6 (_ : Nat) (_ : Unit) : Unit := ()
def Xq (s_ : (List Y5)) (f : Xy) : Bool := (Out.on (Xp (Yt s_ f) Z6 f.2.2.2.2 0 ()) (fun _ => ((Zn s_) && ((Q1 f.1 1 60) && ((Q1 f.2.1 0 2) && (Q1 f.2.2.2.1 0 60))))))
theorem Ua (s_ : (List Y5)) (f : Xy) : ACalls Tryz.prog 55 [.h s_, .a [.i f.1, .i f.2.1, .b f.2.2.1, .i f.2.2.2.1, .h f.2.2.2.2]] (.b (Xq s_ f)) := by
 refine en Qa Tryz.func55 fun w0 F0 hG => ?_
 refine sn Qa [0, 3, 4] [3] (p0) ?_
 refine Qd ?_
 refine tn Qa [0, 3, 4, 5] [3] (p0) ?_
 refine mz [(3, .p 3 0), (4, .b false), (5, .i 0)] [1] [(3, [.i f.1, .i f.2.1, .b f.2.2.1, .i f.2.2.2.1, .h f.2.2.2.2])] [] ?_
 refine wB 3 4 .sh f.2.2.2.2 (fun hw1 hl2 => ?_)
 refine blL0 (Yt s_ f) Z6 f.2.2.2.2 () (fun k0 _ => [(5, .i ((k0 : Nat) : Int))]) [5] (fun _ => []) [5] (Qc (by kernel_rfl)) (fun k0 s0 hk0 hI0 => ?_) (fun k0 s0 hk0 hI0 => ?_) (fun y0 hD0 => ?_)
 ·
  obtain ⟨a0, hx0⟩ := Xl (l := f.2.2.2.2) (i := k0) hk0
  refine Qd ?_
  refine sn Qa [0, 3, 4, 5, 10] [3] (pl 3 f.2.2.2.2 (pe 4 (Qs (decide_eq_true (p := ((k0 : Nat) : Int) < (f.2.2.2.2.length : Int)) (by omega))) p0)) ?_
  refine ckT ?_
  refine Qf ?_
  refine Qd ?_
  refine Qr ?_
  refine Qd ?_
  refine mz [(10, .b true)] [] [] [] ?_
  refine jn [(47, .b ((!(Z1 s_ a0.1 a0.2)) || (decide (((k0 : Nat) : Int) > (0 : Int)) && (!(Op.bytesLess ((nth f.2.2.2.2 (Int.toNat (((k0 : Nat) : Int) - 1))).1).toList a0.1.toList)))))] [10] [] [] (!(Z1 s_ a0.1 a0.2)) (fun h3 => ?_) (fun h3 => ?_) ?_
  ·
   have h3n : (Z1 s_ a0.1 a0.2) = false := bnot_t h3
   refine rN Qa Yr [0, 3, 4, 5, 47] [3] (pn 4 hx0 (pn 10 hx0 (pc 13 (cb h3n (specMatchesSchema_a s_ a0.1 a0.2)) (pe 14 (show .b (!false) = .b true from rfl) p0)))) ?_
   exact ⟨rfl, Qc (by rw [h3]; first | done | kernel_rfl)⟩
  ·
   have h3n : (Z1 s_ a0.1 a0.2) = true := Kg h3
   refine Xd (decide (((k0 : Nat) : Int) > (0 : Int))) (fun h4 => ?_) (fun h4 => ?_)
   ·
    have h4d := of_decide_eq_true h4
    have hx5 := ng f.2.2.2.2 (Int.toNat (((k0 : Nat) : Int) - 1))
    refine rN Qa Yr [0, 3, 4, 5, 47] [3] (pn 4 hx0 (pn 10 hx0 (pc 13 (cb h3n (specMatchesSchema_a s_ a0.1 a0.2)) (pe 14 (show .b (!true) = .b false from rfl) (pt 17 h4 (pe 22 (Zq (IntWalk.i64_in (((k0 : Nat) : Int) - 1) (by omega))) (pg 23 (((k0 : Nat) : Int) - 1) hx5 (pn 29 hx0 p0)))))))) ?_
    exact ⟨rfl, Qc (by rw [h3, h4]; first | done | kernel_rfl)⟩
   ·
    refine rN Qa Yr [0, 3, 4, 5, 47] [3] (pn 4 hx0 (pn 10 hx0 (pc 13 (cb h3n (specMatchesSchema_a s_ a0.1 a0.2)) (pe 14 (show .b (!true) = .b false from rfl) (pf 17 h4 p0))))) ?_
    exact ⟨rfl, Qc (by rw [h3, h4]; first | done | kernel_rfl)⟩
  refine ck ((!(Z1 s_ a0.1 a0.2)) || (decide (((k0 : Nat) : Int) > (0 : Int)) && (!(Op.bytesLess ((nth f.2.2.2.2 (Int.toNat (((k0 : Nat) : Int) - 1))).1).toList a0.1.toList)))) (fun h6 => ?_) (fun h6 => ?_)
  ·
   refine su Qa [] [47] [] [] (p0) ?_
   refine Qe ?_
   have hr7 : (Xp (Yt s_ f) Z6 f.2.2.2.2 0 ()) = .ret false := Zj hx0 (Q4 h6 (rfl)) hI0
   exact pb [] (on_r hr7)
  ·
   refine Qf ?_
   refine rn Qa [0, 3, 4, 5] [3] (pe 1 (Zq (Qu k0 (by omega))) p0) ?_
   exact Exists.intro _ (And.intro (Qc (by kernel_rfl)) (Qv hx0 (Qk h6 (rfl)) hI0))
 ·
  refine Qd ?_
  refine sn Qa [0, 3, 4, 5, 10] [3] (pl 3 f.2.2.2.2 (pe 4 (Qs (decide_eq_false (p := ((k0 : Nat) : Int) < (f.2.2.2.2.length : Int)) (by omega))) p0)) ?_
  refine ckF ?_
  refine Qz ?_
  exact Exists.intro _ (And.intro (Qc (by kernel_rfl)) (Xm hk0 (rfl) hI0))
 ·
  refine Qd ?_
  refine jn [(4, .b ((Zn s_) && ((Q1 f.1 1 60) && ((Q1 f.2.1 0 2) && (Q1 f.2.2.2.1 0 60)))))] [0, 3, 4] [] [3] (Zn s_) (fun h8 => ?_) (fun h8 => ?_) ?_
  ·
   refine Xd (Q1 f.1 1 60) (fun h9 => ?_) (fun h9 => ?_)
   ·
    have h9w := l01In_iff.1 h9
    refine Xd (Q1 f.2.1 0 2) (fun h10 => ?_) (fun h10 => ?_)
    ·
     have h10w := l01In_iff.1 h10
     refine rn Qa [4] [] (pc 1 (cb h8 (J8 s_)) (pc 5 (cb h9 (Ys f.1 1 60)) (pc 10 (cb h10 (Ys f.2.1 0 2)) (pc 15 (Ys f.2.2.2.1 0 60) p0)))) ?_
     exact ⟨rfl, Qc (by rw [h8, h9, h10]; first | done | kernel_rfl)⟩
    ·
     refine rn Qa [4] [] (pc 1 (cb h8 (J8 s_)) (pc 5 (cb h9 (Ys f.1 1 60)) (pc 10 (cb h10 (Ys f.2.1 0 2)) p0))) ?_
     exact ⟨rfl, Qc (by rw [h8, h9, h10]; first | done | kernel_rfl)⟩
   ·
    refine rn Qa [4] [] (pc 1 (cb h8 (J8 s_)) (pc 5 (cb h9 (Ys f.1 1 60)) p0)) ?_
    exact ⟨rfl, Qc (by rw [h8, h9]; first | done | kernel_rfl)⟩
  ·
   refine rn Qa [4] [] (pc 1 (cb h8 (J8 s_)) p0) ?_
   exact ⟨rfl, Qc (by rw [h8]; first | done | kernel_rfl)⟩
  refine Qe ?_
  exact pb [] (V2 hD0 (rfl))
def Kw (s_ : Q2) (k0 : Nat) (a0 : Xy) (_ : Unit) : Rd (Bool) (Unit) (Unit) := (bif ((!(Xq s_.1 a0)) || (decide (a0.1 ≥ s_.2.2) || (decide (((k0 : Nat) : Int) > (0 : Int)) && decide ((nth s_.2.1 (Int.toNat (((k0 : Nat) : Int) - 1))).1 ≥ a0.1)))) then (.ret false) else (.next ()))
def Uh (_ : Nat) (_ : Unit) : Unit := ()
def Xi (s_ : Q2) : Bool := (Out.on (Xp (Kw s_) Uh s_.2.1 0 ()) (fun _ => ((Zn s_.1) && (decide ((s_.2.1.length : Int) ≤ (12 : Int)) && (Q1 s_.2.2 1 61)))))
theorem Kj (s_ : Q2) : ACalls Tryz.prog 54 [.a [.h s_.1, .h s_.2.1, .i s_.2.2]] (.b (Xi s_)) := by
 refine en Qa Tryz.func54 fun w0 F0 hG => ?_
 refine sn Qa [1, 2] [1] (p0) ?_
 refine Qd ?_
 refine tn Qa [1, 2, 3] [1] (p0) ?_
 refine mz [(1, .p 1 0), (2, .b false), (3, .i 0)] [0] [(1, [.h s_.1, .h s_.2.1, .i s_.2.2])] [] ?_
 refine wB 1 1 .sh s_.2.1 (fun hw1 hl2 => ?_)
 refine blL0 (Kw s_) Uh s_.2.1 () (fun k0 _ => [(3, .i ((k0 : Nat) : Int))]) [3] (fun _ => []) [3] (Qc (by kernel_rfl)) (fun k0 s0 hk0 hI0 => ?_) (fun k0 s0 hk0 hI0 => ?_) (fun y0 hD0 => ?_)
 ·
  obtain ⟨a0, hx0⟩ := Xl (l := s_.2.1) (i := k0) hk0
  refine Qd ?_
  refine sn Qa [1, 2, 3, 8] [1] (pl 3 s_.2.1 (pe 4 (Qs (decide_eq_true (p := ((k0 : Nat) : Int) < (s_.2.1.length : Int)) (by omega))) p0)) ?_
  refine ckT ?_
  refine Qf ?_
  refine Qd ?_
  refine Qr ?_
  refine Qd ?_
  refine mz [(8, .b true)] [] [] [] ?_
  refine jn [(50, .b ((!(Xq s_.1 a0)) || (decide (a0.1 ≥ s_.2.2) || (decide (((k0 : Nat) : Int) > (0 : Int)) && decide ((nth s_.2.1 (Int.toNat (((k0 : Nat) : Int) - 1))).1 ≥ a0.1)))))] [8] [] [] (!(Xq s_.1 a0)) (fun h3 => ?_) (fun h3 => ?_) ?_
  ·
   have h3n : (Xq s_.1 a0) = false := bnot_t h3
   refine rN Qa Yr [1, 2, 3, 50] [1] (pn 5 hx0 (pc 7 (cb h3n (Ua s_.1 a0)) (pe 8 (show .b (!false) = .b true from rfl) p0))) ?_
   exact ⟨rfl, Qc (by rw [h3]; first | done | kernel_rfl)⟩
  ·
   have h3n : (Xq s_.1 a0) = true := Kg h3
   refine Xd (decide (a0.1 ≥ s_.2.2)) (fun h4 => ?_) (fun h4 => ?_)
   ·
    refine rN Qa Yr [1, 2, 3, 50] [1] (pn 5 hx0 (pc 7 (cb h3n (Ua s_.1 a0)) (pe 8 (show .b (!true) = .b false from rfl) (pn 13 hx0 (pt 18 h4 p0))))) ?_
    exact ⟨rfl, Qc (by rw [h3, h4]; first | done | kernel_rfl)⟩
   ·
    have h4d := of_decide_eq_false h4
    refine Xd (decide (((k0 : Nat) : Int) > (0 : Int))) (fun h5 => ?_) (fun h5 => ?_)
    ·
     have h5d := of_decide_eq_true h5
     have hx6 := ng s_.2.1 (Int.toNat (((k0 : Nat) : Int) - 1))
     refine rN Qa Yr [1, 2, 3, 50] [1] (pn 5 hx0 (pc 7 (cb h3n (Ua s_.1 a0)) (pe 8 (show .b (!true) = .b false from rfl) (pn 13 hx0 (pf 18 h4 (pt 22 h5 (pe 27 (Zq (IntWalk.i64_in (((k0 : Nat) : Int) - 1) (by omega))) (pg 28 (((k0 : Nat) : Int) - 1) hx6 (pn 34 hx0 p0))))))))) ?_
     exact ⟨rfl, Qc (by rw [h3, h4, h5]; first | done | kernel_rfl)⟩
    ·
     refine rN Qa Yr [1, 2, 3, 50] [1] (pn 5 hx0 (pc 7 (cb h3n (Ua s_.1 a0)) (pe 8 (show .b (!true) = .b false from rfl) (pn 13 hx0 (pf 18 h4 (pf 22 h5 p0)))))) ?_
     exact ⟨rfl, Qc (by rw [h3, h4, h5]; first | done | kernel_rfl)⟩
  refine ck ((!(Xq s_.1 a0)) || (decide (a0.1 ≥ s_.2.2) || (decide (((k0 : Nat) : Int) > (0 : Int)) && decide ((nth s_.2.1 (Int.toNat (((k0 : Nat) : Int) - 1))).1 ≥ a0.1)))) (fun h7 => ?_) (fun h7 => ?_)
  ·
   refine su Qa [] [50] [] [] (p0) ?_
   refine Qe ?_
   have hr8 : (Xp (Kw s_) Uh s_.2.1 0 ()) = .ret false := Zj hx0 (Q4 h7 (rfl)) hI0
   exact pb [] (on_r hr8)
  ·
   have h7r : ((decide (a0.1 ≥ s_.2.2) || (decide (((k0 : Nat) : Int) > (0 : Int)) && decide ((nth s_.2.1 (Int.toNat (((k0 : Nat) : Int) - 1))).1 ≥ a0.1)))) = false := or_r h7
   have h7rl : (decide (a0.1 ≥ s_.2.2)) = false := or_l h7r
   have h7rld := of_decide_eq_false h7rl
   refine Qf ?_
   refine rn Qa [1, 2, 3] [1] (pe 1 (Zq (Qu k0 (by omega))) p0) ?_
   exact Exists.intro _ (And.intro (Qc (by kernel_rfl)) (Qv hx0 (Qk h7 (rfl)) hI0))
 ·
  refine Qd ?_
  refine sn Qa [1, 2, 3, 8] [1] (pl 3 s_.2.1 (pe 4 (Qs (decide_eq_false (p := ((k0 : Nat) : Int) < (s_.2.1.length : Int)) (by omega))) p0)) ?_
  refine ckF ?_
  refine Qz ?_
  exact Exists.intro _ (And.intro (Qc (by kernel_rfl)) (Xm hk0 (rfl) hI0))
 ·
  refine Qd ?_
  refine jn [(2, .b ((Zn s_.1) && (decide ((s_.2.1.length : Int) ≤ (12 : Int)) && (Q1 s_.2.2 1 61))))] [1, 2] [] [1] (Zn s_.1) (fun h9 => ?_) (fun h9 => ?_) ?_
  ·
   refine Xd (decide ((s_.2.1.length : Int) ≤ (12 : Int))) (fun h10 => ?_) (fun h10 => ?_)
   ·
    refine rn Qa [2] [] (pc 2 (cb h9 (J8 s_.1)) (pl 6 s_.2.1 (pt 7 h10 (pc 12 (Ys s_.2.2 1 61) p0)))) ?_
    exact ⟨rfl, Qc (by rw [h9, h10]; first | done | kernel_rfl)⟩
   ·
    refine rn Qa [2] [] (pc 2 (cb h9 (J8 s_.1)) (pl 6 s_.2.1 (pf 7 h10 p0))) ?_
    exact ⟨rfl, Qc (by rw [h9, h10]; first | done | kernel_rfl)⟩
  ·
   refine rn Qa [2] [] (pc 2 (cb h9 (J8 s_.1)) p0) ?_
   exact ⟨rfl, Qc (by rw [h9]; first | done | kernel_rfl)⟩
  refine Qe ?_
  exact pb [] (V2 hD0 (rfl))
end Go.Proofs.YtcnkkobgogmakaaGreat
namespace Go.Proofs.YtcnkkobgogmakaaGreat
open Go.RowKit
theorem kind_eq (s : List Y5) (n : ByteArray) : specFieldKind s n = implFieldKind s n := rfl
theorem matchSchema_eq (s : List Y5) (n : ByteArray) (v : Vp) : Z1 s n v = Zm s n v := by
  unfold Z1 Zm
  rw [vval_eq, kind_eq]
theorem schema_eq (s : List Y5) : Zn s = Jl s := by
  unfold Zn Jl
  rw [forL_ext (f := Vs s) (g := Vr s) (e := W6) (e' := W5) (fun k a u => by
    unfold Vs Vr
    rw [vname_eq]
    have h : (!(Q1 a.2 1 2)) = ((a.2 != 1) && (a.2 != 2)) := by
      unfold Q1
      rw [Bool.eq_iff_iff]; simp; omega
    rw [h]
    generalize (!(Op.bytesLess ((nth s (Int.toNat (((k : Nat) : Int) - 1))).1).toList a.1.toList)) = x
    cases Xj a.1 <;> cases (a.2 != (1 : Int)) <;> cases (a.2 != (2 : Int)) <;> cases decide (((k : Nat) : Int) > (0 : Int)) <;> cases x <;> rfl) (fun _ _ => rfl)]
theorem file_eq (s : List Y5) (f : Xy) : Xq s f = Zy s f := by
  unfold Xq Zy
  rw [forL_ext (f := Yt s f) (g := Jo s f) (e := Z6) (e' := Vc) (fun k a u => by
    unfold Yt Jo
    rw [matchSchema_eq]
    generalize (!(Op.bytesLess ((nth f.2.2.2.2 (Int.toNat (((k : Nat) : Int) - 1))).1).toList a.1.toList)) = x
    cases Zm s a.1 a.2 <;> cases decide (((k : Nat) : Int) > (0 : Int)) <;> cases x <;> rfl) (fun _ _ => rfl), schema_eq]
  congr 1
  funext y
  unfold Kv
  simp only [← within_in]
  cases Jl s <;> cases Yd f.1 1 60 <;> cases Yd f.2.1 0 2 <;> cases Yd f.2.2.2.1 0 60 <;> rfl
theorem store_eq (s : Q2) : Xi s = Xo s := by
  unfold Xi Xo
  rw [forL_ext (f := Kw s) (g := Yn s) (e := Uh) (e' := Jc) (fun k a u => by
    unfold Kw Yn
    rw [file_eq]) (fun _ _ => rfl), schema_eq]
  rfl
open GoE (enc wide)
def implGetAttr_f0 (name : ByteArray) (_ : Nat) (a0 : AttrD) (_ : Unit) : Rd (Vp) (Unit) (Unit) := (bif (a0.1.toList == name.toList) then (.ret a0.2) else (.next ()))
def implGetAttr_e0 (_ : Nat) (_ : Unit) : Unit := ()
def Zo (f : Xy) (name : ByteArray) : Vp := (Out.on (Xp (implGetAttr_f0 name) implGetAttr_e0 f.2.2.2.2 0 ()) (fun _ => (0, 0, ⟨#[]⟩)))
theorem implGetAttr_a (f : Xy) (name : ByteArray) : ACalls Tryz.prog 249 [.a [.i f.1, .i f.2.1, .b f.2.2.1, .i f.2.2.2.1, .h f.2.2.2.2], .s name] (.a [.i ((Zo f name).1), .i ((Zo f name).2.1), .s ((Zo f name).2.2)]) := by
 refine en Qa Tryz.func249 fun w0 F0 hG => ?_
 refine sn Qa [1, 2, 4] [2, 4] (p0) ?_
 refine Qd ?_
 refine tn Qa [1, 4, 8, 9, 10] [4] (pl 2 f.2.2.2.2 p0) ?_
 refine mz [(4, .p 4 0), (8, .h f.2.2.2.2), (9, .i (f.2.2.2.2.length : Int)), (10, .i 0)] [0] [(4, [.i 0, .i 0, .s ⟨#[]⟩])] [] ?_
 refine wT 8 0 .sh f.2.2.2.2 (fun hw1 hl2 => ?_)
 refine blL0 (implGetAttr_f0 name) implGetAttr_e0 f.2.2.2.2 () (fun k0 _ => [(10, .i ((k0 : Nat) : Int))]) [10] (fun _ => []) [1, 8, 9, 10] (Qc (by kernel_rfl)) (fun k0 s0 hk0 hI0 => ?_) (fun k0 s0 hk0 hI0 => ?_) (fun y0 hD0 => ?_)
 ·
  obtain ⟨a0, hx0⟩ := Xl (l := f.2.2.2.2) (i := k0) hk0
  refine su Qa [(11, .b true)] [] [] [] (pe 0 (Qs (decide_eq_true (p := ((k0 : Nat) : Int) < (f.2.2.2.2.length : Int)) (by omega))) p0) ?_
  refine Qd ?_
  refine ckT ?_
  refine Qf ?_
  refine Qd ?_
  refine Qr ?_
  refine sn Qa [1, 4, 6, 8, 9, 10] [4, 6] (pn 0 hx0 p0) ?_
  refine tn Qa [1, 4, 6, 8, 9, 10, 17] [4, 6] (p0) ?_
  refine ck (a0.1.toList == name.toList) (fun h3 => ?_) (fun h3 => ?_)
  ·
   refine tu Qa [] [11] [(4, [.i a0.2.1, .i a0.2.2.1, .s a0.2.2.2])] [4] (p0) ?_
   refine Qe ?_
   have hr4 : (Xp (implGetAttr_f0 name) implGetAttr_e0 f.2.2.2.2 0 ()) = .ret a0.2 := Zj hx0 (Q4 h3 (rfl)) hI0
   exact pz [] (show Zo f name = _ from on_r hr4) (fun z => .a [.i z.1, .i z.2.1, .s z.2.2])
  ·
   refine Qf ?_
   refine qu Qa [(10, .i ((k0 + 1 : Nat) : Int))] [10, 11] [] [] (pe 0 (Zq (Qu k0 (by omega))) p0) ?_
   exact Exists.intro _ (And.intro (Qc (by kernel_rfl)) (Qv hx0 (Qk h3 (rfl)) hI0))
 ·
  refine sn Qa [1, 4, 8, 9, 10, 11] [4] (pe 0 (Qs (decide_eq_false (p := ((k0 : Nat) : Int) < (f.2.2.2.2.length : Int)) (by omega))) p0) ?_
  refine Qd ?_
  refine ckF ?_
  refine Qz ?_
  exact Exists.intro _ (And.intro (Qc (by kernel_rfl)) (Xm hk0 (rfl) hI0))
 ·
  refine sn Qa [4] [4] (p0) ?_
  refine Qe ?_
  exact pz [] (show Zo f name = _ from V2 hD0 (rfl)) (fun z => .a [.i z.1, .i z.2.1, .s z.2.2])
def Vh (f : Xy) (name : ByteArray) : Int × Bool := (bif ((Zo f name).1 != (1 : Int)) then (0, false) else ((Zo f name).2.1, true))
theorem implIntAttr_a (f : Xy) (name : ByteArray) : ACalls Tryz.prog 250 [.a [.i f.1, .i f.2.1, .b f.2.2.1, .i f.2.2.2.1, .h f.2.2.2.2], .s name] (.tup [(false, [.i (((Vh f name)).1)]), (false, [.b (((Vh f name)).2)])]) := by
 refine en Qa Tryz.func250 fun w0 F0 hG => ?_
 refine sn Qa [1, 2, 4, 5] [2] (p0) ?_
 refine tn Qa [4, 5, 6] [6] (pc 2 (implGetAttr_a f name) p0) ?_
 refine Qd ?_
 refine tu Qa [(4, .i 0), (5, .b false), (6, .p 6 0), (12, .b ((Zo f name).1 != (1 : Int)))] [0, 1] [(6, [.i ((Zo f name).1), .i ((Zo f name).2.1), .s ((Zo f name).2.2)])] [] (p0) ?_
 refine ck ((Zo f name).1 != (1 : Int)) (fun h1 => ?_) (fun h1 => ?_)
 ·
  refine su Qa [] [12] [] [] (p0) ?_
  refine Qe ?_
  exact pz [] (show Vh f name = _ from Q4 h1 (rfl)) (fun z => .tup [(false, [.i z.1]), (false, [.b z.2])])
 ·
  refine Qf ?_
  refine sn Qa [4, 5] [] (p0) ?_
  refine Qe ?_
  exact pz [] (show Vh f name = _ from Qk h1 (rfl)) (fun z => .tup [(false, [.i z.1]), (false, [.b z.2])])
def J0 (name : ByteArray) (_ : Nat) (a0 : Qp) (_ : Unit) : Rd ((List Int)) (Unit) (Unit) := (bif (a0.1.toList == name.toList) then (.ret a0.2) else (.next ()))
def Vi (_ : Nat) (_ : Unit) : Unit := ()
def X6 (r : (List Qp)) (name : ByteArray) : (List Int) := (Out.on (Xp (J0 name) Vi r 0 ()) (fun _ => []))
theorem implResultIDs_a (r : (List Qp)) (name : ByteArray) : ACalls Tryz.prog 57 [.h r, .s name] (.o 0 (X6 r name)) := by
 refine en Qa Tryz.func57 fun w0 F0 hG => ?_
 refine sn Qa [0, 1, 4] [] (p0) ?_
 refine Qd ?_
 refine tn Qa [1, 4, 7, 8, 9] [] (pl 1 r p0) ?_
 refine mz [(4, .e 0), (7, .h r), (8, .i (r.length : Int)), (9, .i 0)] [0] [] [] ?_
 refine wT 7 0 .sh r (fun hw1 hl2 => ?_)
 refine blL0 (J0 name) Vi r () (fun k0 _ => [(9, .i ((k0 : Nat) : Int))]) [9] (fun _ => []) [1, 7, 8, 9] (Qc (by kernel_rfl)) (fun k0 s0 hk0 hI0 => ?_) (fun k0 s0 hk0 hI0 => ?_) (fun y0 hD0 => ?_)
 ·
  obtain ⟨a0, hx0⟩ := Xl (l := r) (i := k0) hk0
  refine sn Qa [1, 4, 7, 8, 9, 10] [] (pe 0 (Qs (decide_eq_true (p := ((k0 : Nat) : Int) < (r.length : Int)) (by omega))) p0) ?_
  refine Qd ?_
  refine ckT ?_
  refine Qf ?_
  refine Qd ?_
  refine Qr ?_
  refine tn Qa [1, 4, 6, 7, 8, 9] [6] (pn 0 hx0 p0) ?_
  refine tu Qa [(6, .p 6 0), (16, .b (a0.1.toList == name.toList))] [] [(6, [.s a0.1, .h a0.2])] [] (p0) ?_
  refine ck (a0.1.toList == name.toList) (fun h3 => ?_) (fun h3 => ?_)
  ·
   refine sn Qa [1, 4, 7, 8, 9] [] (pc 2 (cloneInt_a a0.2) p0) ?_
   refine Qe ?_
   have hr4 : (Xp (J0 name) Vi r 0 ()) = .ret a0.2 := Zj hx0 (Q4 h3 (rfl)) hI0
   exact po0 [] (on_r hr4)
  ·
   refine Qf ?_
   refine rn Qa [1, 4, 7, 8, 9] [] (pe 0 (Zq (Qu k0 (by omega))) p0) ?_
   exact Exists.intro _ (And.intro (Qc (by kernel_rfl)) (Qv hx0 (Qk h3 (rfl)) hI0))
 ·
  refine sn Qa [1, 4, 7, 8, 9, 10] [] (pe 0 (Qs (decide_eq_false (p := ((k0 : Nat) : Int) < (r.length : Int)) (by omega))) p0) ?_
  refine Qd ?_
  refine ckF ?_
  refine Qz ?_
  exact Exists.intro _ (And.intro (Qc (by kernel_rfl)) (Xm hk0 (rfl) hI0))
 ·
  refine sn Qa [4] [] (p0) ?_
  refine opn [(false, 4, 0, true, 384000, 1)] ?_
  refine Qe ?_
  exact po0 [] (V2 hD0 (rfl))
def Z7 (v : Int) (k0 : Nat) (a0 : Int) (_ : Unit) : Rd (Int) (Unit) (Unit) := (bif (v == a0) then (.ret ((k0 : Nat) : Int)) else (.next ()))
def Vd (_ : Nat) (_ : Unit) : Unit := ()
def slicesIndex_int (s_ : (List Int)) (v : Int) : Int := (Out.on (Xp (Z7 v) Vd s_ 0 ()) (fun _ => -1))
theorem slicesIndex_int_a (s_ : (List Int)) (v : Int) : ACalls Tryz.prog 101 [.h s_, .i v] (.i (slicesIndex_int s_ v)) := by
 refine en Qa Tryz.func101 fun w0 F0 hG => ?_
 refine sn Qa [0, 1, 4] [] (p0) ?_
 refine Qd ?_
 refine tn Qa [0, 1, 4, 7, 8] [] (pl 1 s_ p0) ?_
 refine mz [(4, .i 0), (7, .i (s_.length : Int)), (8, .i 0)] [] [] [] ?_
 refine wT 0 0 .sh s_ (fun hw1 hl2 => ?_)
 refine blL0 (Z7 v) Vd s_ () (fun k0 _ => [(8, .i ((k0 : Nat) : Int))]) [8] (fun _ => []) [0, 1, 7, 8] (Qc (by kernel_rfl)) (fun k0 s0 hk0 hI0 => ?_) (fun k0 s0 hk0 hI0 => ?_) (fun y0 hD0 => ?_)
 ·
  obtain ⟨a0, hx0⟩ := Xl (l := s_) (i := k0) hk0
  refine sn Qa [0, 1, 4, 7, 8, 9] [] (pe 0 (Qs (decide_eq_true (p := ((k0 : Nat) : Int) < (s_.length : Int)) (by omega))) p0) ?_
  refine Qd ?_
  refine ckT ?_
  refine Qf ?_
  refine Qd ?_
  refine Qr ?_
  refine tn Qa [0, 1, 4, 5, 7, 8] [] (p0) ?_
  refine tu Qa [(5, .i ((k0 : Nat) : Int)), (16, .b (v == a0))] [] [] [] (pn 3 hx0 p0) ?_
  refine ck (v == a0) (fun h3 => ?_) (fun h3 => ?_)
  ·
   refine sn Qa [0, 1, 4, 7, 8] [] (p0) ?_
   refine Qe ?_
   have hr4 : (Xp (Z7 v) Vd s_ 0 ()) = .ret ((k0 : Nat) : Int) := Zj hx0 (Q4 h3 (rfl)) hI0
   exact pi [] (on_r hr4)
  ·
   have h3d := X2 h3
   refine Qf ?_
   refine rn Qa [0, 1, 4, 7, 8] [] (pe 0 (Zq (Qu k0 (by omega))) p0) ?_
   exact Exists.intro _ (And.intro (Qc (by kernel_rfl)) (Qv hx0 (Qk h3 (rfl)) hI0))
 ·
  refine sn Qa [0, 1, 4, 7, 8, 9] [] (pe 0 (Qs (decide_eq_false (p := ((k0 : Nat) : Int) < (s_.length : Int)) (by omega))) p0) ?_
  refine Qd ?_
  refine ckF ?_
  refine Qz ?_
  exact Exists.intro _ (And.intro (Qc (by kernel_rfl)) (Xm hk0 (rfl) hI0))
 ·
  refine sn Qa [4] [] (p0) ?_
  refine Qe ?_
  exact pi [] (V2 hD0 (rfl))
def Z8 (s_ : (List Int)) (v : Int) : Bool := decide ((slicesIndex_int s_ v) ≥ (0 : Int))
theorem slicesContains_int_a (s_ : (List Int)) (v : Int) : ACalls Tryz.prog 60 [.h s_, .i v] (.b (Z8 s_ v)) := by
 refine en Qa Tryz.func60 fun w0 F0 hG => ?_
 refine sn Qa [0, 1, 4] [] (p0) ?_
 refine tn Qa [4] [] (pc 2 (slicesIndex_int_a s_ v) p0) ?_
 refine Qe ?_
 exact pb [] (show Z8 s_ v = decide ((slicesIndex_int s_ v) ≥ (0 : Int)) from rfl)
def Kd (ids : (List Int)) (id : Int) : Bool := (Z8 ids id)
theorem implContainsID_a (ids : (List Int)) (id : Int) : ACalls Tryz.prog 20 [.h ids, .i id] (.b (Kd ids id)) := by
 refine en Qa Tryz.func20 fun w0 F0 hG => ?_
 refine sn Qa [0, 1, 4] [] (p0) ?_
 refine tn Qa [4] [] (pc 2 (slicesContains_int_a ids id) p0) ?_
 refine Qe ?_
 exact pb [] (show Kd ids id = (Z8 ids id) from rfl)
def X7 (n_ : Nat) (q : (List Xv)) (at_ : Int) (f : Xy) (r : (List Qp)) : Bool := match n_ with
 | 0 => default
 | n_ + 1 => (bif ((nth q (Int.toNat at_)).1 == (2 : Int)) then ((Zo f ((nth q (Int.toNat at_)).2.2.2.1)).1 != (0 : Int)) else (bif ((nth q (Int.toNat at_)).1 == (3 : Int)) then (((Zo f ((nth q (Int.toNat at_)).2.2.2.1)).1 == (nth q (Int.toNat at_)).2.2.2.2.1) && (((Zo f ((nth q (Int.toNat at_)).2.2.2.1)).2.1 == (nth q (Int.toNat at_)).2.2.2.2.2.1) && ((((Zo f ((nth q (Int.toNat at_)).2.2.2.1)).2.2).toList == ((nth q (Int.toNat at_)).2.2.2.2.2.2).toList) && true))) else (bif ((nth q (Int.toNat at_)).1 == (4 : Int)) then (((Vh f ((nth q (Int.toNat at_)).2.2.2.1))).2 && decide (((Vh f ((nth q (Int.toNat at_)).2.2.2.1))).1 < (nth q (Int.toNat at_)).2.2.2.2.2.1)) else (bif ((nth q (Int.toNat at_)).1 == (5 : Int)) then (!(X7 n_ q ((nth q (Int.toNat at_)).2.1) f r)) else (bif ((nth q (Int.toNat at_)).1 == (6 : Int)) then ((X7 n_ q ((nth q (Int.toNat at_)).2.1) f r) && (X7 n_ q ((nth q (Int.toNat at_)).2.2.1) f r)) else (bif ((nth q (Int.toNat at_)).1 == (7 : Int)) then ((X7 n_ q ((nth q (Int.toNat at_)).2.1) f r) || (X7 n_ q ((nth q (Int.toNat at_)).2.2.1) f r)) else (bif ((nth q (Int.toNat at_)).1 == (8 : Int)) then (Kd (X6 r ((nth q (Int.toNat at_)).2.2.2.1)) f.1) else (bif ((nth q (Int.toNat at_)).1 == (9 : Int)) then ((f.2.2.2.1 != (0 : Int)) && (Kd (X6 r ((nth q (Int.toNat at_)).2.2.2.1)) f.2.2.2.1)) else true))))))))
theorem implmatchesAt_a : ∀ (n_ : Nat) (q : (List Xv)) (at_ : Int) (f : Xy) (r : (List Qp)) (hv : Qw q = true) (ha : 0 ≤ at_) (hb : at_ < (q.length : Int)) (hn : at_ < ((n_ : Nat) : Int)), ACalls Tryz.prog 222 [.h q, .i at_, .a [.i f.1, .i f.2.1, .b f.2.2.1, .i f.2.2.2.1, .h f.2.2.2.2], .h r] (.b (X7 n_ q at_ f r)) := by
 intro n_
 induction n_ with
 | zero => intro q at_ f r hv ha hb hn; exact (by omega : False).elim
 | succ n_ ih =>
  intro q at_ f r hv ha hb hn
  refine en Qa Tryz.func222 fun w0 F0 hG => ?_
  refine sn Qa [0, 1, 3, 6, 8] [6] (p0) ?_
  refine wT 0 0 .sh q (fun hw2 hl3 => ?_)
  have hx1 := ng q (Int.toNat at_)
  refine tn Qa [0, 3, 6, 8, 9] [6, 9] (pg 2 at_ hx1 p0) ?_
  refine Qd ?_
  refine tu Qa [(6, .p 6 0), (8, .b false), (9, .p 9 0), (17, .i ((nth q (Int.toNat at_)).1))] [1, 2] [(6, [.i f.1, .i f.2.1, .b f.2.2.1, .i f.2.2.2.1, .h f.2.2.2.2]), (9, [.i ((nth q (Int.toNat at_)).1), .i ((nth q (Int.toNat at_)).2.1), .i ((nth q (Int.toNat at_)).2.2.1), .s ((nth q (Int.toNat at_)).2.2.2.1), .i ((nth q (Int.toNat at_)).2.2.2.2.1), .i ((nth q (Int.toNat at_)).2.2.2.2.2.1), .s ((nth q (Int.toNat at_)).2.2.2.2.2.2)])] [] (p0) ?_
  refine Qr ?_
  refine sn Qa [0, 3, 6, 8, 9, 17, 18] [6, 9] (p0) ?_
  refine ck ((nth q (Int.toNat at_)).1 == (2 : Int)) (fun h4 => ?_) (fun h4 => ?_)
  ·
   refine tn Qa [8] [] (pc 3 (implGetAttr_a f ((nth q (Int.toNat at_)).2.2.2.1)) p0) ?_
   refine Qe ?_
   exact pb [] (Q4 h4 (rfl))
  ·
   have h4d := X2 h4
   refine tn Qa [0, 3, 6, 8, 9, 17, 26] [6, 9] (p0) ?_
   refine ck ((nth q (Int.toNat at_)).1 == (3 : Int)) (fun h5 => ?_) (fun h5 => ?_)
   ·
    refine tU Qa Yr [(8, .b (((Zo f ((nth q (Int.toNat at_)).2.2.2.1)).1 == (nth q (Int.toNat at_)).2.2.2.2.1) && (((Zo f ((nth q (Int.toNat at_)).2.2.2.1)).2.1 == (nth q (Int.toNat at_)).2.2.2.2.2.1) && ((((Zo f ((nth q (Int.toNat at_)).2.2.2.1)).2.2).toList == ((nth q (Int.toNat at_)).2.2.2.2.2.2).toList) && true))))] [0, 3, 6, 8, 9, 17] [] [6, 9] (pc 3 (implGetAttr_a f ((nth q (Int.toNat at_)).2.2.2.1)) p0) ?_
    refine Qe ?_
    exact pb [] (Qk h4 (Q4 h5 (rfl)))
   ·
    have h5d := X2 h5
    refine tu Qa [(35, .b ((nth q (Int.toNat at_)).1 == (4 : Int)))] [] [] [] (p0) ?_
    refine ck ((nth q (Int.toNat at_)).1 == (4 : Int)) (fun h6 => ?_) (fun h6 => ?_)
    ·
     refine sn Qa [8, 9, 10, 11] [9] (pc 3 (implIntAttr_a f ((nth q (Int.toNat at_)).2.2.2.1)) p0) ?_
     refine Qd ?_
     refine mz [(10, .i (((Vh f ((nth q (Int.toNat at_)).2.2.2.1))).1)), (11, .b (((Vh f ((nth q (Int.toNat at_)).2.2.2.1))).2))] [0, 3, 6, 17, 35] [] [6] ?_
     refine jn [(8, .b (((Vh f ((nth q (Int.toNat at_)).2.2.2.1))).2 && decide (((Vh f ((nth q (Int.toNat at_)).2.2.2.1))).1 < (nth q (Int.toNat at_)).2.2.2.2.2.1)))] [8, 9, 10, 11] [] [9] (((Vh f ((nth q (Int.toNat at_)).2.2.2.1))).2) (fun h7 => ?_) (fun h7 => ?_) ?_
     ·
      refine rn Qa [8] [] (pt 0 h7 p0) ?_
      exact ⟨rfl, Qc (by rw [h7]; first | done | kernel_rfl)⟩
     ·
      refine rn Qa [8] [] (pf 0 h7 p0) ?_
      exact ⟨rfl, Qc (by rw [h7]; first | done | kernel_rfl)⟩
     refine Qe ?_
     exact pb [] (Qk h4 (Qk h5 (Q4 h6 (rfl))))
    ·
     have h6d := X2 h6
     refine sn Qa [0, 3, 6, 8, 9, 17, 52] [6, 9] (p0) ?_
     refine ck ((nth q (Int.toNat at_)).1 == (5 : Int)) (fun h8 => ?_) (fun h8 => ?_)
     ·
      have h8d := eq_of_beq h8
      refine tn Qa [8] [] (pc 5 (ih q ((nth q (Int.toNat at_)).2.1) f r hv (by have hz := ql_a hv ha hb h8; omega) (by have hz := ql_a hv ha hb h8; omega) (by have hz := ql_a hv ha hb h8; omega)) p0) ?_
      refine Qe ?_
      exact pb [] (Qk h4 (Qk h5 (Qk h6 (Q4 h8 (rfl)))))
     ·
      have h8d := X2 h8
      refine tn Qa [0, 3, 6, 8, 9, 17, 61] [6, 9] (p0) ?_
      refine ck ((nth q (Int.toNat at_)).1 == (6 : Int)) (fun h9 => ?_) (fun h9 => ?_)
      ·
       have h9d := eq_of_beq h9
       refine Qd ?_
       refine mz [(61, .b ((nth q (Int.toNat at_)).1 == (6 : Int)))] [35] [] [] ?_
       refine jn [(8, .b ((X7 n_ q ((nth q (Int.toNat at_)).2.1) f r) && (X7 n_ q ((nth q (Int.toNat at_)).2.2.1) f r)))] [0, 3, 6, 8, 9, 17, 61] [] [6, 9] (X7 n_ q ((nth q (Int.toNat at_)).2.1) f r) (fun h10 => ?_) (fun h10 => ?_) ?_
       ·
        refine rn Qa [8] [] (pc 5 (cb h10 (ih q ((nth q (Int.toNat at_)).2.1) f r hv (by have hz := ql_b hv ha hb h9; omega) (by have hz := ql_b hv ha hb h9; omega) (by have hz := ql_b hv ha hb h9; omega))) (pc 12 (ih q ((nth q (Int.toNat at_)).2.2.1) f r hv (by have hz := qr_b hv ha hb h9; omega) (by have hz := qr_b hv ha hb h9; omega) (by have hz := qr_b hv ha hb h9; omega)) p0)) ?_
        exact ⟨rfl, Qc (by rw [h10]; first | done | kernel_rfl)⟩
       ·
        refine rn Qa [8] [] (pc 5 (cb h10 (ih q ((nth q (Int.toNat at_)).2.1) f r hv (by have hz := ql_b hv ha hb h9; omega) (by have hz := ql_b hv ha hb h9; omega) (by have hz := ql_b hv ha hb h9; omega))) p0) ?_
        exact ⟨rfl, Qc (by rw [h10]; first | done | kernel_rfl)⟩
       refine Qe ?_
       exact pb [] (Qk h4 (Qk h5 (Qk h6 (Qk h8 (Q4 h9 (rfl))))))
      ·
       have h9d := X2 h9
       refine tu Qa [(77, .b ((nth q (Int.toNat at_)).1 == (7 : Int)))] [35] [] [] (p0) ?_
       refine ck ((nth q (Int.toNat at_)).1 == (7 : Int)) (fun h11 => ?_) (fun h11 => ?_)
       ·
        have h11d := eq_of_beq h11
        refine Qd ?_
        refine jn [(8, .b ((X7 n_ q ((nth q (Int.toNat at_)).2.1) f r) || (X7 n_ q ((nth q (Int.toNat at_)).2.2.1) f r)))] [0, 3, 6, 8, 9, 17, 77] [] [6, 9] (X7 n_ q ((nth q (Int.toNat at_)).2.1) f r) (fun h12 => ?_) (fun h12 => ?_) ?_
        ·
         refine rn Qa [8] [] (pc 5 (cb h12 (ih q ((nth q (Int.toNat at_)).2.1) f r hv (by have hz := ql_c hv ha hb h11; omega) (by have hz := ql_c hv ha hb h11; omega) (by have hz := ql_c hv ha hb h11; omega))) p0) ?_
         exact ⟨rfl, Qc (by rw [h12]; first | done | kernel_rfl)⟩
        ·
         refine rn Qa [8] [] (pc 5 (cb h12 (ih q ((nth q (Int.toNat at_)).2.1) f r hv (by have hz := ql_c hv ha hb h11; omega) (by have hz := ql_c hv ha hb h11; omega) (by have hz := ql_c hv ha hb h11; omega))) (pc 12 (ih q ((nth q (Int.toNat at_)).2.2.1) f r hv (by have hz := qr_c hv ha hb h11; omega) (by have hz := qr_c hv ha hb h11; omega) (by have hz := qr_c hv ha hb h11; omega)) p0)) ?_
         exact ⟨rfl, Qc (by rw [h12]; first | done | kernel_rfl)⟩
        refine Qe ?_
        exact pb [] (Qk h4 (Qk h5 (Qk h6 (Qk h8 (Qk h9 (Q4 h11 (rfl)))))))
       ·
        refine sn Qa [3, 6, 8, 9, 17, 93] [6, 9] (p0) ?_
        refine ck ((nth q (Int.toNat at_)).1 == (8 : Int)) (fun h13 => ?_) (fun h13 => ?_)
        ·
         refine tN Qa Yr [8] [] (pc 3 (implResultIDs_a r ((nth q (Int.toNat at_)).2.2.2.1)) (pc 6 (implContainsID_a (X6 r ((nth q (Int.toNat at_)).2.2.2.1)) f.1) p0)) ?_
         refine Qe ?_
         exact pb [] (Qk h4 (Qk h5 (Qk h6 (Qk h8 (Qk h9 (Qk h11 (Q4 h13 (rfl))))))))
        ·
         refine tn Qa [3, 6, 8, 9, 102] [6, 9] (p0) ?_
         refine ck ((nth q (Int.toNat at_)).1 == (9 : Int)) (fun h14 => ?_) (fun h14 => ?_)
         ·
          refine Qd ?_
          refine mz [(102, .b ((nth q (Int.toNat at_)).1 == (9 : Int)))] [0, 17, 77] [] [] ?_
          refine jn [(8, .b ((f.2.2.2.1 != (0 : Int)) && (Kd (X6 r ((nth q (Int.toNat at_)).2.2.2.1)) f.2.2.2.1)))] [3, 6, 8, 9, 102] [] [6, 9] (f.2.2.2.1 != (0 : Int)) (fun h15 => ?_) (fun h15 => ?_) ?_
          ·
           refine rN Qa Yr [8] [] (pt 2 h15 (pc 7 (implResultIDs_a r ((nth q (Int.toNat at_)).2.2.2.1)) (pc 10 (implContainsID_a (X6 r ((nth q (Int.toNat at_)).2.2.2.1)) f.2.2.2.1) p0))) ?_
           exact ⟨rfl, Qc (by rw [h15]; first | done | kernel_rfl)⟩
          ·
           refine rN Qa Yr [8] [] (pf 2 h15 p0) ?_
           exact ⟨rfl, Qc (by rw [h15]; first | done | kernel_rfl)⟩
          refine Qe ?_
          exact pb [] (Qk h4 (Qk h5 (Qk h6 (Qk h8 (Qk h9 (Qk h11 (Qk h13 (Q4 h14 (rfl)))))))))
         ·
          refine Qf ?_
          refine tu Qa [(8, .b true)] [0, 3, 6, 8, 9, 17, 77] [] [6, 9] (p0) ?_
          refine Qe ?_
          exact pb [] (Qk h4 (Qk h5 (Qk h6 (Qk h8 (Qk h9 (Qk h11 (Qk h13 (Qk h14 (rfl)))))))))
def Vj (q : (List Xv)) (f : Xy) (r : (List Qp)) : Bool := ((Qw q) && (X7 (List.length q) q ((q.length : Int) - 1) f r))
theorem implMatches_a (q : (List Xv)) (f : Xy) (r : (List Qp)) : ACalls Tryz.prog 194 [.h q, .a [.i f.1, .i f.2.1, .b f.2.2.1, .i f.2.2.2.1, .h f.2.2.2.2], .h r] (.b (Vj q f r)) := by
 refine en Qa Tryz.func194 fun w0 F0 hG => ?_
 refine sn Qa [0, 2, 4, 6] [4] (p0) ?_
 refine Qd ?_
 refine mz [(4, .p 4 0), (6, .b false)] [1] [(4, [.i f.1, .i f.2.1, .b f.2.2.1, .i f.2.2.2.1, .h f.2.2.2.2])] [] ?_
 refine jn [(6, .b ((Qw q) && (X7 (List.length q) q ((q.length : Int) - 1) f r)))] [0, 2, 4, 6] [] [4] (Qw q) (fun h1 => ?_) (fun h1 => ?_) ?_
 ·
  refine wT 0 0 .sh q (fun hw2 hl3 => ?_)
  refine rn Qa [6] [] (pc 1 (cb h1 (Wo q)) (pl 5 q (pe 6 (Zq (IntWalk.i64_in ((q.length : Int) - 1) (by omega))) (pc 9 (implmatchesAt_a (List.length q) q ((q.length : Int) - 1) f r h1 (by have := vq_len h1; omega) (by omega) (by omega)) p0)))) ?_
  exact ⟨rfl, Qc (by rw [h1]; first | done | kernel_rfl)⟩
 ·
  refine rn Qa [6] [] (pc 1 (cb h1 (Wo q)) p0) ?_
  exact ⟨rfl, Qc (by rw [h1]; first | done | kernel_rfl)⟩
 refine Qe ?_
 exact pb [] (show Vj q f r = ((Qw q) && (X7 (List.length q) q ((q.length : Int) - 1) f r)) from rfl)
def Ws (q : (List Xv)) (r : (List Qp)) (_ : Nat) (a0 : Xy) (s0 : (List Int)) : Rd ((List Int)) ((List Int)) ((List Int)) := (bif (Vj q a0 r) then (.next (s0 ++ [a0.1])) else (.next s0))
def implSelectFiles_e0 (_ : Nat) (s0 : (List Int)) : (List Int) := s0
def Ya (s_ : Q2) (q : (List Xv)) (r : (List Qp)) : (List Int) := (Out.on (Xp (Ws q r) implSelectFiles_e0 s_.2.1 0 []) (fun y0 => y0))
theorem implSelectFiles_a (s_ : Q2) (q : (List Xv)) (r : (List Qp)) : ACalls Tryz.prog 148 [.a [.h s_.1, .h s_.2.1, .i s_.2.2], .h q, .h r] (.o 0 (Ya s_ q r)) := by
 refine en Qa Tryz.func148 fun w0 F0 hG => ?_
 refine sn Qa [1, 2, 3, 6] [3] (p0) ?_
 refine tn Qa [1, 2, 3, 6, 7] [3] (p0) ?_
 refine Qd ?_
 refine tu Qa [(6, .e 0), (7, .one (.slc (.own true 640) 1 [])), (12, .h s_.2.1), (13, .i (s_.2.1.length : Int)), (14, .i 0)] [0] [] [] (pl 2 s_.2.1 p0) ?_
 refine wT 12 0 .sh s_.2.1 (fun hw1 hl2 => ?_)
 refine blL1 (Ws q r) implSelectFiles_e0 s_.2.1 [] (fun k0 s0 => [(7, .o 147203 s0), (14, .i ((k0 : Nat) : Int))]) [7, 14] (fun y0 => [(7, .o 147353 y0)]) [1, 2, 7, 12, 13, 14] (fun k0 s0 => List.length s0 ≤ k0) (Xx [(640, 147203)] (by kernel_rfl)) (by simp) (fun k0 s0 hk0 hI0 => ?_) (fun k0 s0 hk0 hI0 => ?_) (fun y0 hD0 => ?_)
 ·
  have hA0_0 := hI0.2
  obtain ⟨a0, hx0⟩ := Xl (l := s_.2.1) (i := k0) hk0
  refine su Qa [(15, .b true)] [] [] [] (pe 0 (Qs (decide_eq_true (p := ((k0 : Nat) : Int) < (s_.2.1.length : Int)) (by omega))) p0) ?_
  refine Qd ?_
  refine ckT ?_
  refine Qf ?_
  refine Qd ?_
  refine Qr ?_
  refine sn Qa [1, 2, 6, 7, 9, 12, 13, 14] [9] (pn 0 hx0 p0) ?_
  refine tn Qa [1, 2, 6, 7, 9, 12, 13, 14, 21] [9] (pc 3 (implMatches_a q a0 r) p0) ?_
  refine ck (Vj q a0 r) (fun h3 => ?_) (fun h3 => ?_)
  ·
   refine wT 7 0 (.own true 147203) s0 (fun hw4 hl5 => ?_)
   refine qu Qa [(7, .one (.slc (.own true 1664) 1 ((eL s0) ++ [[.i a0.1]])))] [7, 15] [] [] (pa s0 [a0.1] p0) ?_
   refine eqn [(7, .o 1664 (s0 ++ [a0.1]))] [7] [] [] (by rw [show ((eL s0) ++ [[.i a0.1]]) = (eL (s0 ++ [a0.1])) from Kc (rfl) (rfl)]; first | done | kernel_rfl) ?_
   refine rn Qa [1, 2, 6, 7, 12, 13, 14] [] (pe 0 (Zq (Qu k0 (by omega))) p0) ?_
   exact Exists.intro (s0 ++ [a0.1]) (And.intro (Xx [(1664, 147203)] (by kernel_rfl)) ⟨Qv hx0 (Q4 h3 (rfl)) hI0.1, by first | omega | (simp; omega) | simp⟩)
  ·
   refine Qf ?_
   refine qu Qa [(14, .i ((k0 + 1 : Nat) : Int))] [14, 15] [] [] (pe 0 (Zq (Qu k0 (by omega))) p0) ?_
   exact Exists.intro s0 (And.intro (Qc (by kernel_rfl)) ⟨Qv hx0 (Qk h3 (rfl)) hI0.1, by first | omega | (simp; omega) | simp⟩)
 ·
  have hA0_0 := hI0.2
  refine su Qa [(15, .b false)] [] [] [] (pe 0 (Qs (decide_eq_false (p := ((k0 : Nat) : Int) < (s_.2.1.length : Int)) (by omega))) p0) ?_
  refine Qd ?_
  refine ckF ?_
  refine Qz ?_
  exact Exists.intro _ (And.intro (Xx [(147203, 147353)] (by kernel_rfl)) (Xm hk0 (rfl) hI0.1))
 ·
  refine sn Qa [6] [] (p0) ?_
  refine Qe ?_
  exact po0 [] (V2 hD0 (rfl))
def specGetAttr_f0 (name : ByteArray) (_ : Nat) (a0 : AttrD) (_ : Unit) : Rd (Vp) (Unit) (Unit) := (bif (a0.1.toList == name.toList) then (.ret a0.2) else (.next ()))
def specGetAttr_e0 (_ : Nat) (_ : Unit) : Unit := ()
def Zv (f : Xy) (name : ByteArray) : Vp := (Out.on (Xp (specGetAttr_f0 name) specGetAttr_e0 f.2.2.2.2 0 ()) (fun _ => (0, 0, ⟨#[]⟩)))
theorem specGetAttr_a (f : Xy) (name : ByteArray) : ACalls Tryz.prog 18 [.a [.i f.1, .i f.2.1, .b f.2.2.1, .i f.2.2.2.1, .h f.2.2.2.2], .s name] (.a [.i ((Zv f name).1), .i ((Zv f name).2.1), .s ((Zv f name).2.2)]) := by
 refine en Qa Tryz.func18 fun w0 F0 hG => ?_
 refine sn Qa [1, 2, 4] [2, 4] (p0) ?_
 refine Qd ?_
 refine tn Qa [1, 2, 4, 5] [2, 4] (p0) ?_
 refine mz [(2, .p 2 0), (4, .p 4 0), (5, .i 0)] [0] [(2, [.i f.1, .i f.2.1, .b f.2.2.1, .i f.2.2.2.1, .h f.2.2.2.2]), (4, [.i 0, .i 0, .s ⟨#[]⟩])] [] ?_
 refine wB 2 4 .sh f.2.2.2.2 (fun hw1 hl2 => ?_)
 refine blL0b (specGetAttr_f0 name) specGetAttr_e0 f.2.2.2.2 () (fun k0 _ => [(5, .i ((k0 : Nat) : Int))]) [5] (fun _ _ => []) [] (fun _ => []) [1, 2, 5] (fun _ => []) [2] (Qc (by kernel_rfl)) (fun k0 s0 hk0 hI0 => ?_) (fun k0 s0 hk0 hI0 => ?_) (fun y0 hD0 => ?_)
 ·
  obtain ⟨a0, hx0⟩ := Xl (l := f.2.2.2.2) (i := k0) hk0
  refine Qd ?_
  refine sn Qa [1, 2, 4, 5, 10] [2, 4] (pl 3 f.2.2.2.2 (pe 4 (Qs (decide_eq_true (p := ((k0 : Nat) : Int) < (f.2.2.2.2.length : Int)) (by omega))) p0)) ?_
  refine ckT ?_
  refine Qf ?_
  refine Qd ?_
  refine Qr ?_
  refine tn Qa [1, 2, 4, 5, 20] [2, 4] (pn 3 hx0 p0) ?_
  refine ck (a0.1.toList == name.toList) (fun h3 => ?_) (fun h3 => ?_)
  ·
   refine tu Qa [] [] [(4, [.i a0.2.1, .i a0.2.2.1, .s a0.2.2.2])] [4] (pn 3 hx0 p0) ?_
   refine Qe ?_
   have hr4 : (Xp (specGetAttr_f0 name) specGetAttr_e0 f.2.2.2.2 0 ()) = .ret a0.2 := Zj hx0 (Q4 h3 (rfl)) hI0
   exact pz [] (show Zv f name = _ from on_r hr4) (fun z => .a [.i z.1, .i z.2.1, .s z.2.2])
  ·
   refine Qf ?_
   refine qu Qa [(5, .i ((k0 + 1 : Nat) : Int))] [5] [] [] (pe 1 (Zq (Qu k0 (by omega))) p0) ?_
   exact Exists.intro _ (And.intro (Qc (by kernel_rfl)) (Qv hx0 (Qk h3 (rfl)) hI0))
 ·
  refine Qd ?_
  refine sn Qa [1, 2, 4, 5, 10] [2, 4] (pl 3 f.2.2.2.2 (pe 4 (Qs (decide_eq_false (p := ((k0 : Nat) : Int) < (f.2.2.2.2.length : Int)) (by omega))) p0)) ?_
  refine ckF ?_
  refine Qz ?_
  exact Exists.intro _ (And.intro (Qc (by kernel_rfl)) (Xm hk0 (rfl) hI0))
 ·
  refine sn Qa [4] [4] (p0) ?_
  refine Qe ?_
  exact pz [] (show Zv f name = _ from V2 hD0 (rfl)) (fun z => .a [.i z.1, .i z.2.1, .s z.2.2])
def specResultIDs_f0 (name : ByteArray) (_ : Nat) (a0 : Qp) (_ : Unit) : Rd ((List Int)) (Unit) (Unit) := (bif (a0.1.toList == name.toList) then (.ret a0.2) else (.next ()))
def specResultIDs_e0 (_ : Nat) (_ : Unit) : Unit := ()
def K4 (a_ : (List Qp)) (name : ByteArray) : (List Int) := (Out.on (Xp (specResultIDs_f0 name) specResultIDs_e0 a_ 0 ()) (fun _ => []))
theorem specResultIDs_a (a_ : (List Qp)) (name : ByteArray) : ACalls Tryz.prog 58 [.h a_, .s name] (.o 0 (K4 a_ name)) := by
 refine en Qa Tryz.func58 fun w0 F0 hG => ?_
 refine sn Qa [0, 1, 4] [] (p0) ?_
 refine Qd ?_
 refine tn Qa [0, 1, 4, 5] [] (p0) ?_
 refine mz [(4, .e 0), (5, .i 0)] [] [] [] ?_
 refine wT 0 0 .sh a_ (fun hw1 hl2 => ?_)
 refine blL0 (specResultIDs_f0 name) specResultIDs_e0 a_ () (fun k0 _ => [(5, .i ((k0 : Nat) : Int))]) [5] (fun _ => []) [0, 1, 5] (Qc (by kernel_rfl)) (fun k0 s0 hk0 hI0 => ?_) (fun k0 s0 hk0 hI0 => ?_) (fun y0 hD0 => ?_)
 ·
  obtain ⟨a0, hx0⟩ := Xl (l := a_) (i := k0) hk0
  refine Qd ?_
  refine sn Qa [0, 1, 4, 5, 9] [] (pl 2 a_ (pe 3 (Qs (decide_eq_true (p := ((k0 : Nat) : Int) < (a_.length : Int)) (by omega))) p0)) ?_
  refine ckT ?_
  refine Qf ?_
  refine Qd ?_
  refine Qr ?_
  refine tn Qa [0, 1, 4, 5, 18] [] (pn 2 hx0 p0) ?_
  refine ck (a0.1.toList == name.toList) (fun h3 => ?_) (fun h3 => ?_)
  ·
   have hl4 : List.length a0.2 ≤ 1073741824 := wide_len (wide_snd (wide_get hx0 (hw1)))
   refine tu Qa [(4, .o 1600 a0.2)] [4] [] [] (pn 3 hx0 (po 6 (.flat) (px (ob_len (n := (([] : List (List PV)).length + ((eL a0.2) : List (List PV)).length)) (len_of (rfl) (X8 a0.2) (by first | omega | (simp only [List.length_cons, List.length_nil]; omega) | (simp; omega) | simp))) (px (Wi (Vv a0.2)) p0)))) ?_
   refine Qe ?_
   have hr5 : (Xp (specResultIDs_f0 name) specResultIDs_e0 a_ 0 ()) = .ret a0.2 := Zj hx0 (Q4 h3 (rfl)) hI0
   exact po0 [] (on_r hr5)
  ·
   refine Qf ?_
   refine qu Qa [(5, .i ((k0 + 1 : Nat) : Int))] [5] [] [] (pe 1 (Zq (Qu k0 (by omega))) p0) ?_
   exact Exists.intro _ (And.intro (Qc (by kernel_rfl)) (Qv hx0 (Qk h3 (rfl)) hI0))
 ·
  refine Qd ?_
  refine sn Qa [0, 1, 4, 5, 9] [] (pl 2 a_ (pe 3 (Qs (decide_eq_false (p := ((k0 : Nat) : Int) < (a_.length : Int)) (by omega))) p0)) ?_
  refine ckF ?_
  refine Qz ?_
  exact Exists.intro _ (And.intro (Qc (by kernel_rfl)) (Xm hk0 (rfl) hI0))
 ·
  refine sn Qa [4] [] (p0) ?_
  refine Qe ?_
  exact po0 [] (V2 hD0 (rfl))
def V3 (id : Int) (_ : Nat) (a0 : Int) (_ : Unit) : Rd (Bool) (Unit) (Unit) := (bif (a0 == id) then (.ret true) else (.next ()))
def specContainsID_e0 (_ : Nat) (_ : Unit) : Unit := ()
def Yv (ids : (List Int)) (id : Int) : Bool := (Out.on (Xp (V3 id) specContainsID_e0 ids 0 ()) (fun _ => false))
theorem Vk (ids : (List Int)) (id : Int) : ACalls Tryz.prog 64 [.h ids, .i id] (.b (Yv ids id)) := by
 refine en Qa Tryz.func64 fun w0 F0 hG => ?_
 refine sn Qa [0, 1, 4] [] (p0) ?_
 refine Qd ?_
 refine tn Qa [0, 1, 4, 5] [] (p0) ?_
 refine mz [(4, .b false), (5, .i 0)] [] [] [] ?_
 refine wT 0 0 .sh ids (fun hw1 hl2 => ?_)
 refine blL0 (V3 id) specContainsID_e0 ids () (fun k0 _ => [(5, .i ((k0 : Nat) : Int))]) [5] (fun _ => []) [0, 1, 5] (Qc (by kernel_rfl)) (fun k0 s0 hk0 hI0 => ?_) (fun k0 s0 hk0 hI0 => ?_) (fun y0 hD0 => ?_)
 ·
  obtain ⟨a0, hx0⟩ := Xl (l := ids) (i := k0) hk0
  refine Qd ?_
  refine sn Qa [0, 1, 4, 5, 9] [] (pl 2 ids (pe 3 (Qs (decide_eq_true (p := ((k0 : Nat) : Int) < (ids.length : Int)) (by omega))) p0)) ?_
  refine ckT ?_
  refine Qf ?_
  refine Qd ?_
  refine Qr ?_
  refine tn Qa [0, 1, 4, 5, 17] [] (pn 2 hx0 p0) ?_
  refine ck (a0 == id) (fun h3 => ?_) (fun h3 => ?_)
  ·
   refine tu Qa [(4, .b true)] [4] [] [] (p0) ?_
   refine Qe ?_
   have hr4 : (Xp (V3 id) specContainsID_e0 ids 0 ()) = .ret true := Zj hx0 (Q4 h3 (rfl)) hI0
   exact pb [] (on_r hr4)
  ·
   have h3d := X2 h3
   refine Qf ?_
   refine qu Qa [(5, .i ((k0 + 1 : Nat) : Int))] [5] [] [] (pe 1 (Zq (Qu k0 (by omega))) p0) ?_
   exact Exists.intro _ (And.intro (Qc (by kernel_rfl)) (Qv hx0 (Qk h3 (rfl)) hI0))
 ·
  refine Qd ?_
  refine sn Qa [0, 1, 4, 5, 9] [] (pl 2 ids (pe 3 (Qs (decide_eq_false (p := ((k0 : Nat) : Int) < (ids.length : Int)) (by omega))) p0)) ?_
  refine ckF ?_
  refine Qz ?_
  exact Exists.intro _ (And.intro (Qc (by kernel_rfl)) (Xm hk0 (rfl) hI0))
 ·
  refine sn Qa [4] [] (p0) ?_
  refine Qe ?_
  exact pb [] (V2 hD0 (rfl))
def Jd (n_ : Nat) (q : (List Xv)) (at_ : Int) (f : Xy) (a_ : (List Qp)) : Bool := match n_ with
 | 0 => default
 | n_ + 1 => (bif ((nth q (Int.toNat at_)).1 == (1 : Int)) then true else (bif ((nth q (Int.toNat at_)).1 == (2 : Int)) then ((Zv f ((nth q (Int.toNat at_)).2.2.2.1)).1 != (0 : Int)) else (bif ((nth q (Int.toNat at_)).1 == (3 : Int)) then (((Zv f ((nth q (Int.toNat at_)).2.2.2.1)).1 == (nth q (Int.toNat at_)).2.2.2.2.1) && (((Zv f ((nth q (Int.toNat at_)).2.2.2.1)).2.1 == (nth q (Int.toNat at_)).2.2.2.2.2.1) && ((((Zv f ((nth q (Int.toNat at_)).2.2.2.1)).2.2).toList == ((nth q (Int.toNat at_)).2.2.2.2.2.2).toList) && true))) else (bif ((nth q (Int.toNat at_)).1 == (4 : Int)) then (((Zv f ((nth q (Int.toNat at_)).2.2.2.1)).1 == (1 : Int)) && decide ((Zv f ((nth q (Int.toNat at_)).2.2.2.1)).2.1 < (nth q (Int.toNat at_)).2.2.2.2.2.1)) else (bif ((nth q (Int.toNat at_)).1 == (5 : Int)) then (!(Jd n_ q ((nth q (Int.toNat at_)).2.1) f a_)) else (bif ((nth q (Int.toNat at_)).1 == (6 : Int)) then ((Jd n_ q ((nth q (Int.toNat at_)).2.1) f a_) && (Jd n_ q ((nth q (Int.toNat at_)).2.2.1) f a_)) else (bif ((nth q (Int.toNat at_)).1 == (7 : Int)) then ((Jd n_ q ((nth q (Int.toNat at_)).2.1) f a_) || (Jd n_ q ((nth q (Int.toNat at_)).2.2.1) f a_)) else (bif ((nth q (Int.toNat at_)).1 == (8 : Int)) then (Yv (K4 a_ ((nth q (Int.toNat at_)).2.2.2.1)) f.1) else ((f.2.2.2.1 != (0 : Int)) && (Yv (K4 a_ ((nth q (Int.toNat at_)).2.2.2.1)) f.2.2.2.1))))))))))
theorem specl14Node_a : ∀ (n_ : Nat) (q : (List Xv)) (at_ : Int) (f : Xy) (a_ : (List Qp)) (hv : Qw q = true) (ha : 0 ≤ at_) (hb : at_ < (q.length : Int)) (hn : at_ < ((n_ : Nat) : Int)), ACalls Tryz.prog 236 [.h q, .i at_, .a [.i f.1, .i f.2.1, .b f.2.2.1, .i f.2.2.2.1, .h f.2.2.2.2], .h a_] (.b (Jd n_ q at_ f a_)) := by
 intro n_
 induction n_ with
 | zero => intro q at_ f a_ hv ha hb hn; exact (by omega : False).elim
 | succ n_ ih =>
  intro q at_ f a_ hv ha hb hn
  refine en Qa Tryz.func236 fun w0 F0 hG => ?_
  refine sn Qa [0, 1, 3, 6, 8] [6] (p0) ?_
  refine wT 0 0 .sh q (fun hw2 hl3 => ?_)
  have hx1 := ng q (Int.toNat at_)
  refine tn Qa [0, 3, 6, 8, 9] [6, 9] (pg 2 at_ hx1 p0) ?_
  refine tu Qa [(6, .p 6 0), (8, .b false), (9, .p 9 0), (10, .p 10 0)] [1, 2] [(6, [.i f.1, .i f.2.1, .b f.2.2.1, .i f.2.2.2.1, .h f.2.2.2.2]), (9, [.i ((nth q (Int.toNat at_)).1), .i ((nth q (Int.toNat at_)).2.1), .i ((nth q (Int.toNat at_)).2.2.1), .s ((nth q (Int.toNat at_)).2.2.2.1), .i ((nth q (Int.toNat at_)).2.2.2.2.1), .i ((nth q (Int.toNat at_)).2.2.2.2.2.1), .s ((nth q (Int.toNat at_)).2.2.2.2.2.2)]), (10, [.i ((Zv f ((nth q (Int.toNat at_)).2.2.2.1)).1), .i ((Zv f ((nth q (Int.toNat at_)).2.2.2.1)).2.1), .s ((Zv f ((nth q (Int.toNat at_)).2.2.2.1)).2.2)])] [] (pc 3 (specGetAttr_a f ((nth q (Int.toNat at_)).2.2.2.1)) p0) ?_
  refine Qd ?_
  refine sn Qa [0, 3, 6, 8, 9, 10, 20] [6, 9, 10] (p0) ?_
  refine Qr ?_
  refine tn Qa [0, 3, 6, 8, 9, 10, 20, 21] [6, 9, 10] (p0) ?_
  refine ck ((nth q (Int.toNat at_)).1 == (1 : Int)) (fun h4 => ?_) (fun h4 => ?_)
  ·
   refine tu Qa [(8, .b true)] [0, 8, 10] [] [10] (p0) ?_
   refine Qe ?_
   exact pb [] (Q4 h4 (rfl))
  ·
   have h4d := X2 h4
   refine tu Qa [(20, .i ((nth q (Int.toNat at_)).1)), (23, .b ((nth q (Int.toNat at_)).1 == (2 : Int)))] [] [] [] (p0) ?_
   refine ck ((nth q (Int.toNat at_)).1 == (2 : Int)) (fun h5 => ?_) (fun h5 => ?_)
   ·
    refine sn Qa [3, 6, 8, 9] [6, 9] (p0) ?_
    refine Qe ?_
    exact pb [] (Qk h4 (Q4 h5 (rfl)))
   ·
    have h5d := X2 h5
    refine sn Qa [0, 3, 6, 8, 9, 10, 20, 28] [6, 9, 10] (p0) ?_
    refine ck ((nth q (Int.toNat at_)).1 == (3 : Int)) (fun h6 => ?_) (fun h6 => ?_)
    ·
     refine tn Qa [3, 6, 8, 9] [6, 9] (p0) ?_
     refine Qe ?_
     exact pb [] (Qk h4 (Qk h5 (Q4 h6 (rfl))))
    ·
     have h6d := X2 h6
     refine tn Qa [0, 3, 6, 8, 9, 10, 20, 34] [6, 9, 10] (p0) ?_
     refine ck ((nth q (Int.toNat at_)).1 == (4 : Int)) (fun h7 => ?_) (fun h7 => ?_)
     ·
      refine Qd ?_
      refine mz [(34, .b ((nth q (Int.toNat at_)).1 == (4 : Int)))] [23] [] [] ?_
      refine jn [(8, .b (((Zv f ((nth q (Int.toNat at_)).2.2.2.1)).1 == (1 : Int)) && decide ((Zv f ((nth q (Int.toNat at_)).2.2.2.1)).2.1 < (nth q (Int.toNat at_)).2.2.2.2.2.1)))] [0, 8, 10, 20, 34] [] [10] ((Zv f ((nth q (Int.toNat at_)).2.2.2.1)).1 == (1 : Int)) (fun h8 => ?_) (fun h8 => ?_) ?_
      ·
       refine rn Qa [3, 6, 8, 9] [6, 9] (pt 2 h8 p0) ?_
       exact ⟨rfl, Qc (by rw [h8]; first | done | kernel_rfl)⟩
      ·
       refine rn Qa [3, 6, 8, 9] [6, 9] (pf 2 h8 p0) ?_
       exact ⟨rfl, Qc (by rw [h8]; first | done | kernel_rfl)⟩
      refine Qe ?_
      exact pb [] (Qk h4 (Qk h5 (Qk h6 (Q4 h7 (rfl)))))
     ·
      have h7d := X2 h7
      refine tu Qa [(47, .b ((nth q (Int.toNat at_)).1 == (5 : Int)))] [10, 23] [] [10] (p0) ?_
      refine ck ((nth q (Int.toNat at_)).1 == (5 : Int)) (fun h9 => ?_) (fun h9 => ?_)
      ·
       have h9d := eq_of_beq h9
       refine sn Qa [3, 6, 8, 9] [6, 9] (pc 5 (ih q ((nth q (Int.toNat at_)).2.1) f a_ hv (by have hz := ql_a hv ha hb h9; omega) (by have hz := ql_a hv ha hb h9; omega) (by have hz := ql_a hv ha hb h9; omega)) p0) ?_
       refine Qe ?_
       exact pb [] (Qk h4 (Qk h5 (Qk h6 (Qk h7 (Q4 h9 (rfl))))))
      ·
       have h9d := X2 h9
       refine sn Qa [0, 3, 6, 8, 9, 20, 56] [6, 9] (p0) ?_
       refine ck ((nth q (Int.toNat at_)).1 == (6 : Int)) (fun h10 => ?_) (fun h10 => ?_)
       ·
        have h10d := eq_of_beq h10
        refine Qd ?_
        refine mz [(56, .b ((nth q (Int.toNat at_)).1 == (6 : Int)))] [47] [] [] ?_
        refine jn [(8, .b ((Jd n_ q ((nth q (Int.toNat at_)).2.1) f a_) && (Jd n_ q ((nth q (Int.toNat at_)).2.2.1) f a_)))] [0, 8, 20, 56] [] [] (Jd n_ q ((nth q (Int.toNat at_)).2.1) f a_) (fun h11 => ?_) (fun h11 => ?_) ?_
        ·
         refine rn Qa [3, 6, 8, 9] [6, 9] (pc 5 (cb h11 (ih q ((nth q (Int.toNat at_)).2.1) f a_ hv (by have hz := ql_b hv ha hb h10; omega) (by have hz := ql_b hv ha hb h10; omega) (by have hz := ql_b hv ha hb h10; omega))) (pc 12 (ih q ((nth q (Int.toNat at_)).2.2.1) f a_ hv (by have hz := qr_b hv ha hb h10; omega) (by have hz := qr_b hv ha hb h10; omega) (by have hz := qr_b hv ha hb h10; omega)) p0)) ?_
         exact ⟨rfl, Qc (by rw [h11]; first | done | kernel_rfl)⟩
        ·
         refine rn Qa [3, 6, 8, 9] [6, 9] (pc 5 (cb h11 (ih q ((nth q (Int.toNat at_)).2.1) f a_ hv (by have hz := ql_b hv ha hb h10; omega) (by have hz := ql_b hv ha hb h10; omega) (by have hz := ql_b hv ha hb h10; omega))) p0) ?_
         exact ⟨rfl, Qc (by rw [h11]; first | done | kernel_rfl)⟩
        refine Qe ?_
        exact pb [] (Qk h4 (Qk h5 (Qk h6 (Qk h7 (Qk h9 (Q4 h10 (rfl)))))))
       ·
        have h10d := X2 h10
        refine tn Qa [0, 3, 6, 8, 9, 20, 72] [6, 9] (p0) ?_
        refine ck ((nth q (Int.toNat at_)).1 == (7 : Int)) (fun h12 => ?_) (fun h12 => ?_)
        ·
         have h12d := eq_of_beq h12
         refine Qd ?_
         refine mz [(72, .b ((nth q (Int.toNat at_)).1 == (7 : Int)))] [47] [] [] ?_
         refine jn [(8, .b ((Jd n_ q ((nth q (Int.toNat at_)).2.1) f a_) || (Jd n_ q ((nth q (Int.toNat at_)).2.2.1) f a_)))] [0, 8, 20, 72] [] [] (Jd n_ q ((nth q (Int.toNat at_)).2.1) f a_) (fun h13 => ?_) (fun h13 => ?_) ?_
         ·
          refine rn Qa [3, 6, 8, 9] [6, 9] (pc 5 (cb h13 (ih q ((nth q (Int.toNat at_)).2.1) f a_ hv (by have hz := ql_c hv ha hb h12; omega) (by have hz := ql_c hv ha hb h12; omega) (by have hz := ql_c hv ha hb h12; omega))) p0) ?_
          exact ⟨rfl, Qc (by rw [h13]; first | done | kernel_rfl)⟩
         ·
          refine rn Qa [3, 6, 8, 9] [6, 9] (pc 5 (cb h13 (ih q ((nth q (Int.toNat at_)).2.1) f a_ hv (by have hz := ql_c hv ha hb h12; omega) (by have hz := ql_c hv ha hb h12; omega) (by have hz := ql_c hv ha hb h12; omega))) (pc 12 (ih q ((nth q (Int.toNat at_)).2.2.1) f a_ hv (by have hz := qr_c hv ha hb h12; omega) (by have hz := qr_c hv ha hb h12; omega) (by have hz := qr_c hv ha hb h12; omega)) p0)) ?_
          exact ⟨rfl, Qc (by rw [h13]; first | done | kernel_rfl)⟩
         refine Qe ?_
         exact pb [] (Qk h4 (Qk h5 (Qk h6 (Qk h7 (Qk h9 (Qk h10 (Q4 h12 (rfl))))))))
        ·
         refine tu Qa [(88, .b ((nth q (Int.toNat at_)).1 == (8 : Int)))] [0, 20, 47] [] [] (p0) ?_
         refine ck ((nth q (Int.toNat at_)).1 == (8 : Int)) (fun h14 => ?_) (fun h14 => ?_)
         ·
          refine sN Qa Yr [3, 6, 8, 9] [6, 9] (pc 3 (specResultIDs_a a_ ((nth q (Int.toNat at_)).2.2.2.1)) (pc 6 (Vk (K4 a_ ((nth q (Int.toNat at_)).2.2.2.1)) f.1) p0)) ?_
          refine Qe ?_
          exact pb [] (Qk h4 (Qk h5 (Qk h6 (Qk h7 (Qk h9 (Qk h10 (Qk h12 (Q4 h14 (rfl)))))))))
         ·
          refine Qf ?_
          refine Qd ?_
          refine jn [(8, .b ((f.2.2.2.1 != (0 : Int)) && (Yv (K4 a_ ((nth q (Int.toNat at_)).2.2.2.1)) f.2.2.2.1)))] [3, 6, 8, 9, 88] [] [6, 9] (f.2.2.2.1 != (0 : Int)) (fun h15 => ?_) (fun h15 => ?_) ?_
          ·
           refine rN Qa Yr [8] [] (pt 2 h15 (pc 7 (specResultIDs_a a_ ((nth q (Int.toNat at_)).2.2.2.1)) (pc 10 (Vk (K4 a_ ((nth q (Int.toNat at_)).2.2.2.1)) f.2.2.2.1) p0))) ?_
           exact ⟨rfl, Qc (by rw [h15]; first | done | kernel_rfl)⟩
          ·
           refine rN Qa Yr [8] [] (pf 2 h15 p0) ?_
           exact ⟨rfl, Qc (by rw [h15]; first | done | kernel_rfl)⟩
          refine Qe ?_
          exact pb [] (Qk h4 (Qk h5 (Qk h6 (Qk h7 (Qk h9 (Qk h10 (Qk h12 (Qk h14 (rfl)))))))))
def specMatches (q : (List Xv)) (f : Xy) (a_ : (List Qp)) : Bool := ((Yc q) && (Jd (List.length q) q ((q.length : Int) - 1) f a_))
theorem specMatches_a (q : (List Xv)) (f : Xy) (a_ : (List Qp)) : ACalls Tryz.prog 180 [.h q, .a [.i f.1, .i f.2.1, .b f.2.2.1, .i f.2.2.2.1, .h f.2.2.2.2], .h a_] (.b (specMatches q f a_)) := by
 refine en Qa Tryz.func180 fun w0 F0 hG => ?_
 refine sn Qa [0, 2, 4, 6] [4] (p0) ?_
 refine Qd ?_
 refine mz [(4, .p 4 0), (6, .b false)] [1] [(4, [.i f.1, .i f.2.1, .b f.2.2.1, .i f.2.2.2.1, .h f.2.2.2.2])] [] ?_
 refine jn [(6, .b ((Yc q) && (Jd (List.length q) q ((q.length : Int) - 1) f a_)))] [0, 2, 4, 6] [] [4] (Yc q) (fun h1 => ?_) (fun h1 => ?_) ?_
 ·
  refine wT 0 0 .sh q (fun hw2 hl3 => ?_)
  refine rn Qa [6] [] (pc 1 (cb h1 (Va q)) (pl 5 q (pe 6 (Zq (IntWalk.i64_in ((q.length : Int) - 1) (by omega))) (pc 9 (specl14Node_a (List.length q) q ((q.length : Int) - 1) f a_ (vq_spec h1) (by have := vq_len (vq_spec h1); omega) (by omega) (by omega)) p0)))) ?_
  exact ⟨rfl, Qc (by rw [h1]; first | done | kernel_rfl)⟩
 ·
  refine rn Qa [6] [] (pc 1 (cb h1 (Va q)) p0) ?_
  exact ⟨rfl, Qc (by rw [h1]; first | done | kernel_rfl)⟩
 refine Qe ?_
 exact pb [] (show specMatches q f a_ = ((Yc q) && (Jd (List.length q) q ((q.length : Int) - 1) f a_)) from rfl)
def specSelectFiles_f0 (q : (List Xv)) (a_ : (List Qp)) (_ : Nat) (a0 : Xy) (s0 : (List Int)) : Rd ((List Int)) ((List Int)) ((List Int)) := (bif (specMatches q a0 a_) then (.next (s0 ++ [a0.1])) else (.next s0))
def specSelectFiles_e0 (_ : Nat) (s0 : (List Int)) : (List Int) := s0
def Y2 (s_ : Q2) (q : (List Xv)) (a_ : (List Qp)) : (List Int) := (Out.on (Xp (specSelectFiles_f0 q a_) specSelectFiles_e0 s_.2.1 0 []) (fun y0 => y0))
theorem specSelectFiles_a (s_ : Q2) (q : (List Xv)) (a_ : (List Qp)) : ACalls Tryz.prog 135 [.a [.h s_.1, .h s_.2.1, .i s_.2.2], .h q, .h a_] (.o 0 (Y2 s_ q a_)) := by
 refine en Qa Tryz.func135 fun w0 F0 hG => ?_
 refine sn Qa [1, 2, 3, 6] [3] (p0) ?_
 refine tn Qa [1, 2, 3, 6, 7] [3] (p0) ?_
 refine Qd ?_
 refine tu Qa [(3, .p 3 0), (6, .e 0), (7, .one (.slc (.own true 576) 1 [])), (8, .i 0)] [0] [(3, [.h s_.1, .h s_.2.1, .i s_.2.2])] [] (p0) ?_
 refine wB 3 1 .sh s_.2.1 (fun hw1 hl2 => ?_)
 refine blL1b (specSelectFiles_f0 q a_) specSelectFiles_e0 s_.2.1 [] (fun k0 s0 => [(7, .o 147204 s0), (8, .i ((k0 : Nat) : Int))]) [7, 8] (fun _ _ => []) [] (fun y0 => [(7, .o 147354 y0)]) [1, 2, 3, 7, 8] (fun _ => []) [3] (fun k0 s0 => List.length s0 ≤ k0) (Xx [(576, 147204)] (by kernel_rfl)) (by simp) (fun k0 s0 hk0 hI0 => ?_) (fun k0 s0 hk0 hI0 => ?_) (fun y0 hD0 => ?_)
 ·
  have hA0_0 := hI0.2
  obtain ⟨a0, hx0⟩ := Xl (l := s_.2.1) (i := k0) hk0
  refine Qd ?_
  refine su Qa [(14, .b true)] [] [] [] (pl 3 s_.2.1 (pe 4 (Qs (decide_eq_true (p := ((k0 : Nat) : Int) < (s_.2.1.length : Int)) (by omega))) p0)) ?_
  refine ckT ?_
  refine Qf ?_
  refine Qd ?_
  refine Qr ?_
  refine sn Qa [1, 2, 3, 6, 7, 8, 24] [3] (pn 4 hx0 (pc 7 (specMatches_a q a0 a_) p0)) ?_
  refine ck (specMatches q a0 a_) (fun h3 => ?_) (fun h3 => ?_)
  ·
   refine wT 7 0 (.own true 147204) s0 (fun hw4 hl5 => ?_)
   refine qu Qa [(7, .one (.slc (.own true 2112) 1 ((eL s0) ++ [[.i a0.1]])))] [7, 14] [] [] (pn 4 hx0 (pa s0 [a0.1] p0)) ?_
   refine eqn [(7, .o 2112 (s0 ++ [a0.1]))] [7] [] [] (by rw [show ((eL s0) ++ [[.i a0.1]]) = (eL (s0 ++ [a0.1])) from Kc (rfl) (rfl)]; first | done | kernel_rfl) ?_
   refine rn Qa [1, 2, 3, 6, 7, 8] [3] (pe 1 (Zq (Qu k0 (by omega))) p0) ?_
   exact Exists.intro (s0 ++ [a0.1]) (And.intro (Xx [(2112, 147204)] (by kernel_rfl)) ⟨Qv hx0 (Q4 h3 (rfl)) hI0.1, by first | omega | (simp; omega) | simp⟩)
  ·
   refine Qf ?_
   refine qn Qa [1, 2, 3, 6, 7, 8] [3] (pe 1 (Zq (Qu k0 (by omega))) p0) ?_
   exact Exists.intro s0 (And.intro (Qc (by kernel_rfl)) ⟨Qv hx0 (Qk h3 (rfl)) hI0.1, by first | omega | (simp; omega) | simp⟩)
 ·
  have hA0_0 := hI0.2
  refine Qd ?_
  refine su Qa [(14, .b false)] [] [] [] (pl 3 s_.2.1 (pe 4 (Qs (decide_eq_false (p := ((k0 : Nat) : Int) < (s_.2.1.length : Int)) (by omega))) p0)) ?_
  refine ckF ?_
  refine Qz ?_
  exact Exists.intro _ (And.intro (Xx [(147204, 147354)] (by kernel_rfl)) (Xm hk0 (rfl) hI0.1))
 ·
  refine sn Qa [6] [] (p0) ?_
  refine Qe ?_
  exact po0 [] (V2 hD0 (rfl))
end Go.Proofs.YtcnkkobgogmakaaGreat
namespace Go.Proofs.YtcnkkobgogmakaaGreat
open Go.RowKit
theorem cid_eq (l : List Int) (x : Int) : Kd l x = Yv l x := by
  unfold Kd Z8 slicesIndex_int Yv
  have key : ∀ (l : List Int) (k : Nat), decide (((Xp (Z7 x) Vd l k ()).on fun _ => -1) ≥ 0) = ((Xp (V3 x) specContainsID_e0 l k ()).on fun _ => false) := by
    intro l
    induction l with
    | nil => intro k; rfl
    | cons a l ih =>
      intro k
      by_cases h : x = a
      · subst h; simp [Xp, Z7, V3, Out.on]
      · have e1 : (x == a) = false := beq_eq_false_iff_ne.2 h
        have e2 : (a == x) = false := beq_eq_false_iff_ne.2 (Ne.symm h)
        simp only [Xp, Z7, V3, e1, e2, cond_false]
        exact ih (k + 1)
  exact key l 0
theorem rids_eq (r : List Qp) (s : ByteArray) : X6 r s = K4 r s := rfl
theorem attr_eq (f : Xy) (s : ByteArray) : Zo f s = Zv f s := rfl
theorem vn_op {n : Xv} {k : Int} (h : Y1 n k = true) : n.1 = 1 ∨ n.1 = 2 ∨ n.1 = 3 ∨ n.1 = 4 ∨ n.1 = 5 ∨ n.1 = 6 ∨ n.1 = 7 ∨ n.1 = 8 ∨ n.1 = 9 := by
  refine Classical.byContradiction fun hn => ?_
  simp only [not_or] at hn
  obtain ⟨h1, h2, h3, h4, h5, h6, h7, h8, h9⟩ := hn
  unfold Y1 at h
  simp only [beq_eq_false_iff_ne.2 h1, beq_eq_false_iff_ne.2 h2, beq_eq_false_iff_ne.2 h3, beq_eq_false_iff_ne.2 h4, beq_eq_false_iff_ne.2 h5, beq_eq_false_iff_ne.2 h6, beq_eq_false_iff_ne.2 h7, beq_eq_false_iff_ne.2 h8, beq_eq_false_iff_ne.2 h9, cond_false] at h
  cases h
theorem match_eq {q : List Xv} (hv : Qw q = true) (f : Xy) (r : List Qp) : ∀ (n : Nat) (k : Int), 0 ≤ k → k < (q.length : Int) → X7 n q k f r = Jd n q k f r
  | 0, _, _, _ => rfl
  | n + 1, k, h0, h1 => by
    have hn := vq_node hv (Ur (l := q) (i := Int.toNat k) (by omega))
    rw [Int.toNat_of_nonneg h0] at hn
    obtain ⟨hl, hr⟩ := vq_kids hv h0 h1
    unfold X7 Jd
    have ih := match_eq hv f r n
    unfold Vh
    simp only [attr_eq, rids_eq, cid_eq]
    generalize nth q (Int.toNat k) = m at hn hl hr ⊢
    rcases vn_op hn with h | h | h | h | h | h | h | h | h
    · simp [h]
    · simp [h]
    · simp [h]
    · rw [h]
      cases hz : ((Zv f m.2.2.2.1).1 == (1 : Int)) with
      | true => simp [bne, hz]
      | false => simp [bne, hz]
    · simp [h, ih _ (hl (by simp [h])).1 (by have := (hl (by simp [h])).2; omega)]
    · simp [h, ih _ (hl (by simp [h])).1 (by have := (hl (by simp [h])).2; omega), ih _ (hr (by simp [h])).1 (by have := (hr (by simp [h])).2; omega)]
    · simp [h, ih _ (hl (by simp [h])).1 (by have := (hl (by simp [h])).2; omega), ih _ (hr (by simp [h])).1 (by have := (hr (by simp [h])).2; omega)]
    · simp [h]
    · simp [h]
theorem matches_eq (q : List Xv) (f : Xy) (r : List Qp) : Vj q f r = specMatches q f r := by
  unfold Vj specMatches
  rw [← vq_eq]
  cases hv : Qw q with
  | false => rfl
  | true => rw [match_eq hv f r _ _ (by have := vq_len hv; omega) (by omega)]
theorem select_eq (s : Q2) (q : List Xv) (r : List Qp) : Ya s q r = Y2 s q r := by
  unfold Ya Y2
  rw [forL_ext (f := Ws q r) (g := specSelectFiles_f0 q r) (e := implSelectFiles_e0) (e' := specSelectFiles_e0) (fun i a s => by
    unfold Ws specSelectFiles_f0
    rw [matches_eq]) (fun _ _ => rfl)]
end Go.Proofs.YtcnkkobgogmakaaGreat
namespace Go.Proofs.YtcnkkobgogmakaaGreat
section
variable {φ : Type} (fs : List φ) (idOf : φ → Int)
def sel (p : φ → Bool) : List Int := (fs.filter p).map idOf
theorem filter_grow {p q : φ → Bool} : ∀ (l : List φ), (∀ f, f ∈ l → p f = true → q f = true) → (l.filter p).length ≤ (l.filter q).length ∧ ((l.filter q).length ≤ (l.filter p).length → l.filter p = l.filter q)
  | [], _ => ⟨Nat.le_refl _, fun _ => rfl⟩
  | f :: l, h => by
    obtain ⟨h1, h2⟩ := filter_grow l fun g hg => h g (List.mem_cons_of_mem _ hg)
    have h0 := h f (List.mem_cons_self ..)
    cases hp : p f with
    | true =>
      have hq := h0 hp
      simp only [List.filter_cons, hp, hq, if_true, List.length_cons]
      exact ⟨by omega, fun hl => by rw [h2 (by omega)]⟩
    | false =>
      cases hq : q f with
      | true =>
        simp only [List.filter_cons, hp, hq, if_true, List.length_cons, Bool.false_eq_true, if_false]
        exact ⟨by omega, fun hl => absurd hl (by omega)⟩
      | false =>
        simp only [List.filter_cons, hp, hq, Bool.false_eq_true, if_false]
        exact ⟨h1, h2⟩
theorem sel_len (p : φ → Bool) : (sel fs idOf p).length ≤ fs.length := by
  unfold sel; rw [List.length_map]; exact List.length_filter_le _ _
variable {fs idOf}
theorem sel_grow {p q : φ → Bool} (h : ∀ f, f ∈ fs → p f = true → q f = true) (hn : sel fs idOf p ≠ sel fs idOf q) : (sel fs idOf p).length + 1 ≤ (sel fs idOf q).length := by
  obtain ⟨h1, h2⟩ := filter_grow fs h
  unfold sel at hn ⊢
  rw [List.length_map, List.length_map]
  refine Nat.lt_of_le_of_ne h1 fun e => hn ?_
  rw [h2 (by omega)]
theorem sel_sub {p q : φ → Bool} (h : ∀ f, f ∈ fs → p f = true → q f = true) {x : Int} (hx : x ∈ sel fs idOf p) : x ∈ sel fs idOf q := by
  unfold sel at hx ⊢
  obtain ⟨f, hf, rfl⟩ := List.mem_map.1 hx
  obtain ⟨h1, h2⟩ := List.mem_filter.1 hf
  exact List.mem_map.2 ⟨f, List.mem_filter.2 ⟨h1, h f h1 h2⟩, rfl⟩
end
abbrev CD := ByteArray × List Int
def putC (out : List CD) (k : Nat) (ids : List Int) : List CD := out.set k ((nth out k).1, ids)
theorem nth_setC {out : List CD} {k : Nat} (x : CD) (hk : k < out.length) (j : Nat) : nth (out.set k x) j = if j = k then x else nth out j := by
  unfold nth
  simp only [List.getD_eq_getElem?_getD, List.getElem?_set]
  by_cases h : k = j
  · subst h; simp [hk]
  · simp [h, Ne.symm h]
theorem putC_names {out : List CD} {k : Nat} (ids : List Int) (hk : k < out.length) : (putC out k ids).map (·.1) = out.map (·.1) := by
  unfold putC
  rw [List.map_set]
  refine List.ext_getElem (by simp) fun i h1 h2 => ?_
  rw [List.getElem_set]
  split
  · rename_i h; subst h; simp [nth, List.getD, hk]
  · rfl
def room (B : Nat) (act : Nat → Bool) : Nat → List CD → Nat
  | _, [] => 0
  | k, r :: l => (bif act k then B - r.2.length else 0) + room B act (k + 1) l
theorem room_le (B : Nat) (act : Nat → Bool) : ∀ (l : List CD) (k : Nat), room B act k l ≤ l.length * B
  | [], k => by simp [room]
  | r :: l, k => by
    have := room_le B act l (k + 1)
    simp only [room, List.length_cons, Nat.add_mul, Nat.one_mul]
    cases act k with
    | true => simp only [cond_true]; omega
    | false => simp only [cond_false]; omega
theorem room_set (B : Nat) (act : Nat → Bool) (x : CD) : ∀ (l : List CD) (k i : Nat), i < l.length → act (k + i) = true → (nth l i).2.length + 1 ≤ x.2.length → x.2.length ≤ B → room B act k (l.set i x) + 1 ≤ room B act k l
  | [], k, i, hi, _, _, _ => by simp at hi
  | r :: l, k, 0, _, ha, h1, h2 => by
    have e : nth (r :: l) 0 = r := rfl
    rw [e] at h1
    rw [Nat.add_zero] at ha
    simp only [List.set, room, ha, cond_true]
    omega
  | r :: l, k, i + 1, hi, ha, h1, h2 => by
    have := room_set B act x l (k + 1) i (by simpa using hi) (by rwa [show k + 1 + i = k + (i + 1) by omega]) h1 h2
    simp only [List.set, room]
    omega
section
variable {φ : Type} {fs : List φ} {idOf : φ → Int} (m : Nat → List CD → φ → Bool) (act : Nat → Bool)
def LeC (a b : List CD) : Prop := ∀ j, (∀ x, x ∈ (nth a j).2 → x ∈ (nth b j).2) ∧ (act j = false → (nth a j).2 = (nth b j).2)
variable (fs idOf)
def GoodC (out : List CD) : Prop := ∀ k, k < out.length → act k = true → ∃ p : φ → Bool, (nth out k).2 = sel fs idOf p ∧ ∀ f, f ∈ fs → p f = true → m k out f = true
def MonoC (nm : List ByteArray) : Prop := ∀ a b : List CD, a.map (·.1) = nm → b.map (·.1) = nm → LeC act a b → ∀ k, k < nm.length → act k = true → ∀ f, f ∈ fs → m k a f = true → m k b f = true
def stepC (s : List CD × Bool) (k : Nat) : List CD × Bool := bif act k then (if sel fs idOf (m k s.1) = (nth s.1 k).2 then s else (putC s.1 k (sel fs idOf (m k s.1)), true)) else s
def passC (ks : List Nat) (s : List CD × Bool) : List CD × Bool := ks.foldl (stepC fs idOf m act) s
variable {fs idOf m act} {nm : List ByteArray}
structure StateC (fs : List φ) (idOf : φ → Int) (m : Nat → List CD → φ → Bool) (act : Nat → Bool) (nm : List ByteArray) (o out : List CD) : Prop where
  names : out.map (·.1) = nm
  good : GoodC fs idOf m act out
  rest : ∀ j, act j = false → nth out j = nth o j
theorem stepC_ok (hm : MonoC fs m act nm) {o : List CD} {s : List CD × Bool} (h : StateC fs idOf m act nm o s.1) {k : Nat} (hk : k < nm.length) :
    StateC fs idOf m act nm o (stepC fs idOf m act s k).1 ∧ room fs.length act 0 (stepC fs idOf m act s k).1 ≤ room fs.length act 0 s.1 ∧ ((stepC fs idOf m act s k).2 = true → s.2 = true ∨ room fs.length act 0 (stepC fs idOf m act s k).1 + 1 ≤ room fs.length act 0 s.1) := by
  unfold stepC
  cases ha : act k with
  | false => exact ⟨h, Nat.le_refl _, .inl⟩
  | true =>
    simp only [cond_true]
    split
    · exact ⟨h, Nat.le_refl _, .inl⟩
    · rename_i hne
      have hlen : nm.length = s.1.length := by rw [← h.names, List.length_map]
      have hk' : k < s.1.length := by omega
      obtain ⟨p, hp1, hp2⟩ := h.good k hk' ha
      rw [hp1] at hne
      have hgrow := sel_grow (idOf := idOf) hp2 (Ne.symm hne)
      have hnames : (putC s.1 k (sel fs idOf (m k s.1))).map (·.1) = nm := by rw [putC_names _ hk', h.names]
      have hle : LeC act s.1 (putC s.1 k (sel fs idOf (m k s.1))) := fun j => by
        unfold putC
        rw [nth_setC _ hk']
        by_cases hj : j = k
        · subst hj
          rw [if_pos rfl]
          exact ⟨fun x hx => sel_sub hp2 (hp1 ▸ hx), fun hf => absurd ha (by simp [hf])⟩
        · rw [if_neg hj]
          exact ⟨fun _ hx => hx, fun _ => rfl⟩
      have hmono := hm _ _ h.names hnames hle
      have hr : room fs.length act 0 (putC s.1 k (sel fs idOf (m k s.1))) + 1 ≤ room fs.length act 0 s.1 :=
        room_set _ _ _ _ 0 k hk' (by rw [Nat.zero_add]; exact ha) (by rw [hp1]; exact hgrow) (sel_len _ _ _)
      refine ⟨⟨hnames, fun j hj hja => ?_, fun j hj => ?_⟩, Nat.le_of_succ_le hr, fun _ => .inr hr⟩
      · have hj' : j < s.1.length := by unfold putC at hj; rwa [List.length_set] at hj
        by_cases e : j = k
        · subst e
          refine ⟨m j s.1, ?_, fun f hf hmf => hmono j (by omega) hja f hf hmf⟩
          unfold putC; rw [nth_setC _ hk', if_pos rfl]
        · obtain ⟨p', h1, h2⟩ := h.good j hj' hja
          refine ⟨p', ?_, fun f hf hpf => hmono j (by omega) hja f hf (h2 f hf hpf)⟩
          unfold putC; rw [nth_setC _ hk', if_neg e]; exact h1
      · have e : j ≠ k := fun e => absurd ha (by simp [← e, hj])
        unfold putC; rw [nth_setC _ hk', if_neg e]; exact h.rest j hj
theorem passC_ok (hm : MonoC fs m act nm) {o : List CD} : ∀ (ks : List Nat) (s : List CD × Bool), (∀ k, k ∈ ks → k < nm.length) → StateC fs idOf m act nm o s.1 →
    StateC fs idOf m act nm o (passC fs idOf m act ks s).1 ∧ room fs.length act 0 (passC fs idOf m act ks s).1 ≤ room fs.length act 0 s.1 ∧ ((passC fs idOf m act ks s).2 = true → s.2 = true ∨ room fs.length act 0 (passC fs idOf m act ks s).1 + 1 ≤ room fs.length act 0 s.1)
  | [], s, _, h => ⟨h, Nat.le_refl _, .inl⟩
  | k :: ks, s, hks, h => by
    obtain ⟨h1, h2, h3⟩ := stepC_ok hm h (hks k (List.mem_cons_self ..))
    obtain ⟨g1, g2, g3⟩ := passC_ok hm ks _ (fun j hj => hks j (List.mem_cons_of_mem _ hj)) h1
    refine ⟨g1, Nat.le_trans g2 h2, fun hc => ?_⟩
    rcases g3 hc with hc | hc
    · rcases h3 hc with hc | hc
      · exact .inl hc
      · exact .inr (Nat.le_trans (Nat.add_le_add_right g2 1) hc)
    · exact .inr (Nat.le_trans hc h2)
theorem whlC {R S T : Type} {F : S → Rd R S T} {out : S → List CD} {ch : S → Bool} {n : Nat} (hn : n = nm.length)
    (hF : ∀ s, ch s = true → ∃ s', F s = .next s' ∧ (out s', ch s') = passC fs idOf m act (List.range n) (out s, false))
    (hE : ∀ s, ch s = false → ∃ t, F s = .brk t)
    (hm : MonoC fs m act nm) {o : List CD} : ∀ (k : Nat) (s : S), StateC fs idOf m act nm o (out s) → room fs.length act 0 (out s) + (bif ch s then 2 else 1) ≤ k →
    ∃ s', StateC fs idOf m act nm o (out s') ∧ ch s' = false ∧ ∃ t, F s' = .brk t ∧ whl F k s = some (.brk t)
  | 0, s, _, hk => by cases hc : ch s <;> simp [hc] at hk
  | k + 1, s, h, hk => by
    cases hc : ch s with
    | false =>
      obtain ⟨t, ht⟩ := hE s hc
      exact ⟨s, h, hc, t, ht, by simp only [whl, ht]⟩
    | true =>
      rw [hc] at hk
      simp only [cond_true] at hk
      obtain ⟨s', h1, h2⟩ := hF s hc
      obtain ⟨g1, g2, g3⟩ := passC_ok hm (o := o) (List.range n) (out s, false) (fun j hj => by rw [← hn]; exact List.mem_range.1 hj) h
      rw [← h2] at g1 g2 g3
      simp only [whl, h1]
      refine whlC hn hF hE hm k s' g1 ?_
      simp only [Bool.false_eq_true, false_or] at g3
      cases hc' : ch s' with
      | false => simp only [cond_false]; have : room fs.length act 0 (out s') ≤ room fs.length act 0 (out s) := g2; omega
      | true => simp only [cond_true]; have : room fs.length act 0 (out s') + 1 ≤ room fs.length act 0 (out s) := g3 hc'; omega
end
/-! ### a slice that is nil, handed on -/
open Go.RowKit in
def ArgLe (a b : AV) : Prop := ∀ (J : Inj) (w : World) (v : Value), AR J w v a → AR J w v b
theorem ArgLe.rfl (a : AV) : ArgLe a a := fun _ _ _ h => h
theorem ArgLe.nil (n : Nat) : ArgLe (.one (.slc .sh 0 [])) (.one (.slc .sh n [])) := fun J w v h => by
  have h' : VV J.F w v (.slc 0 []) := h
  show VV J.F w v (.slc n [])
  generalize hp : PV.slc 0 ([] : List (List PV)) = p at h'
  cases h' with
  | int | bool | str => cases hp
  | emp oa m hc => exact .emp oa n hc
  | @slc b off cap m cs l hx hcells hr hle hcap =>
    cases hp
    exact .emp _ n hcap.1
theorem acalls_args {P : Program} {f : Nat} {r : AV} {args args' : List AV} (h : All2 ArgLe args args') (c : ACalls P f args' r) : ACalls P f args r := ⟨c.1, fun w hg F vals hF hall => c.2 w hg F vals hF (by
  clear c
  induction h generalizing vals with
  | nil => exact hall
  | cons h1 h2 ih =>
    cases hall with
    | cons g1 g2 => exact .cons (h1 _ _ _ g1) (ih _ g2))⟩
/-! ### a flat row of ours, handed back -/
theorem weak_promote {s : St} {t k n : Nat} {l : List (List PV)} (ht : get s.tm t = some (.one (.slc (.own false k) n l))) (hf : RowsLike l) : Weak s ⟨[(t, .one (.slc (.own true k) n l))], []⟩ := fun N w0 F0 J a w h =>
  ⟨J, { h with
    bo := fun k c hc => by simp [get] at hc
    bi := fun k k' c c' hc => by simp [get] at hc
    tm := fun t' v hv => by
      have h1 := h.tm t _ ht
      by_cases e : t' = t
      · subst e
        obtain rfl : AV.one (.slc (.own true k) n l) = v := by simpa [get] using hv
        exact flat_deep h1 hf
      · simp [get, Ne.symm e] at hv }⟩
theorem awp_promote {P : Program} {N : Nat} {w0 : Base} {F0 : Nat → Prop} {Q : Exit → St → Prop} {s : St} {c : Code} (t : Nat) {k n : Nat} {l : List (List PV)} (ht : get s.tm t = some (.one (.slc (.own false k) n l))) (hf : RowsLike l) (h : AWP P N w0 F0 c Q ⟨[(t, .one (.slc (.own true k) n l))], []⟩) : AWP P N w0 F0 c Q s := awp_weak (weak_promote ht hf) h
end Go.Proofs.YtcnkkobgogmakaaGreat
namespace Go.Proofs.YtcnkkobgogmakaaGreat
open Go.RowKit
/-! ### each node but the last is named once -/
def isRef (n : Xv) (c : Int) : Bool := ((n.2.1 == c) && (n.1 == 6 || n.1 == 7 || n.1 == 5)) || ((n.2.2.1 == c) && (n.1 == 6 || n.1 == 7))
theorem refs_step (c : Int) (k : Nat) (a : Xv) (s : Int) (h0 : 0 ≤ s) (h1 : s ≤ 1000) : ∃ s', Z5 c k a s = .next s' ∧ s + (bif isRef a c then 1 else 0) ≤ s' ∧ s' ≤ s + 2 := by
  have w1 : IntKind.i64.wrap (s + 1) = s + 1 := IntWalk.i64_in _ (by omega)
  have w2 : IntKind.i64.wrap (s + 1 + 1) = s + 1 + 1 := IntWalk.i64_in _ (by omega)
  unfold Z5 isRef
  rw [w1, w2]
  cases (a.2.1 == c) <;> cases (a.2.2.1 == c) <;> cases (a.1 == 6) <;> cases (a.1 == 7) <;> cases (a.1 == 5) <;> exact ⟨_, rfl, by first | (simp; done) | (simp; omega) | omega, by omega⟩
theorem refs_loop (c : Int) : ∀ (l : List Xv) (k : Nat) (s : Int), 0 ≤ s → s + 2 * l.length ≤ 1000 → ∃ s', Xp (Z5 c) Wg l k s = .brk s' ∧ s + (l.filter fun n => isRef n c).length ≤ s'
  | [], k, s, _, _ => ⟨s, rfl, by simp⟩
  | a :: l, k, s, h0, h1 => by
    rw [List.length_cons] at h1
    obtain ⟨s1, e1, g1, g2⟩ := refs_step c k a s h0 (by omega)
    have hp : 0 ≤ s1 := by cases hb : isRef a c <;> (rw [hb] at g1; simp at g1; omega)
    obtain ⟨s2, e2, g3⟩ := refs_loop c l (k + 1) s1 hp (by omega)
    refine ⟨s2, by simp only [Xp, e1]; exact e2, ?_⟩
    rw [List.filter_cons]
    cases hb : isRef a c with
    | true => rw [hb] at g1; simp only [cond_true] at g1; simp only [if_true, List.length_cons]; omega
    | false => rw [hb] at g1; simp only [cond_false] at g1; simp only [Bool.false_eq_true, if_false]; omega
theorem two_of {α : Type} {p : α → Bool} {l : List α} {i j : Nat} {a b : α} (hij : i < j) (hi : l[i]? = some a) (hj : l[j]? = some b) (ha : p a = true) (hb : p b = true) : 2 ≤ (l.filter p).length := by
  have e : l = l.take j ++ l.drop j := (List.take_append_drop j l).symm
  rw [e, List.filter_append, List.length_append]
  have h1 : 1 ≤ ((l.take j).filter p).length := List.length_pos_of_mem (a := a) (List.mem_filter.2 ⟨List.mem_of_getElem? (i := i) (by rw [List.getElem?_take, if_pos hij]; exact hi), ha⟩)
  have h2 : 1 ≤ ((l.drop j).filter p).length := List.length_pos_of_mem (a := b) (List.mem_filter.2 ⟨List.mem_of_getElem? (i := 0) (by rw [List.getElem?_drop]; exact hj), hb⟩)
  omega
theorem vq_refs {q : List Xv} (h : Qw q = true) {i : Nat} (hi : i + 1 < q.length) : Zu q (i : Int) = 1 := by
  obtain ⟨⟨t, ht⟩, _⟩ := vq_run h
  have := forL_all (fun k a t => by unfold Ym; generalize (_ || _ : Bool) = c; cases c <;> simp) ht i (nth q i) (Ur (by omega))
  unfold Ym at this
  rw [Nat.zero_add] at this
  have hd : decide (((i : Nat) : Int) < ((q.length : Int) - 1)) = true := decide_eq_true (by omega)
  rw [hd, Bool.true_and] at this
  cases hn : (Zu q ((i : Nat) : Int) != (1 : Int)) with
  | false => exact W7 hn
  | true => rw [hn, Bool.or_true] at this; simp at this
theorem ref_once {q : List Xv} (h : Qw q = true) {c i j : Nat} (hc : c + 1 < q.length) (hij : i < j) (hj : j < q.length) (h1 : isRef (nth q i) (c : Int) = true) (h2 : isRef (nth q j) (c : Int) = true) : False := by
  have hr := vq_refs h hc
  have hl := (vq_len h).2
  obtain ⟨s, e, g⟩ := refs_loop (c : Int) q 0 0 (by omega) (by omega)
  unfold Zu at hr
  rw [e] at hr
  have := two_of (p := fun n => isRef n (c : Int)) hij (Ur (by omega)) (Ur hj) h1 h2
  simp only [Out.on] at hr
  omega
theorem ref_lt {q : List Xv} (h : Qw q = true) {c i : Nat} (hi : i < q.length) (hr : isRef (nth q i) (c : Int) = true) : c < i := by
  obtain ⟨h1, h2⟩ := vq_kids h (k := (i : Int)) (by omega) (by omega)
  rw [Int.toNat_natCast] at h1 h2
  unfold isRef at hr
  simp only [Bool.or_eq_true, Bool.and_eq_true, beq_iff_eq] at hr
  rcases hr with ⟨e, hop⟩ | ⟨e, hop⟩
  · have := h1 (by omega); omega
  · have := h2 (by omega); omega
/-! ### below a negation -/
theorem nth_setB {L : List Bool} {i : Nat} (x : Bool) (hi : i < L.length) (j : Nat) : nth (L.set i x) j = if j = i then x else nth L j := by
  unfold nth
  simp only [List.getD_eq_getElem?_getD, List.getElem?_set]
  by_cases h : i = j
  · subst h; simp [hi]
  · simp [h, Ne.symm h]
theorem neg_step {q : List Xv} (h : Qw q = true) {k : Nat} (hk : k < q.length) (s : List Bool) (hs : s.length = q.length) : ∃ s', Yx q k s = .next s' ∧ s'.length = q.length ∧
    (∀ j : Nat, isRef (nth q (q.length - 1 - k)) (j : Int) = false → nth s' j = nth s j) ∧
    (∀ j : Nat, isRef (nth q (q.length - 1 - k)) (j : Int) = true → nth s' j = (nth s (q.length - 1 - k) || ((nth q (q.length - 1 - k)).1 == 5))) := by
  have hdn : Int.toNat (dn ((q.length : Int) - 1) k) = q.length - 1 - k := by rw [dn_eq]; omega
  obtain ⟨hl, hr⟩ := vq_kids h (k := ((q.length - 1 - k : Nat) : Int)) (by omega) (by omega)
  rw [Int.toNat_natCast] at hl hr
  have hlt : q.length - 1 - k < s.length := by omega
  unfold Yx
  rw [hdn]
  generalize q.length - 1 - k = i at hl hr hlt ⊢
  generalize nth q i = n at hl hr ⊢
  generalize (nth s i || (n.1 == 5)) = b
  have both : ∀ (e5 : (n.1 == (5 : Int)) = false), (n.1 = 6 ∨ n.1 = 7) → (List.set (List.set s (Int.toNat n.2.1) b) (Int.toNat n.2.2.1) b).length = q.length ∧ (∀ j : Nat, isRef n (j : Int) = false → nth (List.set (List.set s (Int.toNat n.2.1) b) (Int.toNat n.2.2.1) b) j = nth s j) ∧ (∀ j : Nat, isRef n (j : Int) = true → nth (List.set (List.set s (Int.toNat n.2.1) b) (Int.toNat n.2.2.1) b) j = b) := fun e5 h67 => by
    obtain ⟨g1, g2⟩ := hl (.inr h67)
    obtain ⟨g3, g4⟩ := hr h67
    have hop : (n.1 == 6 || n.1 == 7) = true := by rcases h67 with e | e <;> simp [e]
    have hlen : (List.set s (Int.toNat n.2.1) b).length = s.length := List.length_set ..
    refine ⟨by rw [List.length_set, hlen, hs], fun j hj => ?_, fun j hj => ?_⟩
    · simp only [isRef, hop, Bool.true_or, Bool.and_true, Bool.or_eq_false_iff, beq_eq_false_iff_ne, ne_eq] at hj
      rw [nth_set_ne _ (by omega), nth_set_ne _ (by omega)]
    · simp only [isRef, hop, Bool.true_or, Bool.and_true, Bool.or_eq_true, beq_iff_eq] at hj
      rw [nth_setB _ (by omega), nth_setB _ (by omega)]
      split
      · rfl
      · rw [if_pos (by omega)]
  by_cases h5 : n.1 = 5
  · obtain ⟨g1, g2⟩ := hl (.inl h5)
    simp only [h5, beq_self_eq_true, cond_true]
    refine ⟨_, rfl, by rw [List.length_set, hs], fun j hj => ?_, fun j hj => ?_⟩
    · have : n.2.1 ≠ (j : Int) := by simpa [isRef, h5] using hj
      exact nth_set_ne _ (by omega)
    · have : n.2.1 = (j : Int) := by simpa [isRef, h5] using hj
      rw [nth_setB _ (by omega), if_pos (by omega)]
  · have e5 : (n.1 == (5 : Int)) = false := beq_eq_false_iff_ne.2 h5
    rw [e5, cond_false]
    by_cases h6 : n.1 = 6
    · simp only [h6, beq_self_eq_true, cond_true]
      exact ⟨_, rfl, both e5 (.inl h6)⟩
    · by_cases h7 : n.1 = 7
      · simp only [h7, beq_self_eq_true, cond_true]
        exact ⟨_, rfl, both e5 (.inr h7)⟩
      · have e6 : (n.1 == (6 : Int)) = false := beq_eq_false_iff_ne.2 h6
        have e7 : (n.1 == (7 : Int)) = false := beq_eq_false_iff_ne.2 h7
        rw [e6, e7, cond_false, cond_false]
        refine ⟨_, rfl, hs, fun _ _ => rfl, fun j hj => ?_⟩
        simp [isRef, e5, e6, e7] at hj
def NegOk (q : List Xv) (k : Nat) (s : List Bool) : Prop := s.length = q.length ∧ ∀ i, q.length ≤ i + k → i < q.length → ∀ c : Nat, isRef (nth q i) (c : Int) = true → nth s c = (nth s i || ((nth q i).1 == 5))
theorem neg_next {q : List Xv} (h : Qw q = true) {k : Nat} (hk : k < q.length) {s : List Bool} (hs : NegOk q k s) : ∃ s', Yx q k s = .next s' ∧ NegOk q (k + 1) s' := by
  obtain ⟨s', h1, h2, h3, h4⟩ := neg_step h hk s hs.1
  have hself : nth s' (q.length - 1 - k) = nth s (q.length - 1 - k) := h3 _ (by
    cases hr : isRef (nth q (q.length - 1 - k)) ((q.length - 1 - k : Nat) : Int) with
    | false => rfl
    | true => have := ref_lt h (by omega) hr; omega)
  refine ⟨s', h1, h2, fun i hi1 hi2 c hc => ?_⟩
  by_cases e : i = q.length - 1 - k
  · subst e
    rw [h4 c hc, hself]
  · have hci := ref_lt h hi2 hc
    have n1 : isRef (nth q (q.length - 1 - k)) (c : Int) = false := by
      cases hr : isRef (nth q (q.length - 1 - k)) (c : Int) with
      | false => rfl
      | true => exact (ref_once h (c := c) (i := q.length - 1 - k) (j := i) (by omega) (by omega) hi2 hr hc).elim
    have n2 : isRef (nth q (q.length - 1 - k)) (i : Int) = false := by
      cases hr : isRef (nth q (q.length - 1 - k)) (i : Int) with
      | false => rfl
      | true => have := ref_lt h (by omega) hr; omega
    rw [h3 c n1, h3 i n2]
    exact hs.2 i (by omega) hi2 c hc
theorem neg_loop {q : List Xv} (h : Qw q = true) : ∀ (n k : Nat) (s : List Bool), k + n = q.length → NegOk q k s → ∃ s', Vw (Yx q) V9 n k s = .brk s' ∧ NegOk q q.length s'
  | 0, k, s, hk, hs => ⟨s, rfl, by rw [show k = q.length by omega] at hs; exact hs⟩
  | n + 1, k, s, hk, hs => by
    obtain ⟨s1, h1, h2⟩ := neg_next h (by omega) hs
    obtain ⟨s2, h3, h4⟩ := neg_loop h n (k + 1) s1 (by omega) h2
    exact ⟨s2, by simp only [Vw, h1]; exact h3, h4⟩
theorem neg_kids {q : List Xv} (h : Qw q = true) : NegOk q q.length (Xg q) := by
  unfold Xg
  obtain ⟨s, h1, h2⟩ := neg_loop h (List.length q) 0 (List.replicate (Int.toNat (q.length : Int)) false) (by omega) ⟨by simp, fun i h1 h2 => by omega⟩
  rw [h]
  simp only [Bool.not_true, cond_false, h1, Out.on]
  exact h2
theorem neg_name {q : List Xv} {i : Nat} (hi : i < (Xg q).length) (hn : nth (Xg q) i = true) (hd : Jb (nth q i) = true) : (nth q i).2.2.2.1 ∈ Xh q := by
  have key : ∀ (l : List Bool) (k : Nat) (s : List ByteArray), ∃ t, Xp (Ko q true) Wk l k s = .brk t ∧ (∀ x, x ∈ s → x ∈ t) ∧ ∀ j, l[j]? = some true → Jb (nth q (k + j)) = true → (nth q (k + j)).2.2.2.1 ∈ t := by
    intro l
    induction l with
    | nil => intro k s; exact ⟨s, rfl, fun _ h => h, fun j h => by simp at h⟩
    | cons a l ih =>
      intro k s
      simp only [Xp, Ko]
      cases hc : (Jb (nth q k) && (a == true)) with
      | true =>
        obtain ⟨t, h1, h2, h3⟩ := ih (k + 1) (s ++ [(nth q k).2.2.2.1])
        refine ⟨t, h1, fun x hx => h2 x (List.mem_append_left _ hx), fun j hj hnm => ?_⟩
        cases j with
        | zero => exact h2 _ (List.mem_append_right _ (by simp))
        | succ j =>
          have := h3 j (by simpa using hj) (by rwa [show k + 1 + j = k + (j + 1) by omega])
          rwa [show k + 1 + j = k + (j + 1) by omega] at this
      | false =>
        obtain ⟨t, h1, h2, h3⟩ := ih (k + 1) s
        refine ⟨t, h1, h2, fun j hj hnm => ?_⟩
        cases j with
        | zero =>
          obtain rfl : a = true := by simpa using hj
          rw [Nat.add_zero] at hnm
          rw [hnm] at hc; cases hc
        | succ j =>
          have := h3 j (by simpa using hj) (by rwa [show k + 1 + j = k + (j + 1) by omega])
          rwa [show k + 1 + j = k + (j + 1) by omega] at this
  unfold Xh K2
  obtain ⟨t, h1, _, h3⟩ := key (Xg q) 0 []
  rw [h1]
  simp only [Out.on]
  have := h3 i (by rw [Ur hi, hn]) (by rwa [Nat.zero_add])
  rw [Nat.zero_add] at this
  exact ((once_spec t).2 _).2 this
/-! ### what a node says -/
theorem cid_iff (l : List Int) (x : Int) : Kd l x = true ↔ x ∈ l := by
  unfold Kd Z8 slicesIndex_int
  have key : ∀ (l : List Int) (k : Nat), decide (((Xp (Z7 x) Vd l k ()).on fun _ => -1) ≥ 0) = true ↔ x ∈ l := by
    intro l
    induction l with
    | nil => intro k; simp [Xp, Out.on, Vd]
    | cons a l ih =>
      intro k
      by_cases h : x = a
      · subst h; simp [Xp, Z7, Out.on]
      · have e1 : (x == a) = false := beq_eq_false_iff_ne.2 h
        simp only [Xp, Z7, e1, cond_false]
        rw [ih (k + 1)]
        simp [h]
  exact key l 0
structure Seen (q : List Xv) (a b : List Qp) : Prop where
  grow : ∀ nm x, x ∈ X6 a nm → x ∈ X6 b nm
  same : ∀ nm, nm ∈ Xh q → X6 a nm = X6 b nm
theorem match_grow {q : List Xv} (hv : Qw q = true) {a b : List Qp} (hs : Seen q a b) (f : Xy) : ∀ (n : Nat) (k : Nat), k < n → k < q.length →
    (nth (Xg q) k = true → X7 n q (k : Int) f a = X7 n q (k : Int) f b) ∧ (X7 n q (k : Int) f a = true → X7 n q (k : Int) f b = true)
  | 0, _, h, _ => absurd h (by omega)
  | n + 1, k, hkn, hk => by
    obtain ⟨hl, hr⟩ := vq_kids hv (k := (k : Int)) (by omega) (by omega)
    rw [Int.toNat_natCast] at hl hr
    obtain ⟨hlen, hneg⟩ := neg_kids hv
    have hneg := hneg k (by omega) hk
    have hop := vn_op (vq_node hv (Ur hk))
    have hnm := neg_name (q := q) (i := k) (by omega)
    have ih := match_grow hv hs f n
    unfold X7
    rw [Int.toNat_natCast]
    generalize nth q k = m at hl hr hneg hop hnm ⊢
    have kid : ∀ c : Int, 0 ≤ c → c < (k : Int) → isRef m c = true → ((nth (Xg q) k || (m.1 == 5)) = true → X7 n q c f a = X7 n q c f b) ∧ (X7 n q c f a = true → X7 n q c f b = true) := fun c h0 h1 hrf => by
      obtain ⟨j, rfl⟩ : ∃ j : Nat, c = (j : Int) := ⟨Int.toNat c, by omega⟩
      obtain ⟨g1, g2⟩ := ih j (by omega) (by omega)
      exact ⟨fun hn => g1 ((hneg j hrf).trans hn), g2⟩
    rcases hop with h | h | h | h | h | h | h | h | h
    · simp [h]
    · simp [h]
    · simp [h]
    · simp [h]
    · obtain ⟨k1, k2⟩ := hl (.inl h)
      obtain ⟨g1, _⟩ := kid m.2.1 k1 k2 (by simp [isRef, h])
      have := g1 (by simp [h])
      simp [h, this]
    · obtain ⟨k1, k2⟩ := hl (.inr (.inl h))
      obtain ⟨k3, k4⟩ := hr (.inl h)
      obtain ⟨g1, g2⟩ := kid m.2.1 k1 k2 (by simp [isRef, h])
      obtain ⟨g3, g4⟩ := kid m.2.2.1 k3 k4 (by simp [isRef, h])
      refine ⟨fun hn => ?_, fun hm => ?_⟩
      · simp [h, g1 (by simp [hn]), g3 (by simp [hn])]
      · simp [h] at hm ⊢
        exact ⟨g2 hm.1, g4 hm.2⟩
    · obtain ⟨k1, k2⟩ := hl (.inr (.inr h))
      obtain ⟨k3, k4⟩ := hr (.inr h)
      obtain ⟨g1, g2⟩ := kid m.2.1 k1 k2 (by simp [isRef, h])
      obtain ⟨g3, g4⟩ := kid m.2.2.1 k3 k4 (by simp [isRef, h])
      refine ⟨fun hn => ?_, fun hm => ?_⟩
      · simp [h, g1 (by simp [hn]), g3 (by simp [hn])]
      · simp [h] at hm ⊢
        exact hm.imp g2 g4
    · refine ⟨fun hn => ?_, fun hm => ?_⟩
      · simp [h, hs.same _ (hnm hn (by simp [Jb, h]))]
      · simp [h] at hm ⊢
        exact (cid_iff _ _).2 (hs.grow _ _ ((cid_iff _ _).1 hm))
    · refine ⟨fun hn => ?_, fun hm => ?_⟩
      · simp [h, hs.same _ (hnm hn (by simp [Jb, h]))]
      · simp [h] at hm ⊢
        exact ⟨hm.1, (cid_iff _ _).2 (hs.grow _ _ ((cid_iff _ _).1 hm.2))⟩
theorem matches_grow {q : List Xv} {a b : List Qp} (hs : Seen q a b) (f : Xy) (h : Vj q f a = true) : Vj q f b = true := by
  unfold Vj at h ⊢
  cases hv : Qw q with
  | false => rw [hv] at h; cases h
  | true =>
    rw [hv, Bool.true_and] at h
    rw [Bool.true_and]
    have hl := vq_len hv
    have e : ((q.length : Int) - 1) = ((q.length - 1 : Nat) : Int) := by omega
    rw [e] at h ⊢
    exact (match_grow hv hs f q.length (q.length - 1) (by omega) (by omega)).2 h
theorem select_sel (s : Q2) (q : List Xv) (r : List Qp) : Ya s q r = sel s.2.1 (fun f => f.1) fun f => Vj q f r := by
  unfold Ya
  rw [forL_filter (f := Ws q r) (p := fun f => Vj q f r) (g := fun f => f.1) (fun _ _ _ => rfl)]
  rfl
/-! ### strata that hold -/
theorem strata_ok {d : List Yq} {L : List Int} (h : Qo d = (L, true)) : Zx d = true ∧ L.length = d.length ∧ Sat (Z9 d) d.length L ∧ ∀ j, 0 ≤ nth L j := by
  unfold Qo at h
  cases hv : Zx d with
  | false => rw [hv] at h; simp at h
  | true =>
    rw [hv] at h
    simp only [Bool.not_true, cond_false] at h
    have h5 := vdirs_len hv
    have hw := whl_climb (d := d) (f := Wq d) (e := Wr) (F := K3 d) (fun _ _ _ => rfl) (fun _ _ => rfl) (fun _ => rfl) (by omega) (d.length * d.length + 3) (List.replicate d.length 0) true (zeroL_ok _).1 (zeroL_ok _).2
    have hsome : (climb (Z9 d) d.length d.length (d.length * d.length + 3) (true, List.replicate d.length 0)).isSome = true := by
      have := implStrata_w d h5
      rw [Int.toNat_natCast, hw, Option.isSome_map] at this
      exact this
    obtain ⟨r, hr⟩ := Option.isSome_iff_exists.1 hsome
    unfold whlD at h
    rw [Int.toNat_natCast, hw, hr] at h
    have hw' : ∀ i e, e ∈ Z9 d i → e.2 ≤ 1 ∧ e.1 < d.length := fun i e he => ⟨(edgesD_ok d i e he).1, (edgesD_ok d i e he).2.1⟩
    obtain ⟨h1, _⟩ := climb_eq hw' _ 0 true r (fun e => by cases e) hr
    cases r with
    | none => simp [endD, Out.on] at h
    | some M =>
      have e : M = L := by simpa [endD, Out.on] using h
      subst e
      obtain ⟨hrest, hM⟩ := h1 M rfl
      rw [hM]
      exact ⟨rfl, Vq _ _ _, rest_sat (Vq _ _ _) hrest, fun j => after_nonneg _ _ j _⟩
theorem strata_le {d : List Yq} {L : List Int} (h : Qo d = (L, true)) : ∀ j, nth L j ≤ (d.length : Int) := by
  obtain ⟨hv, hlen, _, _⟩ := strata_ok h
  have h5 := vdirs_len hv
  unfold Qo at h
  rw [hv] at h
  simp only [Bool.not_true, cond_false] at h
  have hw := whl_climb (d := d) (f := Wq d) (e := Wr) (F := K3 d) (fun _ _ _ => rfl) (fun _ _ => rfl) (fun _ => rfl) (by omega) (d.length * d.length + 3) (List.replicate d.length 0) true (zeroL_ok _).1 (zeroL_ok _).2
  have hsome : (climb (Z9 d) d.length d.length (d.length * d.length + 3) (true, List.replicate d.length 0)).isSome = true := by
    have := implStrata_w d h5
    rw [Int.toNat_natCast, hw, Option.isSome_map] at this
    exact this
  obtain ⟨r, hr⟩ := Option.isSome_iff_exists.1 hsome
  unfold whlD at h
  rw [Int.toNat_natCast, hw, hr] at h
  have hw' : ∀ i e, e ∈ Z9 d i → e.2 ≤ 1 ∧ e.1 < d.length := fun i e he => ⟨(edgesD_ok d i e he).1, (edgesD_ok d i e he).2.1⟩
  obtain ⟨h1, _⟩ := climb_eq hw' _ 0 true r (fun e => by cases e) hr
  cases r with
  | none => simp [endD, Out.on] at h
  | some M =>
    have e : M = L := by simpa [endD, Out.on] using h
    subst e
    obtain ⟨hrest, hM⟩ := h1 M rfl
    intro j
    by_cases hj : j < d.length
    · rw [hM]; exact Int.le_of_lt (rest_lt hw' hrest j hj)
    · have : nth M j = 0 := nth_out (by omega)
      omega
theorem edgesOfN_mem {d : List Yq} {w : Int} {nm : ByteArray} : ∀ {l : List ByteArray}, nm ∈ l → 0 ≤ Xk d nm → (Int.toNat (Xk d nm), w) ∈ Jz d w l
  | x :: l, h, h0 => by
    simp only [Jz]
    rcases List.mem_cons.1 h with rfl | h
    · rw [if_pos h0]; exact List.mem_cons_self ..
    · split
      · exact List.mem_cons_of_mem _ (edgesOfN_mem h h0)
      · exact edgesOfN_mem h h0
theorem strata_neg {d : List Yq} {L : List Int} (h : Qo d = (L, true)) {i : Nat} (hi : i < d.length) {nm : ByteArray} (hn : nm ∈ Xh (nth d i).2) (h0 : 0 ≤ Xk d nm) : nth L (Int.toNat (Xk d nm)) < nth L i := by
  obtain ⟨_, _, hs, _⟩ := strata_ok h
  have hm : (Int.toNat (Xk d nm), (1 : Int)) ∈ Z9 d i := by
    unfold Z9
    rw [if_pos hi]
    exact List.mem_append_right _ (edgesOfN_mem hn h0)
  have := (need_le.1 (hs i hi)).2 _ hm
  simp only at this
  omega
end Go.Proofs.YtcnkkobgogmakaaGreat
namespace Go.Proofs.YtcnkkobgogmakaaGreat
open Go.RowKit
theorem rids_go (nm : ByteArray) : ∀ (d : List Yq) (o : List Qp) (k : Nat), o.map (·.1) = d.map (·.1) →
    (Xp (Xs nm) Yb d k () = .brk () ∧ Xp (J0 nm) Vi o k () = .brk ()) ∨
    ∃ i : Nat, i < d.length ∧ Xp (Xs nm) Yb d k () = .ret (((k + i : Nat)) : Int) ∧ Xp (J0 nm) Vi o k () = .ret (nth o i).2
  | [], [], _, _ => .inl ⟨rfl, rfl⟩
  | [], _ :: _, _, h => by simp at h
  | _ :: _, [], _, h => by simp at h
  | a :: d, b :: o, k, h => by
    simp only [List.map_cons, List.cons.injEq] at h
    obtain ⟨h1, h2⟩ := h
    simp only [Xp, Xs, J0, impldirAt_1, h1]
    cases (a.1.toList == nm.toList) with
    | true => exact .inr ⟨0, by simp, rfl, rfl⟩
    | false =>
      simp only [cond_false]
      rcases rids_go nm d o (k + 1) h2 with h | ⟨i, hi, h3, h4⟩
      · exact .inl h
      · exact .inr ⟨i + 1, by simpa using hi, by rw [h3, show k + 1 + i = k + (i + 1) by omega], h4⟩
theorem rids_at {d : List Yq} {o : List Qp} (h : o.map (·.1) = d.map (·.1)) (nm : ByteArray) : (Xk d nm < 0 ∧ X6 o nm = []) ∨ (0 ≤ Xk d nm ∧ Int.toNat (Xk d nm) < d.length ∧ X6 o nm = (nth o (Int.toNat (Xk d nm))).2) := by
  unfold Xk Zl X6
  rcases rids_go nm d o 0 h with ⟨h1, h2⟩ | ⟨i, hi, h1, h2⟩
  · rw [h1, h2]
    refine .inl ⟨?_, ?_⟩
    · show (-1 : Int) < 0; omega
    · rfl
  · rw [h1, h2]
    simp only [Out.on, Nat.zero_add, Int.toNat_natCast]
    exact .inr ⟨by omega, hi, trivial⟩
abbrev pickD (d : List Yq) (k : Nat) (o : List Qp) (f : Xy) : Bool := Vj (nth d k).2 f o
theorem mono_ok {d : List Yq} {L : List Int} (h : Qo d = (L, true)) (fs : List Xy) {act : Nat → Bool} {level : Int} (ha : ∀ k, act k = true → nth L k = level) : MonoC fs (pickD d) act (d.map (·.1)) := by
  intro a b hna hnb hle k hk hact f _ hm
  rw [List.length_map] at hk
  refine matches_grow (⟨fun nm x hx => ?_, fun nm hn => ?_⟩ : Seen (nth d k).2 a b) f hm
  · rcases rids_at hna nm with ⟨h1, h2⟩ | ⟨h1, h2, h3⟩
    · rw [h2] at hx; simp at hx
    · rcases rids_at hnb nm with ⟨g1, _⟩ | ⟨_, _, g3⟩
      · omega
      · rw [h3] at hx
        rw [g3]
        exact (hle _).1 x hx
  · rcases rids_at hna nm with ⟨h1, h2⟩ | ⟨h1, h2, h3⟩
    · rcases rids_at hnb nm with ⟨_, g2⟩ | ⟨g1, _, _⟩
      · rw [h2, g2]
      · omega
    · rcases rids_at hnb nm with ⟨g1, _⟩ | ⟨_, _, g3⟩
      · omega
      · rw [h3, g3]
        refine (hle _).2 ?_
        have hlt := strata_neg h hk hn h1
        cases hp : act (Int.toNat (Xk d nm)) with
        | false => rfl
        | true => have := ha _ hp; have := ha _ hact; omega
structure EvS (d : List Yq) (L : List Int) (on : Nat → Bool) (fs : List Xy) (k : Int) (o : List Qp) : Prop where
  names : o.map (·.1) = d.map (·.1)
  none : ∀ j, k ≤ nth L j → on j = true → (nth o j).2 = []
  some_ : ∀ j, j < d.length → on j = true → ∃ p : Xy → Bool, (nth o j).2 = sel fs (fun f => f.1) p
def actD (L : List Int) (on : Nat → Bool) (k : Int) (j : Nat) : Bool := (nth L j == k) && on j
theorem evS_state {d : List Yq} {L : List Int} {on : Nat → Bool} {fs : List Xy} {k : Int} {o : List Qp} (h : EvS d L on fs k o) : StateC fs (fun f : Xy => f.1) (pickD d) (actD L on k) (d.map (·.1)) o o :=
  ⟨h.names, fun j _ hj => ⟨fun _ => false, by
    unfold actD at hj
    simp only [Bool.and_eq_true, beq_iff_eq] at hj
    rw [h.none j (by omega) hj.2]; simp [sel], fun f _ hf => by cases hf⟩, fun _ _ => rfl⟩
theorem evS_next {d : List Yq} {L : List Int} {on : Nat → Bool} {k : Int} {o o' : List Qp} {fs : List Xy} (h : EvS d L on fs k o) (h' : StateC fs (fun f : Xy => f.1) (pickD d) (actD L on k) (d.map (·.1)) o o') : EvS d L on fs (k + 1) o' :=
  ⟨h'.names, fun j hj hon => by
    rw [h'.rest j (by unfold actD; rw [Bool.and_eq_false_iff]; exact .inl (beq_eq_false_iff_ne.2 (by omega)))]
    exact h.none j (by omega) hon, fun j hj hon => by
    cases ha : actD L on k j with
    | false => rw [h'.rest j ha]; exact h.some_ j hj hon
    | true =>
      have hlen : o'.length = d.length := by have := congrArg List.length h'.names; simpa using this
      obtain ⟨p, hp, _⟩ := h'.good j (by omega) ha
      exact ⟨p, hp⟩⟩
theorem evS_len {d : List Yq} {L : List Int} {on : Nat → Bool} {fs : List Xy} {k : Int} {o : List Qp} (h : EvS d L on fs k o) : List.length o = List.length d := by have := congrArg List.length h.names; simpa using this
theorem ints_dec (a b : List Int) : Vg a b = decide (a = b) := by
  by_cases h : a.length = b.length
  · exact ints_eq a b h
  · have hb : ((a.length : Int) != (b.length : Int)) = true := by simpa using fun e : (a.length : Int) = (b.length : Int) => h (by omega)
    unfold Vg
    rw [hb, decide_eq_false (fun e => h (congrArg List.length e))]
    rfl
def StepE (s : Q2) (d : List Yq) (L : List Int) (on : Nat → Bool) (lv : Int) {R T : Type} (f : Nat → Yq → List Qp × Bool → Rd R (List Qp × Bool) T) : Prop :=
  ∀ k a o c, d[k]? = some a → f k a (o, c) = bif actD L on lv k then (bif !(decide (Ya s a.2 o = (nth o k).2)) then .next (List.set o k ((nth o k).1, Ya s a.2 o), true) else .next (o, c)) else .next (o, c)
theorem pass_eq {R : Type} {s : Q2} {d : List Yq} {L : List Int} {on : Nat → Bool} {lv : Int} {f : Nat → Yq → List Qp × Bool → Rd R (List Qp × Bool) (List Qp × Bool)} {e : Nat → List Qp × Bool → List Qp × Bool}
    (hf : StepE s d L on lv f) (he : ∀ k s, e k s = s) : ∀ (l : List Yq) (k : Nat) (o : List Qp) (c : Bool), d.drop k = l → Xp f e l k (o, c) = .brk (passC s.2.1 (fun f : Xy => f.1) (pickD d) (actD L on lv) (List.range' k l.length) (o, c))
  | [], k, o, c, _ => by simp [Xp, passC, he]
  | a :: l, k, o, c, hl => by
    have hk : d[k]? = some a := by
      have := congrArg (·[0]?) hl
      simpa using this
    have ha : nth d k = a := nth_of hk
    have hrest : d.drop (k + 1) = l := by rw [← List.drop_drop, hl]; rfl
    have hp : passC s.2.1 (fun f : Xy => f.1) (pickD d) (actD L on lv) (List.range' k (a :: l).length) (o, c) = passC s.2.1 (fun f : Xy => f.1) (pickD d) (actD L on lv) (List.range' (k + 1) l.length) (stepC s.2.1 (fun f : Xy => f.1) (pickD d) (actD L on lv) (o, c) k) := by
      rw [List.length_cons, List.range'_succ]; rfl
    have hsel : sel s.2.1 (fun f : Xy => f.1) (pickD d k o) = Ya s a.2 o := by rw [select_sel, ← ha]
    rw [hp]
    simp only [Xp, hf k a o c hk]
    unfold stepC
    cases actD L on lv k with
    | false => simp only [cond_false]; exact pass_eq hf he l (k + 1) o c hrest
    | true =>
      simp only [cond_true, hsel]
      by_cases hq : Ya s a.2 o = (nth o k).2
      · rw [decide_eq_true hq, if_pos hq]; exact pass_eq hf he l (k + 1) o c hrest
      · rw [decide_eq_false hq, if_neg hq]; exact pass_eq hf he l (k + 1) _ true hrest
theorem ev_run {R' : Type} {s : Q2} {d : List Yq} {L : List Int} {on : Nat → Bool} {lv : Int} {f : Nat → Yq → List Qp × Bool → Rd (Rd R' (List Qp × Int × Bool) (List Qp × Int)) (List Qp × Bool) (List Qp × Bool)} {e : Nat → List Qp × Bool → List Qp × Bool} {F : List Qp × Int × Bool → Rd R' (List Qp × Int × Bool) (List Qp × Int)}
    (hf : StepE s d L on lv f) (he : ∀ k s, e k s = s) (hF : ∀ x, F x = bif x.2.2 then (Out.on (Xp f e d 0 (x.1, false)) fun y => .next (y.1, IntKind.i64.wrap (x.2.1 + 1), y.2)) else .brk (x.1, x.2.1))
    (hS : Qo d = (L, true)) {o : List Qp} (h : EvS d L on s.2.1 lv o) (p : Int) :
    ∃ o' p', whl F (List.length d * List.length s.2.1 + 2) (o, p, true) = some (.brk (o', p')) ∧ EvS d L on s.2.1 (lv + 1) o' := by
  have hlen : o.length = d.length := by have := congrArg List.length h.names; simpa using this
  have hroom := room_le s.2.1.length (actD L on lv) o 0
  rw [hlen] at hroom
  obtain ⟨s', h1, hc, t, h2, h3⟩ := whlC (fs := s.2.1) (idOf := fun f : Xy => f.1) (m := pickD d) (act := actD L on lv) (nm := d.map (·.1)) (F := F) (out := fun x => x.1) (ch := fun x => x.2.2) (n := d.length) (by simp)
    (fun x hx => ⟨_, by rw [hF, hx, cond_true, pass_eq hf he d 0 x.1 false rfl]; rfl, by rw [List.range_eq_range']⟩)
    (fun x hx => ⟨_, by rw [hF, hx, cond_false]⟩) (mono_ok hS s.2.1 fun k hk => by unfold actD at hk; simp only [Bool.and_eq_true, beq_iff_eq] at hk; exact hk.1) (o := o) (List.length d * List.length s.2.1 + 2) (o, p, true) (evS_state h) (by simp only [cond_true]; omega)
  have hc' : s'.2.2 = false := hc
  have hb : F s' = .brk (s'.1, s'.2.1) := by rw [hF, hc']; rfl
  rw [hb] at h2
  cases h2
  exact ⟨s'.1, s'.2.1, h3, evS_next h h1⟩
theorem ev_start {R T : Type} {d : List Yq} {L : List Int} {on : Nat → Bool} {fs : List Xy} {g : Yq → List Int} {f : Nat → Yq → List Qp → Rd R (List Qp) T} {e : Nat → List Qp → T} (hf : ∀ k a s, f k a s = .next (s ++ [(a.1, g a)])) (hg : ∀ j, j < d.length → on j = true → g (nth d j) = []) :
    Xp f e d 0 [] = .brk (e d.length (d.map fun a => (a.1, g a))) ∧ EvS d L on fs 0 (d.map fun a => (a.1, g a)) := by
  refine ⟨by rw [forL_map (g := fun a => ((a.1, g a) : Qp)) hf]; simp, ?_, fun j _ hj => ?_, fun j hj hon => ?_⟩
  · rw [List.map_map]; rfl
  · by_cases hjl : j < d.length
    · have : nth (d.map fun a => ((a.1, g a) : Qp)) j = ((nth d j).1, g (nth d j)) := by simp [nth, List.getD, hjl]
      rw [this]; exact hg j hjl hj
    · have : nth (d.map fun a => ((a.1, g a) : Qp)) j = default := by simp [nth, List.getD, hjl]
      rw [this]; rfl
  · have : nth (d.map fun a => ((a.1, g a) : Qp)) j = ((nth d j).1, g (nth d j)) := by simp [nth, List.getD, hj]
    exact ⟨fun _ => false, by rw [this, hg j hj hon]; simp [sel]⟩
theorem strata_small {d : List Yq} (h : ((Qo d)).2 = true) : List.length ((Qo d)).1 = List.length d ∧ List.length d ≤ 5 ∧ ∀ x, x ∈ ((Qo d)).1 → 0 ≤ x ∧ x ≤ 5 := by
  have hS : Qo d = ((Qo d).1, true) := Prod.ext rfl h
  obtain ⟨hv, hlen, hs, h0⟩ := strata_ok hS
  have h5 := vdirs_len hv
  refine ⟨hlen, h5, fun x hx => ?_⟩
  obtain ⟨i, hi, rfl⟩ := mem_nth hx
  refine ⟨h0 i, ?_⟩
  have hb := strata_le hS i
  omega
open GoE (enc wide)
def implDirNames_f0 (_ : Nat) (a0 : Yq) (s0 : (List ByteArray)) : Rd ((List ByteArray)) ((List ByteArray)) ((List ByteArray)) := (.next (s0 ++ [a0.1]))
def implDirNames_e0 (_ : Nat) (s0 : (List ByteArray)) : (List ByteArray) := s0
def Yj (d : (List Yq)) : (List ByteArray) := (Out.on (Xp implDirNames_f0 implDirNames_e0 d 0 []) (fun y0 => y0))
theorem implDirNames_a (d : (List Yq)) : ACalls Tryz.prog 99 [.h d] (.o 0 (Yj d)) := by
 refine en Qa Tryz.func99 fun w0 F0 hG => ?_
 refine sn Qa [0, 2] [] (p0) ?_
 refine tn Qa [0, 2, 3] [] (p0) ?_
 refine Qd ?_
 refine tu Qa [(2, .e 0), (3, .one (.slc (.own true 384) 1 [])), (7, .h d), (8, .i (d.length : Int)), (9, .i 0)] [0] [] [] (pl 1 d p0) ?_
 refine wT 7 0 .sh d (fun hw1 hl2 => ?_)
 refine blL1 implDirNames_f0 implDirNames_e0 d [] (fun k0 s0 => [(3, .o 147201 s0), (9, .i ((k0 : Nat) : Int))]) [3, 9] (fun y0 => [(3, .o 147351 y0)]) [3, 7, 8, 9] (fun k0 s0 => List.length s0 ≤ k0) (Xx [(384, 147201)] (by kernel_rfl)) (by simp) (fun k0 s0 hk0 hI0 => ?_) (fun k0 s0 hk0 hI0 => ?_) (fun y0 hD0 => ?_)
 ·
  have hA0_0 := hI0.2
  obtain ⟨a0, hx0⟩ := Xl (l := d) (i := k0) hk0
  refine sn Qa [2, 3, 7, 8, 9, 10] [] (pe 0 (Qs (decide_eq_true (p := ((k0 : Nat) : Int) < (d.length : Int)) (by omega))) p0) ?_
  refine Qd ?_
  refine ckT ?_
  refine Qf ?_
  refine Qd ?_
  refine Qr ?_
  refine tn Qa [2, 3, 5, 7, 8, 9] [5] (pn 0 hx0 p0) ?_
  refine wT 3 0 (.own true 147201) s0 (fun hw3 hl4 => ?_)
  refine qu Qa [(3, .one (.slc (.own true 1088) 1 ((eL s0) ++ [[.s a0.1]])))] [3] [] [] (pa s0 [a0.1] p0) ?_
  refine eqn [(3, .o 1088 (s0 ++ [a0.1]))] [3] [] [] (by rw [show ((eL s0) ++ [[.s a0.1]]) = (eL (s0 ++ [a0.1])) from Kc (rfl) (rfl)]; first | done | kernel_rfl) ?_
  refine rn Qa [2, 3, 7, 8, 9] [] (pe 0 (Zq (Qu k0 (by omega))) p0) ?_
  exact Exists.intro (s0 ++ [a0.1]) (And.intro (Xx [(1088, 147201)] (by kernel_rfl)) ⟨Qv hx0 (rfl) hI0.1, by first | omega | (simp; omega) | simp⟩)
 ·
  have hA0_0 := hI0.2
  refine sn Qa [2, 3, 7, 8, 9, 10] [] (pe 0 (Qs (decide_eq_false (p := ((k0 : Nat) : Int) < (d.length : Int)) (by omega))) p0) ?_
  refine Qd ?_
  refine ckF ?_
  refine Qz ?_
  exact Exists.intro _ (And.intro (Xx [(147201, 147351)] (by kernel_rfl)) (Xm hk0 (rfl) hI0.1))
 ·
  refine sn Qa [2] [] (p0) ?_
  refine Qe ?_
  exact po0 [] (V2 hD0 (rfl))
def K8 (v : ByteArray) (k0 : Nat) (a0 : ByteArray) (_ : Unit) : Rd (Int) (Unit) (Unit) := (bif (v.toList == a0.toList) then (.ret ((k0 : Nat) : Int)) else (.next ()))
def Wt (_ : Nat) (_ : Unit) : Unit := ()
def slicesIndex_string (s_ : (List ByteArray)) (v : ByteArray) : Int := (Out.on (Xp (K8 v) Wt s_ 0 ()) (fun _ => -1))
theorem slicesIndex_string_a (s_ : (List ByteArray)) (v : ByteArray) : ACalls Tryz.prog 192 [.h s_, .s v] (.i (slicesIndex_string s_ v)) := by
 refine en Qa Tryz.func192 fun w0 F0 hG => ?_
 refine sn Qa [0, 1, 4] [] (p0) ?_
 refine Qd ?_
 refine tn Qa [0, 1, 4, 7, 8] [] (pl 1 s_ p0) ?_
 refine mz [(4, .i 0), (7, .i (s_.length : Int)), (8, .i 0)] [] [] [] ?_
 refine wT 0 0 .sh s_ (fun hw1 hl2 => ?_)
 refine blL0 (K8 v) Wt s_ () (fun k0 _ => [(8, .i ((k0 : Nat) : Int))]) [8] (fun _ => []) [0, 1, 7, 8] (Qc (by kernel_rfl)) (fun k0 s0 hk0 hI0 => ?_) (fun k0 s0 hk0 hI0 => ?_) (fun y0 hD0 => ?_)
 ·
  obtain ⟨a0, hx0⟩ := Xl (l := s_) (i := k0) hk0
  refine sn Qa [0, 1, 4, 7, 8, 9] [] (pe 0 (Qs (decide_eq_true (p := ((k0 : Nat) : Int) < (s_.length : Int)) (by omega))) p0) ?_
  refine Qd ?_
  refine ckT ?_
  refine Qf ?_
  refine Qd ?_
  refine Qr ?_
  refine tn Qa [0, 1, 4, 5, 7, 8] [] (p0) ?_
  refine tu Qa [(5, .i ((k0 : Nat) : Int)), (16, .b (v.toList == a0.toList))] [] [] [] (pn 3 hx0 p0) ?_
  refine ck (v.toList == a0.toList) (fun h3 => ?_) (fun h3 => ?_)
  ·
   refine sn Qa [0, 1, 4, 7, 8] [] (p0) ?_
   refine Qe ?_
   have hr4 : (Xp (K8 v) Wt s_ 0 ()) = .ret ((k0 : Nat) : Int) := Zj hx0 (Q4 h3 (rfl)) hI0
   exact pi [] (on_r hr4)
  ·
   refine Qf ?_
   refine rn Qa [0, 1, 4, 7, 8] [] (pe 0 (Zq (Qu k0 (by omega))) p0) ?_
   exact Exists.intro _ (And.intro (Qc (by kernel_rfl)) (Qv hx0 (Qk h3 (rfl)) hI0))
 ·
  refine sn Qa [0, 1, 4, 7, 8, 9] [] (pe 0 (Qs (decide_eq_false (p := ((k0 : Nat) : Int) < (s_.length : Int)) (by omega))) p0) ?_
  refine Qd ?_
  refine ckF ?_
  refine Qz ?_
  exact Exists.intro _ (And.intro (Qc (by kernel_rfl)) (Xm hk0 (rfl) hI0))
 ·
  refine sn Qa [4] [] (p0) ?_
  refine Qe ?_
  exact pi [] (V2 hD0 (rfl))
def Q6 (s_ : (List ByteArray)) (v : ByteArray) : Bool := decide ((slicesIndex_string s_ v) ≥ (0 : Int))
theorem slicesContains_string_a (s_ : (List ByteArray)) (v : ByteArray) : ACalls Tryz.prog 146 [.h s_, .s v] (.b (Q6 s_ v)) := by
 refine en Qa Tryz.func146 fun w0 F0 hG => ?_
 refine sn Qa [0, 1, 4] [] (p0) ?_
 refine tn Qa [4] [] (pc 2 (slicesIndex_string_a s_ v) p0) ?_
 refine Qe ?_
 exact pb [] (show Q6 s_ v = decide ((slicesIndex_string s_ v) ≥ (0 : Int)) from rfl)
def Wl (x : (List Int)) (k0 : Nat) (s0 : Int) : Rd (Int) (Int) (Int) := (.next (max s0 (nth x (k0 + 1))))
def slicesMax_int_e0 (_ : Nat) (s0 : Int) : Int := s0
def slicesMax_int (x : (List Int)) : Int := (Out.on (Vw (Wl x) slicesMax_int_e0 (x.length - 1) 0 (nth x 0)) (fun y0 => y0))
theorem slicesMax_int_a (x : (List Int)) (hp : 0 < x.length) : ACalls Tryz.prog 193 [.h x] (.i (slicesMax_int x)) := by
 refine en Qa Tryz.func193 fun w0 F0 hG => ?_
 refine sn Qa [0, 2] [] (p0) ?_
 refine Qd ?_
 refine tn Qa [0, 2, 7] [] (pl 1 x (pe 2 (show .b (decide ((x.length : Int) < (1 : Int))) = .b false from Qs (decide_eq_false (by omega))) p0)) ?_
 refine ckF ?_
 refine Qf ?_
 refine wT 0 0 .sh x (fun hw2 hl3 => ?_)
 have hx1 := ng x 0
 refine tu Qa [(2, .i 0), (3, .i (nth x 0))] [] [] [] (pg 1 0 hx1 p0) ?_
 refine Qd ?_
 refine sn Qa [0, 2, 3, 4] [] (p0) ?_
 refine mz [(4, .i 1)] [] [] [] ?_
 refine blN0 (Wl x) slicesMax_int_e0 (x.length - 1) (nth x 0) (fun k0 s0 => [(3, .i s0), (4, .i ((k0 + 1 : Nat) : Int))]) [3, 4] (fun y0 => [(3, .i y0)]) [0, 3, 4] (Qc (by kernel_rfl)) (fun k0 s0 hk0 hI0 => ?_) (fun k0 s0 hk0 hI0 => ?_) (fun y0 hD0 => ?_)
 ·
  refine Qd ?_
  refine sn Qa [0, 2, 3, 4, 15] [] (pl 2 x (pe 3 (Qs (decide_eq_true (p := ((k0 + 1 : Nat) : Int) < (x.length : Int)) (by omega))) p0)) ?_
  refine ckT ?_
  refine Qf ?_
  refine Qd ?_
  refine Qr ?_
  have hx4 := ng x (k0 + 1)
  refine qn Qa [0, 2, 3, 4] [] (pg 3 ((k0 + 1 : Nat) : Int) hx4 p0) ?_
  refine qu Qa [(3, .i (max s0 (nth x (k0 + 1)))), (4, .i ((k0 + 2 : Nat) : Int))] [3, 4] [] [] (pe 1 (show .i (IntKind.i64.wrap (((k0 + 1 : Nat) : Int) + 1)) = .i ((k0 + 2 : Nat) : Int) from Zq ((IntWalk.i64_in _ (by omega)).trans (by omega))) p0) ?_
  exact Exists.intro _ (And.intro (Qc (by kernel_rfl)) (Kf hk0 (rfl) hI0))
 ·
  refine Qd ?_
  refine sn Qa [0, 2, 3, 4, 15] [] (pl 2 x (pe 3 (Qs (decide_eq_false (p := ((k0 + 1 : Nat) : Int) < (x.length : Int)) (by omega))) p0)) ?_
  refine ckF ?_
  refine Qz ?_
  exact Exists.intro _ (And.intro (Qc (by kernel_rfl)) (forN_end hk0 (rfl) hI0))
 ·
  refine sn Qa [2] [] (p0) ?_
  refine Qe ?_
  exact pi [] (V2 hD0 (rfl))
def Jr (d : (List Yq)) : Int := (bif ((!(((Qo d)).2)) || (((((Qo d)).1).length : Int) == (0 : Int))) then -1 else (slicesMax_int (((Qo d)).1)))
theorem implMaxStratum_a (d : (List Yq)) : ACalls Tryz.prog 147 [.h d] (.i (Jr d)) := by
 refine en Qa Tryz.func147 fun w0 F0 hG => ?_
 refine sn Qa [0, 2] [] (p0) ?_
 refine tn Qa [2, 3, 4] [] (pc 1 (implStrata_a d) p0) ?_
 refine Qd ?_
 refine Qd ?_
 refine mz [(2, .i 0), (3, .o 448 (((Qo d)).1)), (4, .b (((Qo d)).2))] [0] [] [] ?_
 refine jn [(16, .b ((!(((Qo d)).2)) || (((((Qo d)).1).length : Int) == (0 : Int))))] [4] [] [] (!(((Qo d)).2)) (fun h1 => ?_) (fun h1 => ?_) ?_
 ·
  have h1n : (((Qo d)).2) = false := bnot_t h1
  refine rn Qa [2, 3, 16] [] (pf 0 h1n (pe 1 (show .b (!false) = .b true from rfl) p0)) ?_
  exact ⟨rfl, Qc (by rw [h1]; first | done | kernel_rfl)⟩
 ·
  have h1n : (((Qo d)).2) = true := Kg h1
  refine rn Qa [2, 3, 16] [] (pt 0 h1n (pe 1 (show .b (!true) = .b false from rfl) (pl 4 (((Qo d)).1) p0))) ?_
  exact ⟨rfl, Qc (by rw [h1]; first | done | kernel_rfl)⟩
 refine ck ((!(((Qo d)).2)) || (((((Qo d)).1).length : Int) == (0 : Int))) (fun h2 => ?_) (fun h2 => ?_)
 ·
  refine sn Qa [2, 3] [] (p0) ?_
  refine Qe ?_
  exact pi [] (Q4 h2 (rfl))
 ·
  have h2l : ((!(((Qo d)).2))) = false := or_l h2
  have h2ln : (((Qo d)).2) = true := Kg h2l
  have h2r : ((((((Qo d)).1).length : Int) == (0 : Int))) = false := or_r h2
  have h2rd := X2 h2r
  refine Qf ?_
  refine sn Qa [2] [] (pc 1 (slicesMax_int_a (((Qo d)).1) (by first | omega | (simp_all; omega))) p0) ?_
  refine Qe ?_
  exact pi [] (Qk h2 (rfl))
def Wu (s2_ : (List Int)) (k0 : Nat) (a0 : Int) (_ : Unit) : Rd (Bool) (Unit) (Unit) := (bif (a0 != (nth s2_ k0)) then (.ret false) else (.next ()))
def slicesEqual_int_e0 (_ : Nat) (_ : Unit) : Unit := ()
def Kk (s1_ : (List Int)) (s2_ : (List Int)) : Bool := (bif ((s1_.length : Int) != (s2_.length : Int)) then false else (Out.on (Xp (Wu s2_) slicesEqual_int_e0 s1_ 0 ()) (fun _ => true)))
theorem slicesEqual_int_a (s1_ : (List Int)) (s2_ : (List Int)) : ACalls Tryz.prog 149 [.h s1_, .h s2_] (.b (Kk s1_ s2_)) := by
 refine en Qa Tryz.func149 fun w0 F0 hG => ?_
 refine sn Qa [0, 1, 4] [] (p0) ?_
 refine Qd ?_
 refine tn Qa [0, 1, 4, 10] [] (pl 1 s1_ (pl 3 s2_ p0)) ?_
 refine ck ((s1_.length : Int) != (s2_.length : Int)) (fun h1 => ?_) (fun h1 => ?_)
 ·
  refine tu Qa [(4, .b false)] [] [] [] (p0) ?_
  refine Qe ?_
  exact pb [] (Q4 h1 (rfl))
 ·
  have h1d := W7 h1
  refine Qf ?_
  refine Qd ?_
  refine tu Qa [(4, .b false), (12, .i (s1_.length : Int)), (13, .i 0)] [] [] [] (pl 1 s1_ p0) ?_
  refine wT 0 0 .sh s1_ (fun hw2 hl3 => ?_)
  refine blL0 (Wu s2_) slicesEqual_int_e0 s1_ () (fun k0 _ => [(13, .i ((k0 : Nat) : Int))]) [13] (fun _ => []) [0, 1, 12, 13] (Qc (by kernel_rfl)) (fun k0 s0 hk0 hI0 => ?_) (fun k0 s0 hk0 hI0 => ?_) (fun y0 hD0 => ?_)
  ·
   obtain ⟨a0, hx0⟩ := Xl (l := s1_) (i := k0) hk0
   refine su Qa [(14, .b true)] [] [] [] (pe 0 (Qs (decide_eq_true (p := ((k0 : Nat) : Int) < (s1_.length : Int)) (by omega))) p0) ?_
   refine Qd ?_
   refine ckT ?_
   refine Qf ?_
   refine Qd ?_
   refine Qr ?_
   refine sn Qa [0, 1, 4, 5, 12, 13] [] (p0) ?_
   refine wT 1 0 .sh s2_ (fun hw5 hl6 => ?_)
   have hx4 := ng s2_ k0
   refine tN Qa Yr [0, 1, 4, 12, 13, 24] [] (pn 2 hx0 (pn 6 hx4 p0)) ?_
   refine ck (a0 != (nth s2_ k0)) (fun h7 => ?_) (fun h7 => ?_)
   ·
    refine tu Qa [] [14] [] [] (p0) ?_
    refine Qe ?_
    have hr8 : (Xp (Wu s2_) slicesEqual_int_e0 s1_ 0 ()) = .ret false := Zj hx0 (Q4 h7 (rfl)) hI0
    exact pb [] (Qk h1 (on_r hr8))
   ·
    have h7d := W7 h7
    refine Qf ?_
    refine qu Qa [(13, .i ((k0 + 1 : Nat) : Int))] [13, 14] [] [] (pe 0 (Zq (Qu k0 (by omega))) p0) ?_
    exact Exists.intro _ (And.intro (Qc (by kernel_rfl)) (Qv hx0 (Qk h7 (rfl)) hI0))
  ·
   refine sn Qa [0, 1, 4, 12, 13, 14] [] (pe 0 (Qs (decide_eq_false (p := ((k0 : Nat) : Int) < (s1_.length : Int)) (by omega))) p0) ?_
   refine Qd ?_
   refine ckF ?_
   refine Qz ?_
   exact Exists.intro _ (And.intro (Qc (by kernel_rfl)) (Xm hk0 (rfl) hI0))
  ·
   refine sn Qa [4] [] (p0) ?_
   refine Qe ?_
   exact pb [] (Qk h1 (V2 hD0 (rfl)))
def Zz (r : (List Qp)) (names : (List ByteArray)) (_ : Nat) (a0 : Yq) (s0 : (List Qp)) : Rd ((List Qp) × Int × Bool) ((List Qp)) ((List Qp)) := (bif (!(Q6 names a0.1)) then (.next (s0 ++ [(a0.1, (X6 r a0.1))])) else (.next (s0 ++ [((a0.1, []) : Qp)])))
def J3 (_ : Nat) (s0 : (List Qp)) : (List Qp) := s0
def Kp (s_ : Q2) (d : (List Yq)) (names : (List ByteArray)) (k1 : Nat) (k3 : Nat) (a3 : Yq) (s3 : (List Qp) × Bool) : Rd (Rd (Rd ((List Qp) × Int × Bool) ((List Qp) × Int) ((List Qp) × Int)) ((List Qp) × Int × Bool) ((List Qp) × Int)) ((List Qp) × Bool) ((List Qp) × Bool) := (bif (((nth (((Qo d)).1) k3) != ((k1 : Nat) : Int)) || (!(Q6 names a3.1))) then (.next (s3.1, s3.2)) else (bif (!(Kk (Ya s_ a3.2 s3.1) ((nth s3.1 k3).2))) then (.next (List.set s3.1 k3 ((nth s3.1 k3).1, (Ya s_ a3.2 s3.1)), true)) else (.next (s3.1, s3.2))))
def implevaluated_e3 (_ : Nat) (s3 : (List Qp) × Bool) : (List Qp) × Bool := (s3.1, s3.2)
def J4 (s_ : Q2) (d : (List Yq)) (names : (List ByteArray)) (k1 : Nat) (s2 : (List Qp) × Int × Bool) : Rd (Rd ((List Qp) × Int × Bool) ((List Qp) × Int) ((List Qp) × Int)) ((List Qp) × Int × Bool) ((List Qp) × Int) := (bif s2.2.2 then (Out.on (Xp (Kp s_ d names k1) implevaluated_e3 d 0 (s2.1, false)) (fun y3 => (.next (y3.1, IntKind.i64.wrap (s2.2.1 + 1), y3.2)))) else (.brk (s2.1, s2.2.1)))
def Kq (s_ : Q2) (d : (List Yq)) (names : (List ByteArray)) (k1 : Nat) (s1 : (List Qp) × Int) : Rd ((List Qp) × Int × Bool) ((List Qp) × Int) ((List Qp) × Int) := (Out.on (whlD (J4 s_ d names k1) (List.length d * List.length s_.2.1 + 2) (s1.1, s1.2, true)) (fun y2 => (.next (y2.1, y2.2))))
def implevaluated_e1 (_ : Nat) (s1 : (List Qp) × Int) : (List Qp) × Int := (s1.1, s1.2)
def Yu (s_ : Q2) (d : (List Yq)) (r : (List Qp)) (names : (List ByteArray)) : (List Qp) × Int × Bool := (bif ((!(((Qo d)).2)) || (!(Xo s_))) then ([], 0, false) else (Out.on (Xp (Zz r names) J3 d 0 []) (fun y0 => (Out.on (Vw (Kq s_ d names) implevaluated_e1 (Int.toNat ((Jr d) + 1)) 0 (y0, 0)) (fun y1 => (y1.1, y1.2, true))))))
theorem max_go {B : Int} {x : List Int} (hx : ∀ a, a ∈ x → a ≤ B) (hB : 0 ≤ B) : ∀ (n k : Nat) (s : Int), s ≤ B → ∃ t, Vw (Wl x) slicesMax_int_e0 n k s = .brk t ∧ t ≤ B
  | 0, k, s, h => ⟨s, rfl, h⟩
  | n + 1, k, s, h => by
    obtain ⟨t, h1, h2⟩ := max_go hx hB n (k + 1) (max s (nth x (k + 1))) (by
      by_cases hk : k + 1 < x.length
      · have := hx _ (nth_mem hk); omega
      · rw [nth_out (by omega)]; omega)
    exact ⟨t, by simp only [Vw, Wl]; exact h1, h2⟩
theorem strata_factsI {d : List Yq} (h : ((Qo d)).2 = true) : List.length ((Qo d)).1 = List.length d ∧ List.length d ≤ 5 ∧ Jr d ≤ 5 := by
 obtain ⟨h1, h2, h3⟩ := strata_small h
 refine ⟨h1, h2, ?_⟩
 unfold Jr
 rw [h]
 simp only [Bool.not_true, Bool.false_or]
 cases hl : (((((Qo d)).1).length : Int) == (0 : Int)) with
 | true => simp only [cond_true]; omega
 | false =>
  simp only [cond_false]
  have hp : 0 < (((Qo d)).1).length := by have := X2 hl; omega
  unfold slicesMax_int
  obtain ⟨t, e, ht⟩ := max_go (B := 5) (x := ((Qo d)).1) (fun a ha => (h3 a ha).2) (by omega) ((((Qo d)).1).length - 1) 0 (nth ((Qo d)).1 0) (h3 _ (nth_mem hp)).2
  rw [e]; exact ht
theorem eqI_go (b : List Int) : ∀ (l : List Int) (k : Nat), l.length = (b.drop k).length → Out.on (Xp (Wu b) slicesEqual_int_e0 l k ()) (fun _ => true) = decide (l = b.drop k)
  | [], k, h => by
    have : b.drop k = [] := List.eq_nil_of_length_eq_zero (by rw [← h]; rfl)
    rw [this]; rfl
  | a :: l, k, h => by
    have hk : k < b.length := by simp only [List.length_cons, List.length_drop] at h; omega
    have hd : b.drop k = nth b k :: b.drop (k + 1) := by
      rw [List.drop_eq_getElem_cons hk, show nth b k = b[k] by simp [nth, List.getD, hk]]
    rw [hd] at h ⊢
    simp only [Xp, Wu]
    by_cases e : a = nth b k
    · rw [show (a != nth b k) = false by simp [e], cond_false, eqI_go b l (k + 1) (by simpa using h)]
      simp [e]
    · rw [show (a != nth b k) = true by simp [e], cond_true]
      simp [e, Out.on]
theorem eqI_eq (a b : List Int) (h : a.length = b.length) : Kk a b = decide (a = b) := by
 unfold Kk
 rw [show ((a.length : Int) != (b.length : Int)) = false by simp [h], cond_false, eqI_go b a 0 (by simpa using h), List.drop_zero]
theorem eqI_dec (a b : List Int) : Kk a b = decide (a = b) := by
  by_cases h : a.length = b.length
  · exact eqI_eq a b h
  · have hb : ((a.length : Int) != (b.length : Int)) = true := by simpa using fun e : (a.length : Int) = (b.length : Int) => h (by omega)
    unfold Kk
    rw [hb, decide_eq_false (fun e => h (congrArg List.length e))]
    rfl
def onD (d : List Yq) (names : List ByteArray) (j : Nat) : Bool := Q6 names (nth d j).1
theorem evaluated_step (s_ : Q2) (d : List Yq) (names : List ByteArray) (k1 : Nat) : StepE s_ d (Qo d).1 (onD d names) (k1 : Int) (Kp s_ d names k1) := by
 intro k a o c hk
 have ha : nth d k = a := nth_of hk
 unfold Kp actD onD
 rw [ha, eqI_dec]
 simp only [bne]
 cases (nth (Qo d).1 k == (k1 : Int)) <;> cases Q6 names a.1 <;> rfl
section
variable {s_ : Q2} {d : List Yq} {names : List ByteArray} {k1 : Nat} {o : List Qp} {p : Int}
theorem evaluated_run (hS : ((Qo d)).2 = true) (h : EvS d ((Qo d)).1 (onD d names) s_.2.1 (k1 : Int) o) : ∃ o' p', whl (J4 s_ d names k1) (List.length d * List.length s_.2.1 + 2) (o, p, true) = some (.brk (o', p')) ∧ EvS d ((Qo d)).1 (onD d names) s_.2.1 ((k1 : Int) + 1) o' :=
 ev_run (f := Kp s_ d names k1) (e := implevaluated_e3) (evaluated_step s_ d names k1) (fun _ _ => rfl) (fun _ => rfl) (Prod.ext rfl hS) h p
theorem evaluated_w (hS : ((Qo d)).2 = true) (h : EvS d ((Qo d)).1 (onD d names) s_.2.1 (((k1 : Nat)) : Int) o) : (whl (J4 s_ d names k1) (List.length d * List.length s_.2.1 + 2) (o, p, true)).isSome = true := by
 obtain ⟨o', p', h1, _⟩ := evaluated_run (p := p) hS h
 rw [h1]; rfl
theorem evaluated_next {y : List Qp × Int} (hS : ((Qo d)).2 = true) (h : EvS d ((Qo d)).1 (onD d names) s_.2.1 (((k1 : Nat)) : Int) o) (hy : whlD (J4 s_ d names k1) (List.length d * List.length s_.2.1 + 2) (o, p, true) = .brk y) : EvS d ((Qo d)).1 (onD d names) s_.2.1 ((((k1 + 1) : Nat)) : Int) y.1 := by
 obtain ⟨o', p', h1, h2⟩ := evaluated_run (p := p) hS h
 unfold whlD at hy
 rw [h1] at hy
 have e : (o', p') = y := by simpa using hy
 rw [← e, Int.natCast_add]; exact h2
def startG (r : List Qp) (names : List ByteArray) (a : Yq) : List Int := bif (!(Q6 names a.1)) then (X6 r a.1) else []
theorem K9 {r : List Qp} (hy : Xp (Zz r names) J3 d 0 [] = .brk o) : EvS d ((Qo d)).1 (onD d names) s_.2.1 (((0 : Nat)) : Int) o := by
 obtain ⟨h1, h2⟩ := ev_start (L := ((Qo d)).1) (on := onD d names) (fs := s_.2.1) (g := startG r names) (f := Zz r names) (e := J3) (d := d) (fun k a s => by
  unfold Zz startG
  cases Q6 names a.1 <;> rfl) (fun j _ hj => by unfold onD at hj; unfold startG; rw [hj]; rfl)
 rw [h1] at hy
 have e : (d.map fun a => ((a.1, startG r names a) : Qp)) = o := Out.brk.inj hy
 rw [← e]; exact h2
end
theorem implevaluated_a (s_ : Q2) (d : (List Yq)) (r : (List Qp)) (names : (List ByteArray)) : ACalls Tryz.prog 98 [.a [.h s_.1, .h s_.2.1, .i s_.2.2], .h d, .h r, .h names] (.tup [(false, [.o 0 (((Yu s_ d r names)).1)]), (false, [.i (((Yu s_ d r names)).2.1)]), (false, [.b (((Yu s_ d r names)).2.2)])]) := by
 refine en Qa Tryz.func98 fun w0 F0 hG => ?_
 refine sn Qa [1, 2, 3, 4, 8, 9, 10] [4] (p0) ?_
 refine tn Qa [1, 2, 3, 4, 8, 9, 10, 11, 12] [4] (pc 1 (implStrata_a d) p0) ?_
 refine Qd ?_
 refine Qd ?_
 refine mz [(4, .p 4 0), (8, .e 0), (9, .i 0), (10, .b false), (11, .o 1600 (((Qo d)).1)), (12, .b (((Qo d)).2))] [0] [(4, [.h s_.1, .h s_.2.1, .i s_.2.2])] [] ?_
 refine jn [(34, .b ((!(((Qo d)).2)) || (!(Xo s_))))] [12] [] [] (!(((Qo d)).2)) (fun h1 => ?_) (fun h1 => ?_) ?_
 ·
  have h1n : (((Qo d)).2) = false := bnot_t h1
  refine ru Qa [(34, .b true)] [12] [] [] (pf 0 h1n (pe 1 (show .b (!false) = .b true from rfl) p0)) ?_
  exact ⟨rfl, Qc (by rw [h1]; first | done | kernel_rfl)⟩
 ·
  have h1n : (((Qo d)).2) = true := Kg h1
  have h1nsf := strata_factsI h1n
  refine rn Qa [1, 2, 3, 4, 8, 9, 10, 11, 34] [4] (pt 0 h1n (pe 1 (show .b (!true) = .b false from rfl) (pc 4 (implIsValidStore_a s_) p0))) ?_
  exact ⟨rfl, Qc (by rw [h1]; first | done | kernel_rfl)⟩
 refine ck ((!(((Qo d)).2)) || (!(Xo s_))) (fun h2 => ?_) (fun h2 => ?_)
 ·
  refine su Qa [] [34] [] [] (p0) ?_
  refine opn [(false, 8, 0, true, 384000, 2)] ?_
  refine Qe ?_
  exact pz [] (show Yu s_ d r names = _ from Q4 h2 (rfl)) (fun z => .tup [(false, [.o 0 z.1]), (false, [.i z.2.1]), (false, [.b z.2.2])])
 ·
  have h2l : ((!(((Qo d)).2))) = false := or_l h2
  have h2ln : (((Qo d)).2) = true := Kg h2l
  have h2lnsf := strata_factsI h2ln
  have h2r : ((!(Xo s_))) = false := or_r h2
  have h2rn : (Xo s_) = true := Kg h2r
  refine Qf ?_
  refine sn Qa [1, 2, 3, 4, 8, 9, 10, 11, 13] [4] (p0) ?_
  refine Qd ?_
  refine tn Qa [1, 2, 3, 4, 8, 9, 10, 11, 13, 36, 37, 38] [4] (pl 1 d p0) ?_
  refine mz [(13, .one (.slc (.own true 2240) 2 [])), (36, .h d), (37, .i (d.length : Int)), (38, .i 0)] [34] [] [] ?_
  refine wT 1 0 .sh d (fun hw3 hl4 => ?_)
  refine blL1 (Zz r names) J3 d [] (fun k0 s0 => [(13, .o 147208 s0), (38, .i ((k0 : Nat) : Int))]) [13, 38] (fun y0 => [(13, .o 147358 y0)]) [2, 13, 36, 37, 38] (fun k0 s0 => List.length s0 ≤ k0) (Xx [(2240, 147208)] (by kernel_rfl)) (by simp) (fun k0 s0 hk0 hI0 => ?_) (fun k0 s0 hk0 hI0 => ?_) (fun y0 hD0 => ?_)
  ·
   have hA0_0 := hI0.2
   obtain ⟨a0, hx0⟩ := Xl (l := d) (i := k0) hk0
   refine su Qa [(39, .b true)] [] [] [] (pe 0 (Qs (decide_eq_true (p := ((k0 : Nat) : Int) < (d.length : Int)) (by omega))) p0) ?_
   refine Qd ?_
   refine ckT ?_
   refine Qf ?_
   refine Qd ?_
   refine Qr ?_
   refine su Qa [(15, .p 15 0)] [39] [(15, [.s a0.1, .h a0.2])] [] (pn 0 hx0 p0) ?_
   refine su Qa [(16, .p 16 0)] [] [(16, [.s a0.1, .e 1])] [] (p0) ?_
   refine Qd ?_
   refine su Qa [(49, .b (!(Q6 names a0.1)))] [] [] [] (pc 3 (slicesContains_string_a names a0.1) p0) ?_
   refine ck (!(Q6 names a0.1)) (fun h5 => ?_) (fun h5 => ?_)
   ·
    have h5n : (Q6 names a0.1) = false := bnot_t h5
    refine rn Qa [1, 2, 3, 4, 8, 9, 10, 11, 13, 16, 36, 37, 38] [4, 16] (pc 3 (implResultIDs_a r a0.1) p0) ?_
    refine wT 13 0 (.own true 147208) s0 (fun hw6 hl7 => ?_)
    refine qu Qa [(13, .one (.slc (.own true 3712) 2 ((eL s0) ++ [[.s a0.1, .h (X6 r a0.1)]])))] [13, 15, 16, 49] [] [15, 16] (pa s0 [(a0.1, (X6 r a0.1))] p0) ?_
    refine eqn [(13, .o 3712 (s0 ++ [(a0.1, (X6 r a0.1))]))] [13] [] [] (by rw [show ((eL s0) ++ [[.s a0.1, .h (X6 r a0.1)]]) = (eL (s0 ++ [(a0.1, (X6 r a0.1))])) from Kc (rfl) (rfl)]; first | done | kernel_rfl) ?_
    refine ru Qa [(38, .i ((k0 + 1 : Nat) : Int))] [38] [] [] (pe 0 (Zq (Qu k0 (by omega))) p0) ?_
    exact Exists.intro (s0 ++ [(a0.1, (X6 r a0.1))]) (And.intro (Xx [(3712, 147208)] (by kernel_rfl)) ⟨Qv hx0 (Q4 h5 (rfl)) hI0.1, by first | omega | (simp; omega) | simp⟩)
   ·
    have h5n : (Q6 names a0.1) = true := Kg h5
    refine Qf ?_
    refine wT 13 0 (.own true 147208) s0 (fun hw8 hl9 => ?_)
    refine ru Qa [(13, .one (.slc (.own true 3712) 2 ((eL s0) ++ [[.s a0.1, .slc 1 []]])))] [13, 15, 16, 49] [] [15, 16] (pa s0 [((a0.1, []) : Qp)] p0) ?_
    refine eqn [(13, .o 3712 (s0 ++ [((a0.1, []) : Qp)]))] [13] [] [] (by rw [show ((eL s0) ++ [[.s a0.1, .slc 1 []]]) = (eL (s0 ++ [((a0.1, []) : Qp)])) from Kc (rfl) (rfl)]; first | done | kernel_rfl) ?_
    refine ru Qa [(38, .i ((k0 + 1 : Nat) : Int))] [38] [] [] (pe 0 (Zq (Qu k0 (by omega))) p0) ?_
    exact Exists.intro (s0 ++ [((a0.1, []) : Qp)]) (And.intro (Xx [(3712, 147208)] (by kernel_rfl)) ⟨Qv hx0 (Qk h5 (rfl)) hI0.1, by first | omega | (simp; omega) | simp⟩)
  ·
   have hA0_0 := hI0.2
   refine su Qa [(39, .b false)] [] [] [] (pe 0 (Qs (decide_eq_false (p := ((k0 : Nat) : Int) < (d.length : Int)) (by omega))) p0) ?_
   refine Qd ?_
   refine ckF ?_
   refine Qz ?_
   exact Exists.intro _ (And.intro (Xx [(147208, 147358)] (by kernel_rfl)) (Xm hk0 (rfl) hI0.1))
  ·
   refine su Qa [(17, .i 0)] [] [] [] (p0) ?_
   refine Qd ?_
   refine su Qa [(18, .i 0)] [] [] [] (p0) ?_
   refine blN1b (Kq s_ d names) implevaluated_e1 (Int.toNat ((Jr d) + 1)) (y0, 0) (fun k1 s1 => [(13, .o 147358 s1.1), (17, .i s1.2), (18, .i ((k1 : Nat) : Int))]) [13, 17, 18] (fun _ _ => []) [] (fun y1 => [(13, .o 147358 y1.1), (17, .i y1.2)]) [1, 3, 4, 11, 13, 17, 18] (fun _ => []) [4] (fun k1 s1 => EvS d ((Qo d)).1 (onD d names) s_.2.1 (((k1 : Nat)) : Int) s1.1 ∧ List.length s1.1 = List.length d) (Qc (by kernel_rfl)) ⟨(by first | exact K9 hD0 | exact K9 hD0.1 | exact evS_len (fs := s_.2.1) (K9 hD0) | exact evS_len (fs := s_.2.1) (K9 hD0.1)), (by first | exact K9 hD0 | exact K9 hD0.1 | exact evS_len (fs := s_.2.1) (K9 hD0) | exact evS_len (fs := s_.2.1) (K9 hD0.1))⟩ (fun k1 s1 hk1 hI1 => ?_) (fun k1 s1 hk1 hI1 => ?_) (fun y1 hD1 => ?_)
   ·
    have hA1_0 := hI1.2.1
    have hA1_1 := hI1.2.2
    refine Qd ?_
    refine su Qa [(63, .b true)] [] [] [] (pc 2 (implMaxStratum_a d) (pe 3 (Qs (decide_eq_true (p := ((k1 : Nat) : Int) ≤ (Jr d)) (by omega))) p0)) ?_
    refine ckT ?_
    refine Qf ?_
    refine Qd ?_
    refine Qr ?_
    refine su Qa [(19, .b true)] [63] [] [] (p0) ?_
    refine blw (fun (s2 : (List Qp) × Int × Bool) => [(13, .o 147358 s2.1), (17, .i s2.2.1), (19, .b s2.2.2)]) [13, 17, 19] (fun s2 => []) [] (fun (y2 : (List Qp) × Int) => [(13, .o 147358 y2.1), (17, .i y2.2)]) [13, 17, 19] (fun y2 => []) [] (fun (k2 : Nat) (s2 : (List Qp) × Int × Bool) => whl (J4 s_ d names k1) k2 s2 = some (whlD (J4 s_ d names k1) (List.length d * List.length s_.2.1 + 2) (s1.1, s1.2, true)) ∧ List.length s2.1 = List.length d) (fun (y2 : (List Qp) × Int) => (whlD (J4 s_ d names k1) (List.length d * List.length s_.2.1 + 2) (s1.1, s1.2, true)) = .brk y2) (List.length d * List.length s_.2.1 + 2) (s1.1, s1.2, true) (Qc (by kernel_rfl)) ⟨whl_some (evaluated_w (by assumption) (by assumption)), (by assumption)⟩ (fun _ h => whl_zero h.1) (fun k2 s2 hI2 => ?_) (fun y2 hD2 => ?_)
    ·
     have hA2_0 := hI2.2
     refine Qd ?_
     refine su Qa [(66, .b s2.2.2)] [] [] [] (p0) ?_
     refine ck s2.2.2 (fun h10 => ?_) (fun h10 => ?_)
     ·
      refine Qf ?_
      refine Qr ?_
      refine su Qa [(19, .b false)] [19, 66] [] [] (p0) ?_
      refine sn Qa [1, 3, 4, 8, 9, 10, 11, 13, 17, 18, 19] [4] (p0) ?_
      refine tn Qa [1, 3, 4, 8, 9, 10, 11, 13, 17, 18, 19, 69, 70, 71] [4] (pl 1 d p0) ?_
      refine mz [(17, .i (IntKind.i64.wrap (s2.2.1 + 1))), (69, .h d), (70, .i (d.length : Int)), (71, .i 0)] [17] [] [] ?_
      refine blL3 (Kp s_ d names k1) implevaluated_e3 d (s2.1, false) (fun k3 s3 => [(13, .o 147358 s3.1), (19, .b s3.2), (71, .i ((k3 : Nat) : Int))]) [13, 19, 71] (fun y3 => [(13, .o 147358 y3.1), (19, .b y3.2)]) [13, 19, 69, 70, 71] (fun _ s3 => List.length s3.1 = List.length s2.1) (fun y3 => List.length y3.1 = List.length s2.1) (Qc (by kernel_rfl)) (by simp) (fun k3 s3 hk3 hI3 => ?_) (fun k3 s3 hk3 hI3 => ?_) (fun y3 hD3 => ?_)
      ·
       have hA3_0 := hI3.2
       obtain ⟨a3, hx3⟩ := Xl (l := d) (i := k3) hk3
       refine su Qa [(72, .b true)] [] [] [] (pe 0 (Qs (decide_eq_true (p := ((k3 : Nat) : Int) < (d.length : Int)) (by omega))) p0) ?_
       refine Qd ?_
       refine ckT ?_
       refine Qf ?_
       refine Qd ?_
       refine Qr ?_
       refine sn Qa [1, 3, 4, 8, 9, 10, 11, 13, 17, 18, 19, 20, 21, 69, 70, 71] [4, 21] (pn 1 hx3 p0) ?_
       refine Qd ?_
       refine Qd ?_
       refine mz [(20, .i ((k3 : Nat) : Int)), (21, .p 21 0)] [72] [(21, [.s a3.1, .h a3.2])] [] ?_
       refine jn [(88, .b (((nth (((Qo d)).1) k3) != ((k1 : Nat) : Int)) || (!(Q6 names a3.1))))] [] [] [] ((nth (((Qo d)).1) k3) != ((k1 : Nat) : Int)) (fun h11 => ?_) (fun h11 => ?_) ?_
       ·
        have h11d := ne_of_bne h11
        refine wT 11 0 (.own true 1600) (((Qo d)).1) (fun hw13 hl14 => ?_)
        have hx12 := ng (((Qo d)).1) k3
        refine ru Qa [(88, .b true)] [] [] [] (pN 2 hx12 (pt 5 h11 p0)) ?_
        exact ⟨rfl, Qc (by rw [h11]; first | done | kernel_rfl)⟩
       ·
        have h11d := W7 h11
        refine wT 11 0 (.own true 1600) (((Qo d)).1) (fun hw16 hl17 => ?_)
        have hx15 := ng (((Qo d)).1) k3
        refine ru Qa [(88, .b (!(Q6 names a3.1)))] [] [] [] (pN 2 hx15 (pf 5 h11 (pc 10 (slicesContains_string_a names a3.1) p0))) ?_
        exact ⟨rfl, Qc (by rw [h11]; first | done | kernel_rfl)⟩
       refine ck (((nth (((Qo d)).1) k3) != ((k1 : Nat) : Int)) || (!(Q6 names a3.1))) (fun h18 => ?_) (fun h18 => ?_)
       ·
        refine Qz ?_
        refine rn Qa [1, 3, 4, 8, 9, 10, 11, 13, 17, 18, 19, 69, 70, 71] [4] (pe 0 (Zq (Qu k3 (by omega))) p0) ?_
        exact Exists.intro (s3.1, s3.2) (And.intro (Qc (by kernel_rfl)) ⟨Qv hx3 (Q4 h18 (rfl)) hI3.1, (by first | omega | (simp only [List.length_set]; omega))⟩)
       ·
        have h18l : (((nth (((Qo d)).1) k3) != ((k1 : Nat) : Int))) = false := or_l h18
        have h18ld := W7 h18l
        have h18r : ((!(Q6 names a3.1))) = false := or_r h18
        have h18rn : (Q6 names a3.1) = true := Kg h18r
        refine Qf ?_
        refine su Qa [(22, .o 5952 (Ya s_ a3.2 s3.1))] [21, 88] [] [21] (pc 4 (implSelectFiles_a s_ a3.2 s3.1) p0) ?_
        refine wT 13 0 (.own true 147358) s3.1 (fun hw20 hl21 => ?_)
        have hx19 := ng s3.1 k3
        refine sn Qa [1, 3, 4, 8, 9, 10, 11, 13, 17, 18, 19, 20, 22, 69, 70, 71, 101] [4] (pN 3 hx19 (pc 6 (slicesEqual_int_a (Ya s_ a3.2 s3.1) ((nth s3.1 k3).2)) p0)) ?_
        refine ck (!(Kk (Ya s_ a3.2 s3.1) ((nth s3.1 k3).2))) (fun h22 => ?_) (fun h22 => ?_)
        ·
         have h22n : (Kk (Ya s_ a3.2 s3.1) ((nth s3.1 k3).2)) = false := bnot_t h22
         refine tu Qa [(13, .one (.slc (.own true 147358) 2 (setRow (eL s3.1) k3 1 [.h (Ya s_ a3.2 s3.1)])))] [13, 20, 22] [] [] (pN 3 hx19 p0) ?_
         refine eqn [(13, .o 147358 (List.set s3.1 k3 ((nth s3.1 k3).1, (Ya s_ a3.2 s3.1))))] [13] [] [] (by rw [Zd (y := ((nth s3.1 k3).1, (Ya s_ a3.2 s3.1))) hx19 rfl]; first | done | kernel_rfl) ?_
         refine ru Qa [(19, .b true)] [19] [] [] (p0) ?_
         refine ru Qa [(71, .i ((k3 + 1 : Nat) : Int))] [71] [] [] (pe 0 (Zq (Qu k3 (by omega))) p0) ?_
         exact Exists.intro (List.set s3.1 k3 ((nth s3.1 k3).1, (Ya s_ a3.2 s3.1)), true) (And.intro (Qc (by kernel_rfl)) ⟨Qv hx3 (Qk h18 (Q4 h22 (rfl))) hI3.1, (by first | omega | (simp only [List.length_set]; omega))⟩)
        ·
         have h22n : (Kk (Ya s_ a3.2 s3.1) ((nth s3.1 k3).2)) = true := Kg h22
         refine Qf ?_
         refine qu Qa [(71, .i ((k3 + 1 : Nat) : Int))] [20, 22, 71] [] [] (pe 0 (Zq (Qu k3 (by omega))) p0) ?_
         exact Exists.intro (s3.1, s3.2) (And.intro (Qc (by kernel_rfl)) ⟨Qv hx3 (Qk h18 (Qk h22 (rfl))) hI3.1, (by first | omega | (simp only [List.length_set]; omega))⟩)
      ·
       have hA3_0 := hI3.2
       refine su Qa [(72, .b false)] [] [] [] (pe 0 (Qs (decide_eq_false (p := ((k3 : Nat) : Int) < (d.length : Int)) (by omega))) p0) ?_
       refine Qd ?_
       refine ckF ?_
       refine Qz ?_
       exact Exists.intro (s3.1, s3.2) (And.intro (Qc (by kernel_rfl)) ⟨Xm hk3 (rfl) hI3.1, by first | omega | (simp only [List.length_set]; omega)⟩)
      ·
       have hD3_0 := hD3.2
       exact Exists.intro (y3.1, IntKind.i64.wrap (s2.2.1 + 1), y3.2) (And.intro (Qc (by kernel_rfl)) ⟨wn hI2.1 (Q4 h10 (V2 hD3.1 (rfl))), (by first | omega | (simp only [List.length_set]; omega))⟩)
     ·
      refine Qz ?_
      exact Exists.intro _ (And.intro (Qc (by kernel_rfl)) (wb hI2.1 (Qk h10 (rfl))))
    ·
     refine rn Qa [1, 3, 4, 8, 9, 10, 11, 13, 17, 18] [4] (pe 1 (Zq (Qu k1 (by omega))) p0) ?_
     exact Exists.intro (y2.1, y2.2) (And.intro (Qc (by kernel_rfl)) ⟨Kf hk1 (V2 hD2 (rfl)) hI1.1, (by first | exact evaluated_next (by assumption) (by assumption) (by assumption) | exact evS_len (fs := s_.2.1) (evaluated_next (by assumption) (by assumption) (by assumption))), (by first | exact evaluated_next (by assumption) (by assumption) (by assumption) | exact evS_len (fs := s_.2.1) (evaluated_next (by assumption) (by assumption) (by assumption)))⟩)
   ·
    have hA1_0 := hI1.2.1
    have hA1_1 := hI1.2.2
    refine Qd ?_
    refine su Qa [(63, .b false)] [] [] [] (pc 2 (implMaxStratum_a d) (pe 3 (Qs (decide_eq_false (p := ((k1 : Nat) : Int) ≤ (Jr d)) (by omega))) p0)) ?_
    refine ckF ?_
    refine Qz ?_
    exact Exists.intro _ (And.intro (Qc (by kernel_rfl)) (forN_end hk1 (rfl) hI1.1))
   ·
    refine sn Qa [8, 9, 10] [] (p0) ?_
    refine Qe ?_
    exact pz [] (show Yu s_ d r names = _ from Qk h2 (V2 hD0 (V2 hD1 (rfl)))) (fun z => .tup [(false, [.o 0 z.1]), (false, [.i z.2.1]), (false, [.b z.2.2])])
def Je (s_ : Q2) (d : (List Yq)) : (List Qp) × Bool := (((Yu s_ d [] (Yj d))).1, ((Yu s_ d [] (Yj d))).2.2)
theorem implEvaluate_a (s_ : Q2) (d : (List Yq)) : ACalls Tryz.prog 56 [.a [.h s_.1, .h s_.2.1, .i s_.2.2], .h d] (.tup [(false, [.o 0 (((Je s_ d)).1)]), (false, [.b (((Je s_ d)).2)])]) := by
 refine en Qa Tryz.func56 fun w0 F0 hG => ?_
 refine sn Qa [1, 2, 4, 5] [2] (p0) ?_
 refine tN Qa Yr [4, 5, 6, 8] [] (pc 3 (implDirNames_a d) (pc 4 (acalls_args (.cons (ArgLe.rfl _) ( .cons (ArgLe.rfl _) ( .cons (ArgLe.nil 2) ( .cons (ArgLe.rfl _) (.nil))))) (implevaluated_a s_ d [] (Yj d))) p0)) ?_
 refine tu Qa [(4, .o 896 (((Yu s_ d [] (Yj d))).1)), (5, .b (((Yu s_ d [] (Yj d))).2.2))] [0, 1] [] [] (p0) ?_
 refine Qe ?_
 exact pz [] (show Je s_ d = (((Yu s_ d [] (Yj d))).1, ((Yu s_ d [] (Yj d))).2.2) from rfl) (fun z => .tup [(false, [.o 0 z.1]), (false, [.b z.2])])
def V4 (_ : Nat) (a0 : Int) (s0 : Int) : Rd (Int) (Int) (Int) := (bif decide (a0 > s0) then (.next a0) else (.next s0))
def specMaxStratum_e0 (_ : Nat) (s0 : Int) : Int := s0
def K5 (d : (List Yq)) : Int := (Out.on (Xp V4 specMaxStratum_e0 (((Xn d)).1) 0 (-1)) (fun y0 => y0))
theorem specMaxStratum_a (d : (List Yq)) : ACalls Tryz.prog 134 [.h d] (.i (K5 d)) := by
 refine en Qa Tryz.func134 fun w0 F0 hG => ?_
 refine sn Qa [0, 2] [] (p0) ?_
 refine tn Qa [2, 3] [] (pc 1 (specStrata_a d) p0) ?_
 refine tu Qa [(2, .i 0), (3, .o 576 (((Xn d)).1)), (5, .i (-1))] [0] [] [] (p0) ?_
 refine Qd ?_
 refine sn Qa [2, 3, 5, 6] [] (p0) ?_
 refine mz [(6, .i 0)] [] [] [] ?_
 refine wT 3 0 (.own true 576) (((Xn d)).1) (fun hw1 hl2 => ?_)
 refine blL0 V4 specMaxStratum_e0 (((Xn d)).1) (-1) (fun k0 s0 => [(5, .i s0), (6, .i ((k0 : Nat) : Int))]) [5, 6] (fun y0 => [(5, .i y0)]) [3, 5, 6] (Qc (by kernel_rfl)) (fun k0 s0 hk0 hI0 => ?_) (fun k0 s0 hk0 hI0 => ?_) (fun y0 hD0 => ?_)
 ·
  obtain ⟨a0, hx0⟩ := Xl (l := ((Xn d)).1) (i := k0) hk0
  refine Qd ?_
  refine sn Qa [2, 3, 5, 6, 15] [] (pl 2 (((Xn d)).1) (pe 3 (Qs (decide_eq_true (p := ((k0 : Nat) : Int) < ((((Xn d)).1).length : Int)) (by omega))) p0)) ?_
  refine ckT ?_
  refine Qf ?_
  refine Qd ?_
  refine Qr ?_
  refine tn Qa [2, 3, 5, 6, 23] [] (pN 2 hx0 p0) ?_
  refine ck (decide (a0 > s0)) (fun h3 => ?_) (fun h3 => ?_)
  ·
   have h3d := of_decide_eq_true h3
   refine qu Qa [(5, .i a0)] [5] [] [] (pN 2 hx0 p0) ?_
   refine rn Qa [2, 3, 5, 6] [] (pe 1 (Zq (Qu k0 (by omega))) p0) ?_
   exact Exists.intro _ (And.intro (Qc (by kernel_rfl)) (Qv hx0 (Q4 h3 (rfl)) hI0))
  ·
   have h3d := of_decide_eq_false h3
   refine Qf ?_
   refine qu Qa [(6, .i ((k0 + 1 : Nat) : Int))] [6] [] [] (pe 1 (Zq (Qu k0 (by omega))) p0) ?_
   exact Exists.intro _ (And.intro (Qc (by kernel_rfl)) (Qv hx0 (Qk h3 (rfl)) hI0))
 ·
  refine Qd ?_
  refine sn Qa [2, 3, 5, 6, 15] [] (pl 2 (((Xn d)).1) (pe 3 (Qs (decide_eq_false (p := ((k0 : Nat) : Int) < ((((Xn d)).1).length : Int)) (by omega))) p0)) ?_
  refine ckF ?_
  refine Qz ?_
  exact Exists.intro _ (And.intro (Qc (by kernel_rfl)) (Xm hk0 (rfl) hI0))
 ·
  refine sn Qa [2] [] (p0) ?_
  refine Qe ?_
  exact pi [] (V2 hD0 (rfl))
def specl15Run_f0 (_ : Nat) (a0 : Yq) (s0 : (List Qp)) : Rd ((List Qp) × Int × Bool) ((List Qp)) ((List Qp)) := (.next (s0 ++ [((a0.1, []) : Qp)]))
def specl15Run_e0 (_ : Nat) (s0 : (List Qp)) : (List Qp) := s0
def Wv (s_ : Q2) (d : (List Yq)) (k1 : Nat) (k3 : Nat) (a3 : Yq) (s3 : (List Qp) × Bool) : Rd (Rd (Rd ((List Qp) × Int × Bool) ((List Qp) × Int) ((List Qp) × Int)) ((List Qp) × Int × Bool) ((List Qp) × Int)) ((List Qp) × Bool) ((List Qp) × Bool) := (bif ((nth (((Xn d)).1) k3) != ((k1 : Nat) : Int)) then (.next (s3.1, s3.2)) else (bif (!(Vg (Y2 s_ a3.2 s3.1) ((nth s3.1 k3).2))) then (.next (List.set s3.1 k3 ((nth s3.1 k3).1, (Y2 s_ a3.2 s3.1)), true)) else (.next (s3.1, s3.2))))
def specl15Run_e3 (_ : Nat) (s3 : (List Qp) × Bool) : (List Qp) × Bool := (s3.1, s3.2)
def Vx (s_ : Q2) (d : (List Yq)) (k1 : Nat) (s2 : (List Qp) × Int × Bool) : Rd (Rd ((List Qp) × Int × Bool) ((List Qp) × Int) ((List Qp) × Int)) ((List Qp) × Int × Bool) ((List Qp) × Int) := (bif s2.2.2 then (Out.on (Xp (Wv s_ d k1) specl15Run_e3 d 0 (s2.1, false)) (fun y3 => (.next (y3.1, IntKind.i64.wrap (s2.2.1 + 1), y3.2)))) else (.brk (s2.1, s2.2.1)))
def specl15Run_f1 (s_ : Q2) (d : (List Yq)) (k1 : Nat) (s1 : (List Qp) × Int) : Rd ((List Qp) × Int × Bool) ((List Qp) × Int) ((List Qp) × Int) := (Out.on (whlD (Vx s_ d k1) (List.length d * List.length s_.2.1 + 2) (s1.1, s1.2, true)) (fun y2 => (.next (y2.1, y2.2))))
def specl15Run_e1 (_ : Nat) (s1 : (List Qp) × Int) : (List Qp) × Int := (s1.1, s1.2)
def V5 (s_ : Q2) (d : (List Yq)) : (List Qp) × Int × Bool := (bif ((!(((Xn d)).2)) || (!(Xi s_))) then ([], 0, false) else (Out.on (Xp specl15Run_f0 specl15Run_e0 d 0 []) (fun y0 => (Out.on (Vw (specl15Run_f1 s_ d) specl15Run_e1 (Int.toNat ((K5 d) + 1)) 0 (y0, 0)) (fun y1 => (y1.1, y1.2, true))))))
theorem maxS_go {B : Int} : ∀ (x : List Int) (k : Nat) (s : Int), (∀ a, a ∈ x → a ≤ B) → s ≤ B → ∃ t, Xp V4 specMaxStratum_e0 x k s = .brk t ∧ t ≤ B
 | [], k, s, _, h => ⟨s, rfl, h⟩
 | a :: x, k, s, hx, h => by
  simp only [Xp, V4]
  cases hc : decide (a > s) with
  | true => exact maxS_go x (k + 1) a (fun b hb => hx b (List.mem_cons_of_mem _ hb)) (hx a (List.mem_cons_self ..))
  | false => exact maxS_go x (k + 1) s (fun b hb => hx b (List.mem_cons_of_mem _ hb)) h
theorem strata_factsS {d : List Yq} (h : ((Xn d)).2 = true) : List.length ((Xn d)).1 = List.length d ∧ List.length d ≤ 5 ∧ K5 d ≤ 5 := by
 have h' := h
 rw [strata_alike] at h'
 obtain ⟨h1, h2, h3⟩ := strata_small h'
 unfold K5
 rw [strata_alike]
 obtain ⟨t, e, ht⟩ := maxS_go (B := 5) ((Qo d)).1 0 (-1) (fun a ha => (h3 a ha).2) (by omega)
 refine ⟨h1, h2, ?_⟩
 rw [e]; exact ht
theorem l15Run_step (s_ : Q2) (d : List Yq) (k1 : Nat) : StepE s_ d (Qo d).1 (fun _ => true) (k1 : Int) (Wv s_ d k1) := by
 intro k a o c hk
 unfold Wv actD
 rw [ints_dec, strata_alike, ← select_eq]
 simp only [bne]
 cases (nth (Qo d).1 k == (k1 : Int)) <;> rfl
section
variable {s_ : Q2} {d : List Yq} {k1 : Nat} {o : List Qp} {p : Int}
theorem l15Run_run (hS : ((Xn d)).2 = true) (h : EvS d ((Xn d)).1 (fun _ => true) s_.2.1 (k1 : Int) o) : ∃ o' p', whl (Vx s_ d k1) (List.length d * List.length s_.2.1 + 2) (o, p, true) = some (.brk (o', p')) ∧ EvS d ((Xn d)).1 (fun _ => true) s_.2.1 ((k1 : Int) + 1) o' := by
 rw [strata_alike] at hS h ⊢
 exact ev_run (f := Wv s_ d k1) (e := specl15Run_e3) (l15Run_step s_ d k1) (fun _ _ => rfl) (fun _ => rfl) (Prod.ext rfl hS) h p
theorem l15Run_w (hS : ((Xn d)).2 = true) (h : EvS d ((Xn d)).1 (fun _ => true) s_.2.1 (((k1 : Nat)) : Int) o) : (whl (Vx s_ d k1) (List.length d * List.length s_.2.1 + 2) (o, p, true)).isSome = true := by
 obtain ⟨o', p', h1, _⟩ := l15Run_run (p := p) hS h
 rw [h1]; rfl
theorem l15Run_next {y : List Qp × Int} (hS : ((Xn d)).2 = true) (h : EvS d ((Xn d)).1 (fun _ => true) s_.2.1 (((k1 : Nat)) : Int) o) (hy : whlD (Vx s_ d k1) (List.length d * List.length s_.2.1 + 2) (o, p, true) = .brk y) : EvS d ((Xn d)).1 (fun _ => true) s_.2.1 ((((k1 + 1) : Nat)) : Int) y.1 := by
 obtain ⟨o', p', h1, h2⟩ := l15Run_run (p := p) hS h
 unfold whlD at hy
 rw [h1] at hy
 have e : (o', p') = y := by simpa using hy
 rw [← e, Int.natCast_add]; exact h2
theorem Ue (hy : Xp specl15Run_f0 specl15Run_e0 d 0 [] = .brk o) : EvS d ((Xn d)).1 (fun _ => true) s_.2.1 (((0 : Nat)) : Int) o := by
 obtain ⟨h1, h2⟩ := ev_start (L := ((Xn d)).1) (on := fun _ => true) (fs := s_.2.1) (g := fun _ => []) (f := specl15Run_f0) (e := specl15Run_e0) (d := d) (fun k a s => rfl) (fun j _ hj => rfl)
 rw [h1] at hy
 have e : (d.map fun a => ((a.1, ([] : List Int)) : Qp)) = o := Out.brk.inj hy
 rw [← e]; exact h2
end
theorem specl15Run_a (s_ : Q2) (d : (List Yq)) : ACalls Tryz.prog 84 [.a [.h s_.1, .h s_.2.1, .i s_.2.2], .h d] (.tup [(false, [.o 0 (((V5 s_ d)).1)]), (false, [.i (((V5 s_ d)).2.1)]), (false, [.b (((V5 s_ d)).2.2)])]) := by
 refine en Qa Tryz.func84 fun w0 F0 hG => ?_
 refine sn Qa [1, 2, 4, 5, 6] [2] (p0) ?_
 refine tn Qa [1, 2, 4, 5, 6, 7, 8] [2] (pc 1 (specStrata_a d) p0) ?_
 refine Qd ?_
 refine Qd ?_
 refine mz [(2, .p 2 0), (4, .e 0), (5, .i 0), (6, .b false), (7, .o 1152 (((Xn d)).1)), (8, .b (((Xn d)).2))] [0] [(2, [.h s_.1, .h s_.2.1, .i s_.2.2])] [] ?_
 refine jn [(27, .b ((!(((Xn d)).2)) || (!(Xi s_))))] [8] [] [] (!(((Xn d)).2)) (fun h1 => ?_) (fun h1 => ?_) ?_
 ·
  have h1n : (((Xn d)).2) = false := bnot_t h1
  refine ru Qa [(27, .b true)] [8] [] [] (pf 0 h1n (pe 1 (show .b (!false) = .b true from rfl) p0)) ?_
  exact ⟨rfl, Qc (by rw [h1]; first | done | kernel_rfl)⟩
 ·
  have h1n : (((Xn d)).2) = true := Kg h1
  have h1nsf := strata_factsS h1n
  refine rn Qa [1, 2, 4, 5, 6, 7, 27] [2] (pt 0 h1n (pe 1 (show .b (!true) = .b false from rfl) (pc 4 (Kj s_) p0))) ?_
  exact ⟨rfl, Qc (by rw [h1]; first | done | kernel_rfl)⟩
 refine ck ((!(((Xn d)).2)) || (!(Xi s_))) (fun h2 => ?_) (fun h2 => ?_)
 ·
  refine sn Qa [1, 2, 4, 5, 6, 7] [2] (p0) ?_
  refine Qe ?_
  exact pz [] (show V5 s_ d = _ from Q4 h2 (rfl)) (fun z => .tup [(false, [.o 0 z.1]), (false, [.i z.2.1]), (false, [.b z.2.2])])
 ·
  have h2l : ((!(((Xn d)).2))) = false := or_l h2
  have h2ln : (((Xn d)).2) = true := Kg h2l
  have h2lnsf := strata_factsS h2ln
  have h2r : ((!(Xi s_))) = false := or_r h2
  have h2rn : (Xi s_) = true := Kg h2r
  refine Qf ?_
  refine sn Qa [1, 2, 4, 5, 6, 7, 9] [2] (p0) ?_
  refine Qd ?_
  refine tn Qa [1, 2, 4, 5, 6, 7, 9, 10] [2] (p0) ?_
  refine mz [(9, .one (.slc (.own true 1856) 2 [])), (10, .i 0)] [27] [] [] ?_
  refine wT 1 0 .sh d (fun hw3 hl4 => ?_)
  refine blL1 specl15Run_f0 specl15Run_e0 d [] (fun k0 s0 => [(9, .o 147206 s0), (10, .i ((k0 : Nat) : Int))]) [9, 10] (fun y0 => [(9, .o 147356 y0)]) [9, 10] (fun k0 s0 => List.length s0 ≤ k0) (Xx [(1856, 147206)] (by kernel_rfl)) (by simp) (fun k0 s0 hk0 hI0 => ?_) (fun k0 s0 hk0 hI0 => ?_) (fun y0 hD0 => ?_)
  ·
   have hA0_0 := hI0.2
   obtain ⟨a0, hx0⟩ := Xl (l := d) (i := k0) hk0
   refine Qd ?_
   refine su Qa [(33, .b true)] [] [] [] (pl 2 d (pe 3 (Qs (decide_eq_true (p := ((k0 : Nat) : Int) < (d.length : Int)) (by omega))) p0)) ?_
   refine ckT ?_
   refine Qf ?_
   refine Qd ?_
   refine Qr ?_
   refine wT 9 0 (.own true 147206) s0 (fun hw5 hl6 => ?_)
   refine ru Qa [(9, .one (.slc (.own true 2880) 2 ((eL s0) ++ [[.s a0.1, .slc 1 []]])))] [9, 33] [] [] (pn 3 hx0 (pa s0 [((a0.1, []) : Qp)] p0)) ?_
   refine eqn [(9, .o 2880 (s0 ++ [((a0.1, []) : Qp)]))] [9] [] [] (by rw [show ((eL s0) ++ [[.s a0.1, .slc 1 []]]) = (eL (s0 ++ [((a0.1, []) : Qp)])) from Kc (rfl) (rfl)]; first | done | kernel_rfl) ?_
   refine rn Qa [1, 2, 4, 5, 6, 7, 9, 10] [2] (pe 1 (Zq (Qu k0 (by omega))) p0) ?_
   exact Exists.intro (s0 ++ [((a0.1, []) : Qp)]) (And.intro (Xx [(2880, 147206)] (by kernel_rfl)) ⟨Qv hx0 (rfl) hI0.1, by first | omega | (simp; omega) | simp⟩)
  ·
   have hA0_0 := hI0.2
   refine Qd ?_
   refine su Qa [(33, .b false)] [] [] [] (pl 2 d (pe 3 (Qs (decide_eq_false (p := ((k0 : Nat) : Int) < (d.length : Int)) (by omega))) p0)) ?_
   refine ckF ?_
   refine Qz ?_
   exact Exists.intro _ (And.intro (Xx [(147206, 147356)] (by kernel_rfl)) (Xm hk0 (rfl) hI0.1))
  ·
   refine su Qa [(11, .i 0)] [] [] [] (p0) ?_
   refine Qd ?_
   refine su Qa [(12, .i 0)] [] [] [] (p0) ?_
   refine blN1b (specl15Run_f1 s_ d) specl15Run_e1 (Int.toNat ((K5 d) + 1)) (y0, 0) (fun k1 s1 => [(9, .o 147356 s1.1), (11, .i s1.2), (12, .i ((k1 : Nat) : Int))]) [9, 11, 12] (fun _ _ => []) [] (fun y1 => [(9, .o 147356 y1.1), (11, .i y1.2)]) [1, 2, 7, 9, 11, 12] (fun _ => []) [2] (fun k1 s1 => EvS d ((Xn d)).1 (fun _ => true) s_.2.1 (((k1 : Nat)) : Int) s1.1 ∧ List.length s1.1 = List.length d) (Qc (by kernel_rfl)) ⟨(by first | exact Ue hD0 | exact Ue hD0.1 | exact evS_len (fs := s_.2.1) (Ue hD0) | exact evS_len (fs := s_.2.1) (Ue hD0.1)), (by first | exact Ue hD0 | exact Ue hD0.1 | exact evS_len (fs := s_.2.1) (Ue hD0) | exact evS_len (fs := s_.2.1) (Ue hD0.1))⟩ (fun k1 s1 hk1 hI1 => ?_) (fun k1 s1 hk1 hI1 => ?_) (fun y1 hD1 => ?_)
   ·
    have hA1_0 := hI1.2.1
    have hA1_1 := hI1.2.2
    refine Qd ?_
    refine su Qa [(49, .b true)] [] [] [] (pc 2 (specMaxStratum_a d) (pe 3 (Qs (decide_eq_true (p := ((k1 : Nat) : Int) ≤ (K5 d)) (by omega))) p0)) ?_
    refine ckT ?_
    refine Qf ?_
    refine Qd ?_
    refine Qr ?_
    refine su Qa [(13, .b true)] [49] [] [] (p0) ?_
    refine blw (fun (s2 : (List Qp) × Int × Bool) => [(9, .o 147356 s2.1), (11, .i s2.2.1), (13, .b s2.2.2)]) [9, 11, 13] (fun s2 => []) [] (fun (y2 : (List Qp) × Int) => [(9, .o 147356 y2.1), (11, .i y2.2)]) [9, 11, 13] (fun y2 => []) [] (fun (k2 : Nat) (s2 : (List Qp) × Int × Bool) => whl (Vx s_ d k1) k2 s2 = some (whlD (Vx s_ d k1) (List.length d * List.length s_.2.1 + 2) (s1.1, s1.2, true)) ∧ List.length s2.1 = List.length d) (fun (y2 : (List Qp) × Int) => (whlD (Vx s_ d k1) (List.length d * List.length s_.2.1 + 2) (s1.1, s1.2, true)) = .brk y2) (List.length d * List.length s_.2.1 + 2) (s1.1, s1.2, true) (Qc (by kernel_rfl)) ⟨whl_some (l15Run_w (by assumption) (by assumption)), (by assumption)⟩ (fun _ h => whl_zero h.1) (fun k2 s2 hI2 => ?_) (fun y2 hD2 => ?_)
    ·
     have hA2_0 := hI2.2
     refine Qd ?_
     refine su Qa [(52, .b s2.2.2)] [] [] [] (p0) ?_
     refine ck s2.2.2 (fun h7 => ?_) (fun h7 => ?_)
     ·
      refine Qf ?_
      refine Qr ?_
      refine su Qa [(13, .b false)] [13, 52] [] [] (p0) ?_
      refine sn Qa [1, 2, 4, 5, 6, 7, 9, 11, 12, 13] [2] (p0) ?_
      refine tn Qa [1, 2, 4, 5, 6, 7, 9, 11, 12, 13, 14] [2] (p0) ?_
      refine mz [(11, .i (IntKind.i64.wrap (s2.2.1 + 1))), (14, .i 0)] [11] [] [] ?_
      refine blL3 (Wv s_ d k1) specl15Run_e3 d (s2.1, false) (fun k3 s3 => [(9, .o 147356 s3.1), (13, .b s3.2), (14, .i ((k3 : Nat) : Int))]) [9, 13, 14] (fun y3 => [(9, .o 147356 y3.1), (13, .b y3.2)]) [9, 13, 14] (fun _ s3 => List.length s3.1 = List.length s2.1) (fun y3 => List.length y3.1 = List.length s2.1) (Qc (by kernel_rfl)) (by simp) (fun k3 s3 hk3 hI3 => ?_) (fun k3 s3 hk3 hI3 => ?_) (fun y3 hD3 => ?_)
      ·
       have hA3_0 := hI3.2
       obtain ⟨a3, hx3⟩ := Xl (l := d) (i := k3) hk3
       refine Qd ?_
       refine su Qa [(58, .b true)] [] [] [] (pl 2 d (pe 3 (Qs (decide_eq_true (p := ((k3 : Nat) : Int) < (d.length : Int)) (by omega))) p0)) ?_
       refine ckT ?_
       refine Qf ?_
       refine Qd ?_
       refine Qr ?_
       refine Qd ?_
       refine wT 7 0 (.own true 1152) (((Xn d)).1) (fun hw9 hl10 => ?_)
       have hx8 := ng (((Xn d)).1) k3
       refine sn Qa [1, 2, 4, 5, 6, 7, 9, 11, 12, 13, 14, 66] [2] (pN 2 hx8 p0) ?_
       refine ck ((nth (((Xn d)).1) k3) != ((k1 : Nat) : Int)) (fun h11 => ?_) (fun h11 => ?_)
       ·
        have h11d := ne_of_bne h11
        refine Qz ?_
        refine qn Qa [1, 2, 4, 5, 6, 7, 9, 11, 12, 13, 14] [2] (pe 1 (Zq (Qu k3 (by omega))) p0) ?_
        exact Exists.intro (s3.1, s3.2) (And.intro (Qc (by kernel_rfl)) ⟨Qv hx3 (Q4 h11 (rfl)) hI3.1, (by first | omega | (simp only [List.length_set]; omega))⟩)
       ·
        have h11d := W7 h11
        refine Qf ?_
        refine tN Qa Yr [1, 2, 4, 5, 6, 7, 9, 11, 12, 13, 14, 15] [2] (pn 3 hx3 (pc 7 (specSelectFiles_a s_ a3.2 s3.1) p0)) ?_
        refine wT 9 0 (.own true 147356) s3.1 (fun hw13 hl14 => ?_)
        have hx12 := ng s3.1 k3
        refine tu Qa [(15, .o 4736 (Y2 s_ a3.2 s3.1)), (82, .b (!(Vg (Y2 s_ a3.2 s3.1) ((nth s3.1 k3).2))))] [58] [] [] (pN 3 hx12 (pc 6 (specl07Ints_a (Y2 s_ a3.2 s3.1) ((nth s3.1 k3).2)) p0)) ?_
        refine ck (!(Vg (Y2 s_ a3.2 s3.1) ((nth s3.1 k3).2))) (fun h15 => ?_) (fun h15 => ?_)
        ·
         have h15n : (Vg (Y2 s_ a3.2 s3.1) ((nth s3.1 k3).2)) = false := bnot_t h15
         refine su Qa [(9, .one (.slc (.own true 147356) 2 (setRow (eL s3.1) k3 1 [.h (Y2 s_ a3.2 s3.1)])))] [9, 15, 82] [] [] (pN 3 hx12 p0) ?_
         refine eqn [(9, .o 147356 (List.set s3.1 k3 ((nth s3.1 k3).1, (Y2 s_ a3.2 s3.1))))] [9] [] [] (by rw [Zd (y := ((nth s3.1 k3).1, (Y2 s_ a3.2 s3.1))) hx12 rfl]; first | done | kernel_rfl) ?_
         refine ru Qa [(13, .b true)] [13] [] [] (p0) ?_
         refine rn Qa [1, 2, 4, 5, 6, 7, 9, 11, 12, 13, 14] [2] (pe 1 (Zq (Qu k3 (by omega))) p0) ?_
         exact Exists.intro (List.set s3.1 k3 ((nth s3.1 k3).1, (Y2 s_ a3.2 s3.1)), true) (And.intro (Qc (by kernel_rfl)) ⟨Qv hx3 (Qk h11 (Q4 h15 (rfl))) hI3.1, (by first | omega | (simp only [List.length_set]; omega))⟩)
        ·
         have h15n : (Vg (Y2 s_ a3.2 s3.1) ((nth s3.1 k3).2)) = true := Kg h15
         refine Qf ?_
         refine rn Qa [1, 2, 4, 5, 6, 7, 9, 11, 12, 13, 14] [2] (pe 1 (Zq (Qu k3 (by omega))) p0) ?_
         exact Exists.intro (s3.1, s3.2) (And.intro (Qc (by kernel_rfl)) ⟨Qv hx3 (Qk h11 (Qk h15 (rfl))) hI3.1, (by first | omega | (simp only [List.length_set]; omega))⟩)
      ·
       have hA3_0 := hI3.2
       refine Qd ?_
       refine su Qa [(58, .b false)] [] [] [] (pl 2 d (pe 3 (Qs (decide_eq_false (p := ((k3 : Nat) : Int) < (d.length : Int)) (by omega))) p0)) ?_
       refine ckF ?_
       refine Qz ?_
       exact Exists.intro (s3.1, s3.2) (And.intro (Qc (by kernel_rfl)) ⟨Xm hk3 (rfl) hI3.1, by first | omega | (simp only [List.length_set]; omega)⟩)
      ·
       have hD3_0 := hD3.2
       exact Exists.intro (y3.1, IntKind.i64.wrap (s2.2.1 + 1), y3.2) (And.intro (Qc (by kernel_rfl)) ⟨wn hI2.1 (Q4 h7 (V2 hD3.1 (rfl))), (by first | omega | (simp only [List.length_set]; omega))⟩)
     ·
      refine Qz ?_
      exact Exists.intro _ (And.intro (Qc (by kernel_rfl)) (wb hI2.1 (Qk h7 (rfl))))
    ·
     refine rn Qa [1, 2, 4, 5, 6, 7, 9, 11, 12] [2] (pe 1 (Zq (Qu k1 (by omega))) p0) ?_
     exact Exists.intro (y2.1, y2.2) (And.intro (Qc (by kernel_rfl)) ⟨Kf hk1 (V2 hD2 (rfl)) hI1.1, (by first | exact l15Run_next (by assumption) (by assumption) (by assumption) | exact evS_len (fs := s_.2.1) (l15Run_next (by assumption) (by assumption) (by assumption))), (by first | exact l15Run_next (by assumption) (by assumption) (by assumption) | exact evS_len (fs := s_.2.1) (l15Run_next (by assumption) (by assumption) (by assumption)))⟩)
   ·
    have hA1_0 := hI1.2.1
    have hA1_1 := hI1.2.2
    refine Qd ?_
    refine su Qa [(49, .b false)] [] [] [] (pc 2 (specMaxStratum_a d) (pe 3 (Qs (decide_eq_false (p := ((k1 : Nat) : Int) ≤ (K5 d)) (by omega))) p0)) ?_
    refine ckF ?_
    refine Qz ?_
    exact Exists.intro _ (And.intro (Qc (by kernel_rfl)) (forN_end hk1 (rfl) hI1.1))
   ·
    refine sn Qa [4, 5, 6] [] (p0) ?_
    refine Qe ?_
    exact pz [] (show V5 s_ d = _ from Qk h2 (V2 hD0 (V2 hD1 (rfl)))) (fun z => .tup [(false, [.o 0 z.1]), (false, [.i z.2.1]), (false, [.b z.2.2])])
def specEvaluate (s_ : Q2) (d : (List Yq)) : (List Qp) × Bool := (((V5 s_ d)).1, ((V5 s_ d)).2.2)
theorem specEvaluate_a (s_ : Q2) (d : (List Yq)) : ACalls Tryz.prog 36 [.a [.h s_.1, .h s_.2.1, .i s_.2.2], .h d] (.tup [(false, [.o 0 (((specEvaluate s_ d)).1)]), (false, [.b (((specEvaluate s_ d)).2)])]) := by
 refine en Qa Tryz.func36 fun w0 F0 hG => ?_
 refine sn Qa [1, 2, 4, 5] [2] (p0) ?_
 refine tn Qa [4, 5, 6, 8] [] (pc 2 (specl15Run_a s_ d) p0) ?_
 refine tu Qa [(4, .o 768 (((V5 s_ d)).1)), (5, .b (((V5 s_ d)).2.2))] [0, 1] [] [] (p0) ?_
 refine Qe ?_
 exact pz [] (show specEvaluate s_ d = (((V5 s_ d)).1, ((V5 s_ d)).2.2) from rfl) (fun z => .tup [(false, [.o 0 z.1]), (false, [.b z.2])])
end Go.Proofs.YtcnkkobgogmakaaGreat
namespace Go.Proofs.YtcnkkobgogmakaaGreat
open Go.RowKit
theorem contains_iff (v : ByteArray) (l : List ByteArray) : Q6 l v = true ↔ v ∈ l := by
  unfold Q6 slicesIndex_string
  have key : ∀ (l : List ByteArray) (k : Nat), (0 : Int) ≤ ((Xp (K8 v) Wt l k ()).on fun _ => -1) ↔ v ∈ l := by
    intro l
    induction l with
    | nil => intro k; simp [Xp, Out.on]
    | cons a l ih =>
      intro k
      simp only [Xp, K8]
      have hab : (v.toList == a.toList) = decide (v = a) := toList_inj
      cases hc : (v.toList == a.toList) with
      | true =>
        obtain rfl : v = a := by rw [hc] at hab; exact of_decide_eq_true hab.symm
        simp [Out.on]
      | false =>
        have h : v ≠ a := by rw [hc] at hab; exact of_decide_eq_false hab.symm
        simp only [cond_false]
        refine (ih (k + 1)).trans ?_
        simp [h]
  exact decide_eq_true_iff.trans (key l 0)
theorem dirNames_eq (d : List Yq) : Yj d = d.map (·.1) := by
  unfold Yj
  rw [forL_map (f := implDirNames_f0) (g := fun a : Yq => a.1) (fun _ _ _ => rfl)]
  simp [Out.on, implDirNames_e0]
theorem contains_dir {d : List Yq} {i : Nat} {a : Yq} (h : d[i]? = some a) : Q6 (Yj d) a.1 = true := by
  rw [contains_iff, dirNames_eq]
  exact List.mem_map.2 ⟨a, List.mem_of_getElem? h, rfl⟩
/-! ### the greatest stratum -/
theorem max_fold (x : List Int) : ∀ (n k : Nat) (s : Int), k + 1 + n = x.length → Vw (Wl x) slicesMax_int_e0 n k s = .brk ((x.drop (k + 1)).foldl max s)
  | 0, k, s, h => by rw [List.drop_eq_nil_of_le (by omega)]; rfl
  | n + 1, k, s, h => by
    have hg : x[k + 1]? = some (nth x (k + 1)) := Ur (by omega)
    rw [drop_at hg]
    simp only [Vw, Wl, List.foldl_cons]
    exact max_fold x n (k + 1) _ (by omega)
theorem maxS_fold : ∀ (x : List Int) (k : Nat) (s : Int), Xp V4 specMaxStratum_e0 x k s = .brk (x.foldl max s)
  | [], k, s => rfl
  | a :: x, k, s => by
    simp only [Xp, V4, List.foldl_cons]
    by_cases h : a > s
    · rw [decide_eq_true h, cond_true, show max s a = a by omega]; exact maxS_fold x (k + 1) a
    · rw [decide_eq_false h, cond_false, show max s a = s by omega]; exact maxS_fold x (k + 1) s
theorem maxStratum_eq (d : List Yq) : K5 d = Jr d := by
  unfold K5 Jr
  rw [strata_alike, maxS_fold]
  simp only [Out.on]
  cases hs : (Qo d).2 with
  | false =>
    have : (Qo d).1 = [] := by
      unfold Qo at hs ⊢
      cases hv : Zx d with
      | false => rfl
      | true =>
        rw [hv] at hs
        simp only [Bool.not_true, cond_false] at hs ⊢
        have h5 := vdirs_len hv
        have hw := whl_climb (d := d) (f := Wq d) (e := Wr) (F := K3 d) (fun _ _ _ => rfl) (fun _ _ => rfl) (fun _ => rfl) (by omega) (d.length * d.length + 3) (List.replicate d.length 0) true (zeroL_ok _).1 (zeroL_ok _).2
        have hsome : (climb (Z9 d) d.length d.length (d.length * d.length + 3) (true, List.replicate d.length 0)).isSome = true := by
          have := implStrata_w d h5
          rw [Int.toNat_natCast, hw, Option.isSome_map] at this
          exact this
        obtain ⟨r, hr⟩ := Option.isSome_iff_exists.1 hsome
        unfold whlD at hs ⊢
        rw [Int.toNat_natCast, hw, hr] at hs ⊢
        cases r with
        | none => rfl
        | some M => simp [endD, Out.on] at hs
    rw [this]; rfl
  | true =>
    obtain ⟨h1, h2, h3⟩ := strata_small hs
    simp only [Bool.not_true, Bool.false_or]
    generalize (Qo d).1 = x at h3
    cases x with
    | nil => rfl
    | cons a x =>
      have h0 := (h3 a (List.mem_cons_self ..)).1
      have e : ((((a :: x).length : Nat) : Int) == (0 : Int)) = false := by
        rw [beq_eq_false_iff_ne, List.length_cons]; omega
      rw [e, cond_false]
      unfold slicesMax_int
      rw [max_fold _ _ _ _ (by simp; omega)]
      simp only [Out.on, List.foldl_cons, Nat.zero_add, List.drop_succ_cons, List.drop_zero]
      have e2 : nth (a :: x) 0 = a := rfl
      rw [show max (-1) a = a by omega, e2]
/-! ### the evaluation -/
theorem l15_f3 (s : Q2) (d : List Yq) (k1 k : Nat) (a : Yq) (t : List Qp × Bool) (h : d[k]? = some a) : Wv s d k1 k a t = Kp s d (Yj d) k1 k a t := by
  unfold Wv Kp
  rw [contains_dir h, strata_alike, ← select_eq, ints_dec, eqI_dec]
  simp
theorem l15_f2 (s : Q2) (d : List Yq) (k1 : Nat) : Vx s d k1 = J4 s d (Yj d) k1 := by
  funext t
  unfold Vx J4
  rw [forL_congr (f := Wv s d k1) (g := Kp s d (Yj d) k1) (e := specl15Run_e3) (e' := implevaluated_e3) (fun _ _ => rfl) d 0 _ (fun i a t h => by rw [Nat.zero_add]; exact l15_f3 s d k1 i a t h)]
theorem l15_eq (s : Q2) (d : List Yq) : V5 s d = Yu s d [] (Yj d) := by
  unfold V5 Yu
  rw [strata_alike, store_eq, maxStratum_eq]
  rw [forL_congr (f := specl15Run_f0) (g := Zz [] (Yj d)) (e := specl15Run_e0) (e' := J3) (fun _ _ => rfl) d 0 _ (fun i a t h => by unfold specl15Run_f0 Zz; rw [contains_dir h]; rfl)]
  congr 1
  congr 1
  funext y
  rw [show specl15Run_f1 s d = Kq s d (Yj d) from by funext k t; unfold specl15Run_f1 Kq; rw [l15_f2]]
  rfl
theorem evaluate_eq (s : Q2) (d : List Yq) : specEvaluate s d = Je s d := by
  unfold specEvaluate Je
  rw [l15_eq]
theorem evaluated_ok {s : Q2} {d : List Yq} {names : List ByteArray} {r : List Qp} (h : (Yu s d r names).2.2 = true) : List.length d ≤ 5 ∧ Xo s = true ∧ (Yu s d r names).1.map (·.1) = d.map (·.1) ∧ ∀ j, j < d.length → onD d names j = true → ∃ p : Xy → Bool, (nth (Yu s d r names).1 j).2 = sel s.2.1 (fun f => f.1) p := by
  unfold Yu at h ⊢
  cases hc : ((!(((Qo d)).2)) || (!(Xo s))) with
  | true => rw [hc] at h; simp at h
  | false =>
    have hs : ((Qo d)).2 = true := Kg (or_l hc)
    have hv : Xo s = true := Kg (or_r hc)
    simp only [cond_false]
    obtain ⟨h1, h2⟩ := ev_start (L := ((Qo d)).1) (on := onD d names) (fs := s.2.1) (g := startG r names) (f := Zz r names) (e := J3) (d := d) (fun k a s => by
      unfold Zz startG
      cases Q6 names a.1 <;> rfl) (fun j _ hj => by unfold onD at hj; unfold startG; rw [hj]; rfl)
    rw [h1]
    have key : ∀ (n k : Nat) (o : List Qp) (p : Int), EvS d ((Qo d)).1 (onD d names) s.2.1 (((k : Nat)) : Int) o → ∃ o' p', Vw (Kq s d names) implevaluated_e1 n k (o, p) = .brk (o', p') ∧ EvS d ((Qo d)).1 (onD d names) s.2.1 (((k + n : Nat)) : Int) o' := by
      intro n
      induction n with
      | zero => intro k o p ho; exact ⟨o, p, rfl, ho⟩
      | succ n ih =>
        intro k o p ho
        obtain ⟨o1, p1, g1, g2⟩ := evaluated_run (p := p) hs ho
        obtain ⟨o2, p2, g3, g4⟩ := ih (k + 1) o1 p1 (by rw [Int.natCast_add]; exact g2)
        refine ⟨o2, p2, ?_, by rw [show k + (n + 1) = k + 1 + n by omega]; exact g4⟩
        simp only [Vw]
        unfold Kq whlD
        rw [g1]
        exact g3
    obtain ⟨o, p, g1, g2⟩ := key (Int.toNat (Jr d + 1)) 0 _ 0 h2
    simp only [Out.on, J3]
    rw [g1]
    exact ⟨(strata_small hs).2.1, hv, g2.names, fun j hj hon => g2.some_ j hj hon⟩
theorem evaluate_ok {s : Q2} {d : List Yq} (h : (Je s d).2 = true) : List.length d ≤ 5 ∧ Xo s = true ∧ (Je s d).1.map (·.1) = d.map (·.1) ∧ ∀ x, x ∈ (Je s d).1 → ∃ p : Xy → Bool, x.2 = sel s.2.1 (fun f => f.1) p := by
  unfold Je at h ⊢
  obtain ⟨h1, h2, h3, h4⟩ := evaluated_ok h
  refine ⟨h1, h2, h3, fun x hx => ?_⟩
  obtain ⟨i, hi⟩ := List.getElem?_of_mem hx
  have hlen : (Yu s d [] (Yj d)).1.length = d.length := by have := congrArg List.length h3; simpa using this
  have hi' : i < (Yu s d [] (Yj d)).1.length := (List.getElem?_eq_some_iff.1 hi).1
  have hil : i < d.length := by omega
  have := h4 i hil (by unfold onD; exact contains_dir (Ur hil))
  rw [nth_of hi] at this
  exact this
theorem evaluate_no {s : Q2} {d : List Yq} (h : (Je s d).2 = false) : (Je s d).1 = [] := by
  unfold Je at h ⊢
  unfold Yu at h ⊢
  cases hc : ((!(((Qo d)).2)) || (!(Xo s))) with
  | true => rfl
  | false =>
    exfalso
    have hs : ((Qo d)).2 = true := Kg (or_l hc)
    rw [hc] at h
    simp only [cond_false] at h
    obtain ⟨h1, h2⟩ := ev_start (L := ((Qo d)).1) (on := onD d (Yj d)) (fs := s.2.1) (g := startG [] (Yj d)) (f := Zz [] (Yj d)) (e := J3) (d := d) (fun k a s => by
      unfold Zz startG
      cases Q6 (Yj d) a.1 <;> rfl) (fun j _ hj => by unfold onD at hj; unfold startG; rw [hj]; rfl)
    rw [h1] at h
    have key : ∀ (n k : Nat) (o : List Qp) (p : Int), EvS d ((Qo d)).1 (onD d (Yj d)) s.2.1 (((k : Nat)) : Int) o → ∃ y, Vw (Kq s d (Yj d)) implevaluated_e1 n k (o, p) = .brk y := by
      intro n
      induction n with
      | zero => intro k o p ho; exact ⟨_, rfl⟩
      | succ n ih =>
        intro k o p ho
        obtain ⟨o1, p1, g1, g2⟩ := evaluated_run (p := p) hs ho
        obtain ⟨y, g3⟩ := ih (k + 1) o1 p1 (by rw [Int.natCast_add]; exact g2)
        refine ⟨y, ?_⟩
        simp only [Vw]
        unfold Kq whlD
        rw [g1]
        exact g3
    obtain ⟨y, g1⟩ := key (Int.toNat (Jr d + 1)) 0 _ 0 h2
    simp only [Out.on, J3] at h
    rw [g1] at h
    cases h
end Go.Proofs.YtcnkkobgogmakaaGreat
namespace Go.Proofs.YtcnkkobgogmakaaGreat
open Go.RowKit
def takenJ (G : Nat → Prop) (L : List Nat) : Inj := ⟨G, fun k => if k = 63 then L else [], fun _ => 0⟩
theorem atake_of {P : Program} {tt : List (Nat × TI)} (htt : ttOk P tt = true) {f : Nat} {fn : Func} {c : Code} (hf : P.funcs[f]? = some fn) (hb : fn.body = some c) (hok : FnOk P f) {n : Nat} {l l' : List (List PV)} {args : List AV}
    (hn : args.length + 1 ≤ fn.ntmps) (hk : ∀ x, x ∈ args → ∀ c, c ∈ x.cells → c.key = none ∧ c.bkeys = []) {t : Nat} (hr : fn.results.toList = [.tmp t])
    (h : ∀ w0 F0, GoodAt P w0 → AWP P fn.ntmps w0 F0 c (fun e s => (e = .ret ∨ e = .normal) ∧ ∃ k, get s.tm t = some (.one (.slc (.own false k) n l'))) (entry (.one (.slc (.own false 63) n l) :: args))) : ATake P f n l args true false l' := by
  refine ⟨hok, fun w F G L v vals hgood hFG hGF hGs hnd hLG hrow hargs => calls_of_wp hf hb ?_⟩
  have hlen := hargs.length
  have hGF := hGF rfl
  have hL0 : (takenJ G L).L 63 = L := by show (if 63 = 63 then L else []) = L; simp
  refine wp_mono (h ⟨w, fun b => b ∈ L, none⟩ G hgood (takenJ G L) _ w ?_) ?_
  · have hLk : ∀ k b, b ∈ (takenJ G L).L k → k = 63 ∧ b ∈ L := fun k b hm => by
      have hm : b ∈ (if k = 63 then L else []) := hm
      split at hm
      · rename_i e; exact ⟨e, hm⟩
      · simp at hm
    refine { below := Base.Keeps.refl _, nodef := rfl, size := ?_, fl := fun b hb => ⟨hGs b hb, .inl hb⟩, f0 := fun b hb => hb, nd := fun k => ?_, lo := fun k b hb => ⟨.inr (hLk k b hb).2, hLG b (hLk k b hb).2⟩, dj := fun k k' b hb hb' => (hLk k b hb).1.trans (hLk k' b hb').1.symm, bo := fun k c hc => by simp [entry, get] at hc, nb := .inl rfl, cb := (fun b hb => by cases hb), bi := fun k k' c c' hc => by simp [entry, get] at hc, tm := fun t v' hv => ?_ }
    · simp; omega
    · show (if k = 63 then L else [] : List Nat).Nodup
      split
      · exact hnd
      · exact List.nodup_nil
    · obtain ⟨_, ht⟩ := get_entry hv
      have hall : All2 (AR (takenJ G L) w) (v :: vals) (.one (.slc (.own false 63) n l) :: args) := by
        refine .cons ?_ ?_
        · show OwnTop G ((takenJ G L).L 63) w v n l
          rw [hL0]
          exact OwnTop.keep hrow (fun b hb => ⟨hFG b hb, rfl⟩) fun _ _ => rfl
        · have key : ∀ {vs : List Value} {ys : List AV}, All2 (AR (argJ G) w) vs ys → (∀ x, x ∈ ys → ∀ c, c ∈ x.cells → c.key = none ∧ c.bkeys = []) → All2 (AR (takenJ G L) w) vs ys := by
            intro vs ys ha
            induction ha with
            | nil => intro _; exact .nil
            | cons h1 _ ih =>
              intro hx
              refine .cons (h1.keep fun c hc => ?_) (ih fun x hm => hx x (List.mem_cons_of_mem _ hm))
              obtain ⟨e1, e2⟩ := hx _ (List.mem_cons_self ..) c hc
              exact ⟨fun b hb => ⟨hb, rfl⟩, (fun k hk => by rw [e1] at hk; cases hk), (fun k hk => by rw [e2] at hk; simp at hk)⟩
          exact key hargs hk
      obtain ⟨u, hu, hr⟩ := hall.get' ht
      have hlt : t < (v :: vals).length := (List.getElem?_eq_some_iff.1 hu).1
      have : ((v :: vals).toArray ++ Array.replicate (fn.ntmps - (v :: vals).toArray.size) undef).getD t undef = u := by
        rw [Array.getD_eq_getD_getElem?, Array.getElem?_append_left (by simpa using hlt)]
        simp at hu ⊢
        rw [hu]; rfl
      rw [this]
      exact hr
  · rintro e a' w' ⟨J', s', hR, he, k, hkk⟩
    have hres : ∃ u, (results fn a'.tmps).run P w' = .ok u w' ∧ AR J' w' u (.one (.slc (.own false k) n l')) := by
      obtain ⟨us, hrun, hall⟩ := resOf_ok (P := P) htt hR (rs := [.tmp t]) (vs := [.one (.slc (.own false k) n l')]) (by simp [resOf, hkk])
      rw [← hr] at hrun
      have hm : (fn.results.mapM (resRun a'.tmps)).run P w' = .ok us.toArray w' := by
        rw [Array.mapM_eq_mapM_toList]
        simp [hrun]
      have hgen : (results fn a'.tmps).run P w' = .ok (if h : us.toArray.size = 1 then us.toArray[0] else .tuple us.toArray) w' := by
        rw [results_eq]
        simp only [Sem.run_bind, hm, Result.andThen_ok, Sem.run_pure]
      cases hall with
      | cons h1 h2 =>
        cases h2
        exact ⟨_, by rw [hgen]; simp, h1⟩
    obtain ⟨u, h1, h2⟩ := hres
    have hT : TRet F L w n false l' (.returned u) w' := by
      refine ⟨u, rfl, fun m hm hmL => ⟨hR.below.os, hR.below.tape, hR.below.output, hR.below.size, fun j hj => hR.below.block j (by show j < w.heap.size; omega) fun hx => by have := hmL j hx; omega⟩, fun b hb hn => hR.below.block b hb hn, J'.L k, hR.nd k, fun b hb => ?_, ?_⟩
      · obtain ⟨h3, h4, _⟩ := hR.lo k b hb
        exact ⟨h4, h3⟩
      · have h2 : OwnTop J'.F (J'.L k) w' u n l' := h2
        refine OwnTop.keep h2 (fun b hb => ⟨?_, rfl⟩) fun _ _ => rfl
        obtain ⟨h3, h4⟩ := hR.fl b hb
        rcases h4 with h4 | h4 | h4
        · exact .inl (hGF b h4)
        · exact .inr ⟨.inl h4, h3, fun hm => (hR.lo k b hm).2.2 hb⟩
        · exact .inr ⟨.inr h4, h3, fun hm => (hR.lo k b hm).2.2 hb⟩
    rcases he with rfl | rfl
    · exact ⟨hR.nodef, u, h1, hT⟩
    · exact ⟨hR.nodef, u, h1, hT⟩
end Go.Proofs.YtcnkkobgogmakaaGreat
namespace Go.Proofs.YtcnkkobgogmakaaGreat
open Go.RowKit
theorem getD_put' {a : Act} {t u : Nat} {v : Value} (ht : t < a.tmps.size) : (a.put (some t) v).tmps.getD u undef = if u = t then v else a.tmps.getD u undef := by
  simp only [Act.put, Array.getD_eq_getD_getElem?, Array.getElem?_setIfInBounds]
  by_cases h : u = t
  · subst h; simp [ht]
  · simp [h, Ne.symm h]
theorem nbeq_false {a b : Nat} : Nat.beq a b = false ↔ ¬ a = b := by
  cases h : Nat.beq a b with
  | true => simp [Nat.eq_of_beq_eq_true h]
  | false => simp; exact Nat.ne_of_beq_eq_false h
theorem put_self {a : Act} {t : Nat} {v : Value} (h : a.tmps.getD t undef = v) (ht : t < a.tmps.size) : a.put (some t) v = a := by
  have e : a.tmps.setIfInBounds t v = a.tmps := by
    apply Array.ext
    · simp
    · intro i h1 h2
      rw [Array.getElem_setIfInBounds]
      split
      · rename_i e; subst e; rw [← h, Array.getD_eq_getD_getElem?, Array.getElem?_eq_getElem ht]; rfl
      · rfl
  show ({ a with tmps := a.tmps.setIfInBounds t v } : Act) = a
  rw [e]
theorem zeros_vc : ∀ {vs : List Value} {cs : List C}, V7 vs cs = true → ∃ ps : List PV, ps.length = vs.length ∧ ∀ (X : Nat → Prop) (w : World), VC X w vs ps
  | [], [], _ => ⟨[], rfl, fun _ _ => .nil⟩
  | [], _ :: _, h => by simp [V7] at h
  | _ :: _, [], h => by simp [V7] at h
  | v :: vs, c :: cs, h => by
    simp only [V7, Bool.and_eq_true] at h
    obtain ⟨ps, h1, h2⟩ := zeros_vc h.2
    have hz := h.1
    unfold zeroOk at hz
    split at hz
    · rename_i k _ _ _
      simp only [Bool.and_eq_true, decide_eq_true_eq] at hz
      obtain ⟨⟨rfl, rfl⟩, rfl⟩ := hz
      exact ⟨.int k 0 :: ps, by simp [h1], fun X w => .cons (.int (by cases k <;> simp [InR, IntKind.min, IntKind.max, IntKind.bits, IntKind.signed])) (h2 X w)⟩
    · rename_i b _
      exact ⟨.bool b :: ps, by simp [h1], fun X w => .cons (.bool b) (h2 X w)⟩
    · rename_i s _
      have hs : s.size = 0 := by simp only [Bool.and_eq_true] at hz; exact Nat.eq_of_beq_eq_true hz.1
      exact ⟨.str s :: ps, by simp [h1], fun X w => .cons (.str (by rw [hs]; exact Nat.zero_le _)) (h2 X w)⟩
    · rename_i n
      exact ⟨.slc n [] :: ps, by simp [h1], fun X w => .cons (.emp none n (Nat.zero_le _)) (h2 X w)⟩
    · cases hz
theorem vr_zeros {X : Nat → Prop} {w : World} {n : Nat} {vs : List Value} {ps : List PV} (h : VC X w vs ps) (hn : ps.length = n) : ∀ m, VR X w n (List.replicate m vs).flatten (List.replicate m ps)
  | 0 => .nil n
  | m + 1 => by
    rw [List.replicate_succ, List.replicate_succ, List.flatten_cons]
    exact .cons h hn (vr_zeros h hn m)
theorem zero_cells {z : Array Value} {m : Nat} : (Builtin.zeroCells z m).toList = (List.replicate m z.toList).flatten := by
  have key : ∀ (l : List Value) (m : Nat), (List.range (m * l.length)).map (fun i => l[i % l.length]!) = (List.replicate m l).flatten := by
    intro l m
    induction m with
    | zero => simp
    | succ m ih =>
      rw [Nat.succ_mul, List.range_add, List.map_append, ih, List.replicate_succ', List.flatten_append]
      congr 1
      simp only [List.map_map, List.flatten_cons, List.flatten_nil, List.append_nil]
      apply List.ext_getElem
      · simp
      · intro i h1 h2
        simp only [List.length_map, List.length_range] at h1
        simp [Nat.mul_add_mod_self_right, Nat.mod_eq_of_lt h1, h2]
  rw [← key z.toList m]
  unfold Builtin.zeroCells
  rw [Array.toList_map, Array.toList_range]
  apply List.map_congr_left
  intro i _
  simp only [Array.length_toList, getElem!_def, Array.getElem?_toList]
theorem zero_one {vs : List Value} {cs : List C} (h : V7 vs cs = true) : ∀ v, v ∈ vs → v.oneCell' = true := by
  induction vs generalizing cs with
  | nil => intro v hv; simp at hv
  | cons v vs ih =>
    cases cs with
    | nil => simp [V7] at h
    | cons c cs =>
      simp only [V7, Bool.and_eq_true] at h
      intro u hu
      rcases List.mem_cons.1 hu with rfl | hu
      · have hz := h.1
        unfold zeroOk at hz
        split at hz <;> first | rfl | cases hz
      · exact ih h.2 u hu
section
variable {P : Program} {N : Nat} {w0 : Base} {F0 : Nat → Prop} {J : Inj} {a : Act} {w : World} {s : St} {Q : Exit → St → Prop}
theorem Rel.aside (h : Rel N w0 F0 J a w s) {d : Nat} (hd : d < N) (hn : get s.tm d = none) (v : Value) : Rel N w0 F0 J (a.put (some d) v) w s :=
  (h.pure (some d) (fun d' e => by cases e; exact hd) (.one .dead) v (fun _ => trivial)).less (fun t x hx => by
    show get (ins d _ s.tm) t = some x
    rw [get_ins, if_neg (fun e => by subst e; rw [hn] at hx; cases hx)]
    exact hx) (fun _ _ h => h)
theorem clear_run {tt : List (Nat × TI)} (htt : ttOk P tt = true) {sty ety z1 : Nat} {z2 : List C} {z3 : List LK} {ti : TI} (g1 : get tt sty = some ⟨.sli ety, z1, z2, z3⟩) (g2 : get tt ety = some ti)
    {g cap m i n : Nat} {cur : Array Value} {e : TypeId} (hn : ti.size = n) (hg : w.heap[g]? = some (.cells cur e (0, 0))) (hs : cur.size = cap * n) (hi : i < m) (hm : m ≤ cap) (ty : TypeId) :
    ∃ zs : List Value, ∃ ps : List PV, zs.length = n ∧ ps.length = n ∧ (∀ (X : Nat → Prop) (w : World), VC X w zs ps) ∧
      (Builtin.clear_ #[sty] ty #[.slice (some ⟨g, i * n, none⟩) (m - i) (cap - i)]).run P w = .ok (.tuple #[]) (w.setRow g (cur.toList.take (i * n) ++ (List.replicate (m - i) zs).flatten ++ cur.toList.drop (i * n + (m - i) * n)).toArray) := by
  obtain ⟨inf, z, hI, hsz, _, hz, hzs, hzo⟩ := (Yy htt g2).info
  obtain ⟨ps, p1, p2⟩ := zeros_vc hzo
  have hu := (Yy htt g1).sli
  have hzl : z.cells.toList.length = n := by simpa [hn] using hzs
  refine ⟨z.cells.toList, ps, hzl, by rw [p1, hzl], p2, ?_⟩
  obtain ⟨q, hq⟩ : ∃ q, m - i = q + 1 := ⟨m - i - 1, by omega⟩
  have hfl : ((List.replicate (m - i) z.cells.toList).flatten).length = (m - i) * n := by
    rw [List.length_flatten, List.map_replicate, hzl]; simp
  have h3 : i * n + (m - i) * n ≤ cap * n := by rw [← Nat.add_mul]; exact Nat.mul_le_mul_right n (by omega)
  have hst := run_storeCells_at P g (i * n) e ((List.replicate (m - i) z.cells.toList).flatten) 0 cur w hg (by rw [hfl, hs]; simpa using h3) (fun v hv => by
    obtain ⟨l, hl, hv⟩ := List.mem_flatten.1 hv
    rw [List.eq_of_mem_replicate hl] at hv
    exact zero_one hzo v hv)
  simp only [Nat.add_zero, hfl] at hst
  rw [hq] at hst ⊢
  simp [Builtin.clear_, run_underlying hu, zeroValue, Vy hI, hz, zero_cells, hst]
theorem awp_clear {tt : List (Nat × TI)} (htt : ttOk P tt = true) {id : Nat} {ops : Array Oper} {t0 t5 d1 d2 d3 sty ety z1 : Nat} {z2 : List C} {z3 : List LK} {ti : TI} {y1 y2 y3 y4 : TypeId} {q1 q2 q3 q4 : String} {f1 f2 f3 f4 : Array Edge}
    (hops : ops = #[⟨some d1, .move (.tmp t0), y1, q1, f1, none⟩, ⟨some d2, .move (.tmp t5), y2, q2, f2, none⟩, ⟨some d3, .slice sty (.tmp d1) (some (.tmp d2)) none none, y3, q3, f3, none⟩, ⟨none, .call { callee := .builtin .clear, args := #[.tmp d3], argTypes := #[sty] }, y4, q4, f4, none⟩])
    (hN : (Nat.blt d1 N && Nat.blt d2 N && Nat.blt d3 N && Nat.blt t0 N && !(Nat.beq d1 t0) && !(Nat.beq d1 t5) && !(Nat.beq d2 t0) && !(Nat.beq d2 t5) && !(Nat.beq d3 t0) && !(Nat.beq d3 t5) && !(Nat.beq d1 d2) && !(Nat.beq t0 t5)) = true)
    (g1 : get tt sty = some ⟨.sli ety, z1, z2, z3⟩) (g2 : get tt ety = some ti) {k n : Nat} {l : List (List PV)} (hk : get s.tm t0 = some (.one (.slc (.own false k) n l))) (hn : ti.size = n) {i : Int} (hi : get s.tm t5 = some (.one (.int .i64 i))) (h0 : 0 ≤ i) (hl : i < l.length)
    (hQ : ∀ l', l'.length = l.length → l'.take i.toNat = l.take i.toNat → Q .normal ⟨[(t0, .one (.slc (.own false (64 * t0)) n l')), (t5, .one (.int .i64 i))], []⟩) : AWP P N w0 F0 (.region id ops false) Q s := fun J a w hr => by
  simp only [Bool.and_eq_true, Nat.blt_eq, Bool.not_eq_true', nbeq_false] at hN
  obtain ⟨⟨⟨⟨⟨⟨⟨⟨⟨⟨⟨m1, m2⟩, m3⟩, m0⟩, n1⟩, n2⟩, n3⟩, n4⟩, n5⟩, n6⟩, n7⟩, n8⟩ := hN
  obtain ⟨j, rfl⟩ : ∃ j : Nat, i = (j : Int) := ⟨i.toNat, by omega⟩
  have hj : j < l.length := by omega
  have e0 : CR J w (a.tmps.getD t0 undef) (.slc (.own false k) n l) := hr.tm t0 _ hk
  have e5 : CR J w (a.tmps.getD t5 undef) (.int .i64 (j : Int)) := hr.tm t5 _ hi
  obtain ⟨e5, _⟩ := e5
  rcases (show OwnTop J.F (J.L k) w _ n l from e0) with ⟨e, _⟩ | ⟨g, cap, cur, e, hL, e0, hg, hs, hvr, hlc, hcap⟩
  · rw [e] at hj; simp at hj
  obtain ⟨zs, ps, hzl, hpl, hzv, hrun⟩ := clear_run (P := P) (w := w) htt g1 g2 hn hg hs hj hlc y4
  have hu := (Yy htt g1).sli
  have hsz := sizeOf_run (P := P) (Yy htt g2) w
  rw [hn] at hsz
  have hr5 : Rel N w0 F0 J a w ⟨[(t5, .one (.int .i64 (j : Int)))], []⟩ := hr.less (fun t v hv => by
    simp only [get] at hv
    split at hv
    · rename_i e; subst e; rw [hi]; exact hv
    · cases hv) (fun k c hc => by cases hc)
  have no : ∀ d, ¬ d = t5 → get (⟨[(t5, .one (.int .i64 (j : Int)))], []⟩ : St).tm d = none := fun d hd => by
    show (if t5 = d then _ else _) = none
    rw [if_neg (fun e => hd e.symm)]; rfl
  have s0 := hr.size
  have hr1 := (hr5.aside m1 (no _ n2) (.slice (some ⟨g, 0, none⟩) l.length cap)).aside m2 (no _ n4) (.int .i64 (j : Int))
  have hr3 := hr1.aside m3 (no _ n6) (.slice (some ⟨g, 0 + j * n, none⟩) (l.length - j) (cap - j))
  subst hops
  refine wp_region ?_
  show wpOps P _ (QX N w0 F0 Q) [0, 1, 2, 3] a w
  rw [wpOps_cons]; unfold wpOp
  simp only [List.getElem?_toArray, List.getElem?_cons_zero]
  rw [if_pos (by simp [Region.wanted])]
  refine .inl (Vn (v := .slice (some ⟨g, 0, none⟩) l.length cap) (w' := w) (by simp [execOp, e0, Act.eval]) ?_)
  rw [wpOps_cons]; unfold wpOp
  simp only [List.getElem?_toArray, List.getElem?_cons_succ, List.getElem?_cons_zero]
  rw [if_pos (by simp [Region.wanted])]
  have e5' : (a.put (some d1) (.slice (some ⟨g, 0, none⟩) l.length cap)).tmps.getD t5 undef = .int .i64 (j : Int) := (getD_put' (by omega)).trans ((if_neg (fun e => n2 e.symm)).trans e5)
  refine .inl (Vn (v := .int .i64 (j : Int)) (w' := w) (by simp [execOp, e5', Act.eval]) ?_)
  rw [wpOps_cons]; unfold wpOp
  simp only [List.getElem?_toArray, List.getElem?_cons_succ, List.getElem?_cons_zero]
  rw [if_pos (by simp [Region.wanted])]
  have hs1 : (a.put (some d1) (.slice (some ⟨g, 0, none⟩) l.length cap)).tmps.size = N := by simp [Act.put, s0]
  have ea : ((a.put (some d1) (.slice (some ⟨g, 0, none⟩) l.length cap)).put (some d2) (.int .i64 (j : Int))).eval (.tmp d1) = .slice (some ⟨g, 0, none⟩) l.length cap := (getD_put' (by omega)).trans ((if_neg n7).trans ((getD_put' (by omega)).trans (if_pos rfl)))
  have eb : ((a.put (some d1) (.slice (some ⟨g, 0, none⟩) l.length cap)).put (some d2) (.int .i64 (j : Int))).eval (.tmp d2) = .int .i64 (j : Int) := (getD_put' (by omega)).trans (if_pos rfl)
  have hsb : (Instr.sliceBounds true l.length cap (some (.int .i64 (j : Int))) none none).run P w = .ok (j, l.length, cap) w := by
    have e4 : ∀ c, (Instr.sliceBound (.int .i64 (j : Int)) l.length c).run P w = .ok j w := fun c => by
      have := bound_ok (P := P) (w := w) (k := .i64) (lo := (j : Int)) (code := c) (y := l.length) (by omega) (by omega)
      simpa using this
    unfold Instr.sliceBounds
    simp only [Sem.run_bind, Sem.run_pure, Result.andThen_ok]
    simp [e4]
  refine .inl (Vn (v := .slice (some ⟨g, 0 + j * n, none⟩) (l.length - j) (cap - j)) (w' := w) (by
    have hca : cap ≠ j := by omega
    simp [execOp, ea, eb, Instr.sliceAt, run_underlying hu, Instr.slice, hsb, hsz, hca, Addr.add_lit]) ?_)
  rw [wpOps_cons]; unfold wpOp
  simp only [List.getElem?_toArray, List.getElem?_cons_succ, List.getElem?_cons_zero]
  rw [if_pos (by simp [Region.wanted])]
  generalize ha2 : ((a.put (some d1) (.slice (some ⟨g, 0, none⟩) l.length cap)).put (some d2) (.int .i64 (j : Int))) = a2 at *
  have s2 : a2.tmps.size = N := hr1.size
  have ec : (a2.put (some d3) (.slice (some ⟨g, 0 + j * n, none⟩) (l.length - j) (cap - j))).eval (.tmp d3) = .slice (some ⟨g, j * n, none⟩) (l.length - j) (cap - j) := (getD_put' (by omega)).trans ((if_pos rfl).trans (by simp))
  have ec := ec
  simp only [Nat.zero_add] at ec
  refine .inl (Vn (v := .tuple #[]) (w' := w.setRow g (cur.toList.take (j * n) ++ (List.replicate (l.length - j) zs).flatten ++ cur.toList.drop (j * n + (l.length - j) * n)).toArray) (by
    simp [execOp, resolve, invoke, builtin, ec, hrun]) ?_)
  generalize ha3 : a2.put (some d3) (.slice (some ⟨g, 0 + j * n, none⟩) (l.length - j) (cap - j)) = a3 at *
  show QX N w0 F0 Q .normal a3 _
  have e03 : a3.tmps.getD t0 undef = .slice (some ⟨g, 0, none⟩) l.length cap := by
    rw [← ha3]
    refine (getD_put' (by omega)).trans ((if_neg (fun e => n5 e.symm)).trans ?_)
    rw [← ha2]
    exact (getD_put' (by omega)).trans ((if_neg (fun e => n3 e.symm)).trans ((getD_put' (by omega)).trans ((if_neg (fun e => n1 e.symm)).trans e0)))
  have hgk : g ∈ J.L k := by rw [hL]; exact List.mem_cons_self
  have hgF : ¬ J.F g := (hr.lo k g hgk).2.2
  generalize hw' : w.setRow g (cur.toList.take (j * n) ++ (List.replicate (l.length - j) zs).flatten ++ cur.toList.drop (j * n + (l.length - j) * n)).toArray = w'
  have hgw : w'.heap[g]? = some (.cells (cur.toList.take (j * n) ++ (List.replicate (l.length - j) zs).flatten ++ cur.toList.drop (j * n + (l.length - j) * n)).toArray e (0, 0)) := by rw [← hw']; exact setRow_heap w g cur _ e (0, 0) hg
  have hother : ∀ b, b ≠ g → w'.heap[b]? = w.heap[b]? := fun b hb => by rw [← hw']; exact setRow_other w g b _ hb
  have hsize : w'.heap.size = w.heap.size := by rw [← hw']; simp [World.setRow]
  have hbelow : w0.Keeps w' := by
    refine hr.below.step (by rw [← hw']; rfl) (by rw [← hw']; rfl) (by rw [← hw']; rfl) (by omega) fun b _ hnl => hother b fun e => ?_
    exact hnl (e ▸ (hr.lo k g hgk).1)
  have hfl : ((List.replicate (l.length - j) zs).flatten).length = (l.length - j) * n := by
    rw [List.length_flatten, List.map_replicate, hzl]; simp
  have hsum : j * n + (l.length - j) * n = l.length * n := by rw [← Nat.add_mul]; congr 1; omega
  have hle : l.length * n ≤ cap * n := Nat.mul_le_mul_right n hlc
  have hcl : cur.toList.length = cap * n := by simpa using hs
  have hjn : j * n ≤ cap * n := Nat.mul_le_mul_right n (by omega)
  have htl : (l.take j ++ List.replicate (l.length - j) ps).length = l.length := by simp; omega
  have hown : OwnTop (takeJ J w w' (64 * t0) k [] [g]).F [g] w' (.slice (some ⟨g, 0, none⟩) l.length cap) n (l.take j ++ List.replicate (l.length - j) ps) := by
    refine .inr ⟨g, cap, _, e, rfl, by rw [htl], hgw, ?_, ?_, by rw [htl]; exact hlc, by rw [htl]; exact hcap⟩
    · simp only [List.size_toArray, List.length_append, hfl, List.length_take, List.length_drop, hcl]
      omega
    · rw [htl]
      have : ((cur.toList.take (j * n) ++ (List.replicate (l.length - j) zs).flatten ++ cur.toList.drop (j * n + (l.length - j) * n)).toArray.toList.take (l.length * n)) = cur.toList.take (j * n) ++ (List.replicate (l.length - j) zs).flatten := by
        show ((_ : List Value) ++ _ ++ _).take _ = _
        have hln : (cur.toList.take (j * n) ++ (List.replicate (l.length - j) zs).flatten).length = l.length * n := by
          simp only [List.length_append, hfl, List.length_take, hcl]; omega
        rw [List.take_append_of_le_length (by omega), List.take_of_length_le (by omega)]
      rw [this]
      refine VR.append (vr_zeros (hzv _ _) hpl _) (VR.keep (X := J.F) (w := w) (fun b hb => ⟨.inl hb, hother b fun e => hgF (e ▸ hb)⟩) ?_)
      have h3 := hvr.take j
      rwa [List.take_take, Nat.min_eq_left (by omega)] at h3
  have hR := take_step hr3 (t := t0) (k := k) (n := n) m0 (frz := []) (L' := [g]) (by simp) (w' := w') (u := .slice (some ⟨g, 0, none⟩) l.length cap) (l' := l.take j ++ List.replicate (l.length - j) ps) (d := false) hbelow (by omega) (fun b hb hn => hother b fun e => hn (e ▸ hgk)) (by simp) (fun b hb => by
    obtain rfl := List.mem_singleton.1 hb
    exact ⟨by have := (hr.lo k b hgk).2.1; omega, .inr hgk⟩) (by
      show OwnTop _ ((takeJ J w w' (64 * t0) k [] [g]).L (64 * t0)) _ _ _ _
      rw [show (takeJ J w w' (64 * t0) k [] [g]).L (64 * t0) = [g] from if_pos rfl]
      exact hown)
  rw [put_self e03 (by rw [hr3.size]; exact m0)] at hR
  refine ⟨_, _, hR.less (s' := ⟨[(t0, .one (.slc (.own false (64 * t0)) n (l.take j ++ List.replicate (l.length - j) ps))), (t5, .one (.int .i64 (j : Int)))], []⟩) (fun t v hv => ?_) (fun k c hc => by cases hc), hQ _ htl (by simp [List.take_append, List.take_take]; omega)⟩
  show get (ins t0 _ [(t5, AV.one (.int .i64 (j : Int)))]) t = some v
  rw [get_ins]
  simp only [get] at hv ⊢
  exact hv
end
end Go.Proofs.YtcnkkobgogmakaaGreat
namespace Go.Proofs.YtcnkkobgogmakaaGreat
open Go.RowKit
section
variable {P : Program}
structure RowAt (w : World) (n : Nat) (oa : Option Addr) (m cap : Nat) (olds : List Value) : Prop where
  len : olds.length = m * n
  row : (oa = oa ∧ m = 0 ∧ cap = 0) ∨ ∃ g cur e, oa = some ⟨g, 0, none⟩ ∧ w.heap[g]? = some (.cells cur e (0, 0)) ∧ cur.size = cap * n ∧ cur.toList.take (m * n) = olds
  le : m ≤ cap
  cap : cap ≤ maxLen
  lim : m < 1073741824
  ones : ∀ u, u ∈ olds → u.oneCell' = true
structure Turned (w w' : World) (n : Nat) (oa : Option Addr) (cap : Nat) (u : Value) (m' : Nat) (news : List Value) : Prop where
  os : w'.os = w.os
  tape : w'.tape = w.tape
  output : w'.output = w.output
  size : w.heap.size ≤ w'.heap.size
  row : ∃ g' cap' cur' e', u = .slice (some ⟨g', 0, none⟩) m' cap' ∧ w'.heap[g']? = some (.cells cur' e' (0, 0)) ∧ cur'.size = cap' * n ∧ cur'.toList.take (m' * n) = news ∧ m' ≤ cap' ∧ cap' ≤ maxLen ∧
    ((oa = some ⟨g', 0, none⟩ ∧ 0 < cap ∧ ∀ b, b ≠ g' → w'.heap[b]? = w.heap[b]?) ∨ (w.heap.size ≤ g' ∧ g' < w'.heap.size ∧ ∀ b, b < w.heap.size → w'.heap[b]? = w.heap[b]?))
structure OneAt (w : World) (n : Nat) (oa : Option Addr) (cap : Nat) (vb voff : Nat) (vs : List Value) : Prop where
  len : vs.length = n
  cells : ∀ j u, vs[j]? = some u → w.cell? ⟨vb, voff + j, none⟩ = some u
  ones : ∀ u, u ∈ vs → u.oneCell' = true
  ne : ∀ g, oa = some ⟨g, 0, none⟩ → 0 < cap → vb ≠ g
theorem Turned.ret {F G : Nat → Prop} {L : List Nat} {w w' : World} {n : Nat} {oa : Option Addr} {cap : Nat} {u : Value} {m' : Nat} {news : List Value} (h : Turned w w' n oa cap u m' news) (hF : ∀ b, F b → b < w.heap.size ∧ b ∉ L) (hL : 0 < cap → ∃ g, oa = some ⟨g, 0, none⟩ ∧ L = [g]) (hLs : ∀ b, b ∈ L → b < w.heap.size)
    {l' : List (List PV)} (hv : VR F w n news l') (hm : l'.length = m') (hlim : m' ≤ 1073741824) : TRet F L w n false l' (.returned u) w' := by
  obtain ⟨g', cap', cur', e', rfl, hg, hs, ht, h1, h2, h3⟩ := h.row
  have hsame : ∀ b, b < w.heap.size → b ∉ L → w'.heap[b]? = w.heap[b]? := fun b hb hn => by
    rcases h3 with ⟨h3, hc, h4⟩ | ⟨_, _, h4⟩
    · obtain ⟨g, h5, rfl⟩ := hL hc
      rw [h3] at h5
      obtain rfl : g' = g := by simpa using h5
      exact h4 b fun e => hn (by simp [e])
    · exact h4 b hb
  refine ⟨_, rfl, fun m hm hmL => ⟨h.os, h.tape, h.output, h.size, fun b hb => hsame b (by omega) fun hx => by have := hmL b hx; omega⟩, hsame, [g'], by simp, fun b hb => ?_, ?_⟩
  · obtain rfl := List.mem_singleton.1 hb
    refine ⟨Q9 hg, ?_⟩
    rcases h3 with ⟨h3, hc, _⟩ | ⟨h3, _, _⟩
    · obtain ⟨g, h5, rfl⟩ := hL hc
      rw [h3] at h5
      obtain rfl : b = g := by simpa using h5
      exact .inr (by simp)
    · exact .inl h3
  · refine .inr ⟨g', cap', cur', e', rfl, by rw [hm], hg, hs, ?_, by rw [hm]; exact h1, h2, by rw [hm]; exact hlim⟩
    rw [hm, ht]
    exact hv.keep fun b hb => ⟨.inl hb, hsame b (hF b hb).1 (hF b hb).2⟩
end
end Go.Proofs.YtcnkkobgogmakaaGreat
namespace Go.Proofs.YtcnkkobgogmakaaGreat
open Go.RowKit
section
variable {P : Program} {t e : TypeId} {ei : TI} {w : World} {oa : Option Addr} {m cap i vb voff vc : Nat} {olds vs : List Value}
theorem OneAt.block {n : Nat} (h : OneAt w n oa cap vb voff vs) (h0 : 0 < n) : vb < w.heap.size ∧ ∃ arr tA fr, w.heap[vb]? = some (.cells arr tA fr) ∧ 0 < arr.size := by
  have hl : 0 < vs.length := by rw [h.len]; exact h0
  have hc := h.cells 0 vs[0] (List.getElem?_eq_getElem hl)
  unfold World.cell? at hc
  split at hc
  · rename_i arr tA fr hh
    refine ⟨Q9 hh, arr, tA, fr, hh, ?_⟩
    have hc : arr[voff + 0]? = some vs[0] := by simpa using hc
    have := (Array.getElem?_eq_some_iff.1 hc).1
    omega
  · cases hc
variable {g : Nat} {cur : Array Value} {e0 : TypeId}
end
end Go.Proofs.YtcnkkobgogmakaaGreat
namespace Go.Proofs.YtcnkkobgogmakaaGreat
open Go.RowKit
theorem atake_flat {P : Program} {f n : Nat} {l l' : List (List PV)} {args : List AV} (h : ATake P f n l args true false l') (hf : RowsLike l') : ATake P f n l args false false l' := by
  refine ⟨h.1, fun w F G L v vals hok hFG _ hGs hnd hLG hrow hargs => ?_⟩
  refine (h.2 w G G L v vals hok (fun _ h => h) (fun _ _ h => h) hGs hnd hLG (OwnTop.keep hrow (fun b hb => ⟨hFG b hb, rfl⟩) fun _ _ => rfl) hargs).mono ?_
  rintro e w' ⟨u, rfl, h1, h2, L', h3, h4, h5⟩
  refine ⟨u, rfl, h1, h2, L', h3, h4, ?_⟩
  rcases h5 with h5 | ⟨g, cap, cur, e, rfl, rfl, hg, hs, hr, h5, h6⟩
  · exact .inl h5
  · exact .inr ⟨g, cap, cur, e, rfl, rfl, hg, hs, OR.vr (VR.orr (w' := w') hr hf) fun b hb => (by simp at hb), h5, h6⟩
theorem rng_lc {n : Nat} {hi : Int} (h0 : 0 ≤ hi) (h1 : hi ≤ (n : Int)) : (0 : Int) ≤ 0 ∧ 0 ≤ hi ∧ hi ≤ (n : Int) := ⟨Int.le_refl _, h0, h1⟩
section
variable {α : Type} {p : α → Bool}
def ixF (p : α → Bool) : List α → Int
  | [] => -1
  | a :: l => bif p a then 0 else bif ixF p l == -1 then -1 else ixF p l + 1
theorem ixF_bd (p : α → Bool) : ∀ l : List α, -1 ≤ ixF p l ∧ ixF p l < l.length
  | [] => by simp [ixF]
  | a :: l => by
    have ih := ixF_bd p l
    simp only [ixF, List.length_cons]
    cases p a with
    | true => simp only [cond_true]; omega
    | false =>
      simp only [cond_false]
      cases h : (ixF p l == -1) with
      | true => simp only [cond_true]; omega
      | false => simp only [cond_false]; omega
theorem idx_go {f : Nat → α → Unit → Rd Int Unit Unit} {e : Nat → Unit → Unit} (hf : ∀ k a s, f k a s = bif p a then .ret ((k : Nat) : Int) else .next ()) : ∀ (l : List α) (k : Nat), Xp f e l k () = bif ixF p l == -1 then .brk () else .ret ((k : Int) + ixF p l)
  | [], k => rfl
  | a :: l, k => by
    simp only [Xp, hf, ixF]
    cases p a with
    | true => simp only [cond_true]; rw [show ((0 : Int) == -1) = false from rfl, cond_false, Int.add_zero]
    | false =>
      simp only [cond_false]
      rw [idx_go hf l (k + 1)]
      have hb := ixF_bd p l
      cases h : (ixF p l == -1) with
      | true => simp only [cond_true]; rfl
      | false =>
        have hne : ixF p l ≠ -1 := by simpa using h
        simp only [cond_false]
        rw [show (ixF p l + 1 == -1) = false by simp; omega, cond_false]
        congr 1; omega
theorem idx_eq {f : Nat → α → Unit → Rd Int Unit Unit} {e : Nat → Unit → Unit} (hf : ∀ k a s, f k a s = bif p a then .ret ((k : Nat) : Int) else .next ()) (l : List α) : Out.on (Xp f e l 0 ()) (fun _ => -1) = ixF p l := by
  rw [idx_go hf]
  cases h : (ixF p l == -1) with
  | true => simp only [cond_true, Out.on]; exact (by simpa using h : ixF p l = -1).symm
  | false => simp only [cond_false, Out.on]; omega
theorem ixF_none {l : List α} (h : ixF p l = -1) : ∀ a, a ∈ l → p a = false := by
  induction l with
  | nil => intro a ha; simp at ha
  | cons b l ih =>
    intro a ha
    have hb := ixF_bd p l
    simp only [ixF] at h
    cases hp : p b with
    | true => rw [hp] at h; simp at h
    | false =>
      rw [hp] at h
      simp only [cond_false] at h
      cases h2 : (ixF p l == -1) with
      | true => rcases List.mem_cons.1 ha with rfl | ha
                · exact hp
                · exact ih (by simpa using h2) a ha
      | false => rw [h2] at h; simp only [cond_false] at h; omega
theorem ixF_some {l : List α} {i : Nat} (h : ixF p l = (i : Int)) : (l.take i).filter (fun a => !p a) = l.take i ∧ ∃ a, l[i]? = some a ∧ p a = true := by
  induction l generalizing i with
  | nil => simp [ixF] at h
  | cons b l ih =>
    have hb := ixF_bd p l
    simp only [ixF] at h
    cases hp : p b with
    | true =>
      rw [hp] at h
      simp only [cond_true] at h
      obtain rfl : i = 0 := by omega
      exact ⟨rfl, b, rfl, hp⟩
    | false =>
      rw [hp] at h
      simp only [cond_false] at h
      cases h2 : (ixF p l == -1) with
      | true => rw [h2] at h; simp only [cond_true] at h; omega
      | false =>
        rw [h2] at h
        simp only [cond_false] at h
        have : ixF p l ≠ -1 := by simpa using h2
        obtain ⟨j, rfl⟩ : ∃ j, i = j + 1 := ⟨i - 1, by omega⟩
        obtain ⟨h3, a, h4, h5⟩ := ih (i := j) (by omega)
        exact ⟨by simp [hp, h3], a, by simpa using h4, h5⟩
theorem whl_more {R S T : Type} {f : S → Rd R S T} : ∀ {n m : Nat} {s : S} {x : Out R T}, whl f n s = some x → n ≤ m → whl f m s = some x
  | 0, _, _, _, h, _ => by simp [whl] at h
  | n + 1, 0, _, _, _, hm => absurd hm (Nat.not_succ_le_zero n)
  | n + 1, m + 1, s, x, h, hm => by
    simp only [whl] at h ⊢
    cases hf : f s with
    | brk t => rw [hf] at h; exact h
    | ret r => rw [hf] at h; exact h
    | next s' => rw [hf] at h; exact whl_more h (by omega)
variable [Inhabited α]
def DelStep {R : Type} (f : List α × Int × Int → Rd R (List α × Int × Int) (List α × Int)) (p : α → Bool) : Prop :=
  ∀ (s : List α) (i j : Nat), i < j → j ≤ 1073741824 → f (s, (i : Int), (j : Int)) = bif decide ((j : Int) < (s.length : Int)) then (bif p (nth s j) then .next (s, (i : Int), ((j + 1 : Nat) : Int)) else .next (s.set i (nth s j), ((i + 1 : Nat) : Int), ((j + 1 : Nat) : Int))) else .brk (s, (i : Int))
theorem del_run {R : Type} {f : List α × Int × Int → Rd R (List α × Int × Int) (List α × Int)} (hf : DelStep f p) (o : List α) (ho : o.length ≤ 1073741824) : ∀ (n : Nat) (s : List α) (i j : Nat), j + n = o.length → i < j → s.length = o.length → s.take i = (o.take j).filter (fun a => !p a) → s.drop j = o.drop j →
    ∃ s' i', whl f (n + 1) (s, (i : Int), (j : Int)) = some (.brk (s', ((i' : Nat) : Int))) ∧ s'.take i' = o.filter (fun a => !p a) ∧ i' < o.length ∧ s'.length = o.length
  | 0, s, i, j, hn, hij, hl, ht, hd => by
    refine ⟨s, i, ?_, ?_, by omega, hl⟩
    · simp only [whl, hf s i j hij (by omega)]
      rw [decide_eq_false (by omega)]
      rfl
    · rw [ht, List.take_of_length_le (by omega)]
  | n + 1, s, i, j, hn, hij, hl, ht, hd => by
    have hj : j < s.length := by omega
    have hjo : j < o.length := by omega
    have hx : nth s j = o[j] := by
      have h1 : s[j]? = o[j]? := by
        have := congrArg (fun l => l[0]?) hd
        simpa [List.getElem?_drop] using this
      rw [List.getElem?_eq_getElem hjo] at h1
      simp [nth, List.getD, h1]
    have htj : o.take (j + 1) = o.take j ++ [o[j]] := by rw [List.take_add_one, List.getElem?_eq_getElem hjo]; rfl
    have hd1 : ∀ s2 : List α, s2.drop (j + 1) = s.drop (j + 1) → s2.drop (j + 1) = o.drop (j + 1) := fun s2 h2 => by
      have := congrArg (List.drop 1) hd
      rw [List.drop_drop, List.drop_drop] at this
      exact h2.trans this
    have hst : f (s, (i : Int), (j : Int)) = _ := hf s i j hij (by omega)
    rw [decide_eq_true (by omega), hx] at hst
    simp only [cond_true] at hst
    cases hp : p o[j] with
    | true =>
      rw [hp] at hst
      simp only [whl, hst, cond_true]
      exact del_run hf o ho n s i (j + 1) (by omega) (by omega) hl (by rw [ht, htj, List.filter_append]; simp [hp]) (hd1 s rfl)
    | false =>
      rw [hp] at hst
      simp only [whl, hst, cond_false]
      refine del_run hf o ho n (s.set i o[j]) (i + 1) (j + 1) (by omega) (by omega) (by simpa using hl) ?_ (hd1 _ (List.drop_set_of_lt (by omega)))
      rw [htj, List.filter_append, ← ht]
      rw [List.take_add_one, List.take_set_of_le (Nat.le_refl i), List.getElem?_set_self (by omega)]
      simp [hp]
theorem del_main {R : Type} {f : List α × Int × Int → Rd R (List α × Int × Int) (List α × Int)} (hf : DelStep f p) {o : List α} (ho : o.length ≤ 1073741824) {ix : Int} (hix : ix = ixF p o) (hne : ix ≠ -1) :
    ∃ s' i', whl f (o.length + 1) (o, ix, ix + 1) = some (.brk (s', ((i' : Nat) : Int))) ∧ s'.take i' = o.filter (fun a => !p a) ∧ i' < o.length ∧ s'.length = o.length := by
  have hb := ixF_bd p o
  obtain ⟨i, hi⟩ : ∃ i : Nat, ix = (i : Int) := ⟨ix.toNat, by omega⟩
  obtain ⟨h1, a, h2, h3⟩ := ixF_some (p := p) (l := o) (i := i) (by omega)
  have hio : i < o.length := by omega
  obtain ⟨s', i', h4, h5⟩ := del_run hf o ho (o.length - (i + 1)) o i (i + 1) (by omega) (by omega) rfl (by
    rw [List.take_add_one, h2, List.filter_append, h1]; simp [h3]) rfl
  refine ⟨s', i', ?_, h5⟩
  subst hi
  exact whl_more h4 (by omega)
theorem del_some {R : Type} {f : List α × Int × Int → Rd R (List α × Int × Int) (List α × Int)} (hf : DelStep f p) {o : List α} (ho : o.length ≤ 1073741824) {ix : Int} (hix : ix = ixF p o) (hne : ix ≠ -1) : (whl f (o.length + 1) (o, ix, ix + 1)).isSome = true := by
  obtain ⟨s', i', h, _⟩ := del_main hf ho hix hne
  rw [h]; rfl
theorem del_eq {f : List α × Int × Int → Rd (List α) (List α × Int × Int) (List α × Int)} (hf : DelStep f p) {o : List α} (ho : o.length ≤ 1073741824) {ix : Int} (hix : ix = ixF p o) :
    (bif (ix == (-1 : Int)) then o else Out.on (whlD f (o.length + 1) (o, ix, ix + 1)) (fun y => List.take (Int.toNat y.2) y.1)) = o.filter (fun a => !p a) := by
  cases h : (ix == (-1 : Int)) with
  | true =>
    have h : ix = -1 := by simpa using h
    simp only [cond_true]
    exact (List.filter_eq_self.2 fun a ha => by simp [ixF_none (hix ▸ h) a ha]).symm
  | false =>
    obtain ⟨s', i', h1, h2, _⟩ := del_main hf ho hix (by simpa using h)
    simp only [cond_false, whlD, h1]
    simpa [Out.on] using h2
end
open GoE (enc wide)
def implCanRead (f : Xy) (user : Int) : Bool := ((Kv user) && ((f.2.1 == user) || f.2.2.1))
theorem implCanRead_a (f : Xy) (user : Int) : ACalls Tryz.prog 171 [.a [.i f.1, .i f.2.1, .b f.2.2.1, .i f.2.2.2.1, .h f.2.2.2.2], .i user] (.b (implCanRead f user)) := by
 refine en Qa Tryz.func171 fun w0 F0 hG => ?_
 refine sn Qa [1, 2, 4] [2] (p0) ?_
 refine Qd ?_
 refine mz [(2, .p 2 0), (4, .b false)] [0] [(2, [.i f.1, .i f.2.1, .b f.2.2.1, .i f.2.2.2.1, .h f.2.2.2.2])] [] ?_
 refine jn [(4, .b ((Kv user) && ((f.2.1 == user) || f.2.2.1)))] [1, 2, 4] [] [2] (Kv user) (fun h1 => ?_) (fun h1 => ?_) ?_
 ·
  refine Xd (f.2.1 == user) (fun h2 => ?_) (fun h2 => ?_)
  ·
   refine rn Qa [4] [] (pc 1 (cb h1 (implisUser_a user)) (pt 6 h2 p0)) ?_
   exact ⟨rfl, Qc (by rw [h1, h2]; first | done | kernel_rfl)⟩
  ·
   refine rn Qa [4] [] (pc 1 (cb h1 (implisUser_a user)) (pf 6 h2 p0)) ?_
   exact ⟨rfl, Qc (by rw [h1, h2]; first | done | kernel_rfl)⟩
 ·
  refine rn Qa [4] [] (pc 1 (cb h1 (implisUser_a user)) p0) ?_
  exact ⟨rfl, Qc (by rw [h1]; first | done | kernel_rfl)⟩
 refine Qe ?_
 exact pb [] (show implCanRead f user = ((Kv user) && ((f.2.1 == user) || f.2.2.1)) from rfl)
def Yz (f : Xy) : Xy := f
theorem implcopyFile_a (f : Xy) : ACalls Tryz.prog 164 [.a [.i f.1, .i f.2.1, .b f.2.2.1, .i f.2.2.2.1, .h f.2.2.2.2]] (.a [.i ((Yz f).1), .i ((Yz f).2.1), .b ((Yz f).2.2.1), .i ((Yz f).2.2.2.1), .o 0 ((Yz f).2.2.2.2)]) := by
 refine en Qa Tryz.func164 fun w0 F0 hG => ?_
 refine sn Qa [1, 2] [1, 2] (p0) ?_
 refine tn Qa [1, 2] [1, 2] (pc 2 (cloneAttr_a f.2.2.2.2) p0) ?_
 refine tu Qa [(2, .p 2 0)] [0] [(2, [.i f.1, .i f.2.1, .b f.2.2.1, .i f.2.2.2.1, .o 320 f.2.2.2.2])] [] (p0) ?_
 refine Qe ?_
 exact pz [] (show Yz f = f from rfl) (fun z => .a [.i z.1, .i z.2.1, .b z.2.2.1, .i z.2.2.2.1, .o 0 z.2.2.2.2])
def implfileAt_1 (f : Xy) (q0 : Int) : Bool := (f.1 == q0)
theorem implfileAt_1_a (f : Xy) (q0 : Int) : ACalls Tryz.prog 213 [.a [.i f.1, .i f.2.1, .b f.2.2.1, .i f.2.2.2.1, .h f.2.2.2.2], .one (.rptr .sh [.i q0])] (.b (implfileAt_1 f q0)) := by
 refine en Qa Tryz.func213 fun w0 F0 hG => ?_
 refine sn Qa [1, 2, 3] [2] (p0) ?_
 refine tn Qa [3] [] (p0) ?_
 refine Qe ?_
 exact pb [] (show implfileAt_1 f q0 = (f.1 == q0) from rfl)
def Js (c0 : Int) (k0 : Nat) (a0 : Xy) (_ : Unit) : Rd (Int) (Unit) (Unit) := (bif (implfileAt_1 a0 c0) then (.ret ((k0 : Nat) : Int)) else (.next ()))
def Jt (_ : Nat) (_ : Unit) : Unit := ()
def Kl (s_ : (List Xy)) (c0 : Int) : Int := (Out.on (Xp (Js c0) Jt s_ 0 ()) (fun _ => -1))
theorem slicesIndexFunc_File_implfileAt_1_a (s_ : (List Xy)) (c0 : Int) : ACalls Tryz.prog 212 [.h s_, .one (.fnr 213 [[.i c0]])] (.i (Kl s_ c0)) := by
 refine en Qa Tryz.func212 fun w0 F0 hG => ?_
 refine sn Qa [0, 1, 4] [] (p0) ?_
 refine Qd ?_
 refine tn Qa [0, 1, 4, 7, 8] [] (pl 1 s_ p0) ?_
 refine mz [(4, .i 0), (7, .i (s_.length : Int)), (8, .i 0)] [] [] [] ?_
 refine wT 0 0 .sh s_ (fun hw1 hl2 => ?_)
 refine blL0 (Js c0) Jt s_ () (fun k0 _ => [(8, .i ((k0 : Nat) : Int))]) [8] (fun _ => []) [0, 1, 7, 8] (Qc (by kernel_rfl)) (fun k0 s0 hk0 hI0 => ?_) (fun k0 s0 hk0 hI0 => ?_) (fun y0 hD0 => ?_)
 ·
  obtain ⟨a0, hx0⟩ := Xl (l := s_) (i := k0) hk0
  refine sn Qa [0, 1, 4, 7, 8, 9] [] (pe 0 (Qs (decide_eq_true (p := ((k0 : Nat) : Int) < (s_.length : Int)) (by omega))) p0) ?_
  refine Qd ?_
  refine ckT ?_
  refine Qf ?_
  refine Qd ?_
  refine Qr ?_
  refine tn Qa [0, 1, 4, 5, 7, 8] [] (p0) ?_
  refine tu Qa [(5, .i ((k0 : Nat) : Int)), (16, .b (implfileAt_1 a0 c0))] [] [] [] (pn 3 hx0 (pc 5 (implfileAt_1_a a0 c0) p0)) ?_
  refine ck (implfileAt_1 a0 c0) (fun h3 => ?_) (fun h3 => ?_)
  ·
   refine sn Qa [0, 1, 4, 7, 8] [] (p0) ?_
   refine Qe ?_
   have hr4 : (Xp (Js c0) Jt s_ 0 ()) = .ret ((k0 : Nat) : Int) := Zj hx0 (Q4 h3 (rfl)) hI0
   exact pi [] (on_r hr4)
  ·
   refine Qf ?_
   refine rn Qa [0, 1, 4, 7, 8] [] (pe 0 (Zq (Qu k0 (by omega))) p0) ?_
   exact Exists.intro _ (And.intro (Qc (by kernel_rfl)) (Qv hx0 (Qk h3 (rfl)) hI0))
 ·
  refine sn Qa [0, 1, 4, 7, 8, 9] [] (pe 0 (Qs (decide_eq_false (p := ((k0 : Nat) : Int) < (s_.length : Int)) (by omega))) p0) ?_
  refine Qd ?_
  refine ckF ?_
  refine Qz ?_
  exact Exists.intro _ (And.intro (Qc (by kernel_rfl)) (Xm hk0 (rfl) hI0))
 ·
  refine sn Qa [4] [] (p0) ?_
  refine Qe ?_
  exact pi [] (V2 hD0 (rfl))
def implfileAt (s_ : Q2) (id : Int) : Int := (Kl s_.2.1 id)
theorem implfileAt_a (s_ : Q2) (id : Int) : ACalls Tryz.prog 163 [.a [.h s_.1, .h s_.2.1, .i s_.2.2], .i id] (.i (implfileAt s_ id)) := by
 refine en Qa Tryz.func163 fun w0 F0 hG => ?_
 refine sn Qa [2, 3, 4] [2, 3] (p0) ?_
 refine tn Qa [4] [] (pc 3 (slicesIndexFunc_File_implfileAt_1_a s_.2.1 id) p0) ?_
 refine Qe ?_
 exact pi [] (show implfileAt s_ id = (Kl s_.2.1 id) from rfl)
def implVisibleStore_f0 (user : Int) (_ : Nat) (a0 : Xy) (s0 : (List Xy)) : Rd (Q2) ((List Xy)) ((List Xy)) := (bif (implCanRead a0 user) then (.next (s0 ++ [(Yz a0)])) else (.next s0))
def implVisibleStore_e0 (_ : Nat) (s0 : (List Xy)) : (List Xy) := s0
def implVisibleStore_f1 (s_ : Q2) (k1 : Nat) (_ : Xy) (s1 : (List Xy)) : Rd (Q2) ((List Xy)) ((List Xy)) := (bif decide ((implfileAt (s_.1, s1, s_.2.2) ((nth s1 k1).2.2.2.1)) < (0 : Int)) then (.next (List.set s1 k1 ((nth s1 k1).1, (nth s1 k1).2.1, (nth s1 k1).2.2.1, 0, (nth s1 k1).2.2.2.2))) else (.next s1))
def implVisibleStore_e1 (_ : Nat) (s1 : (List Xy)) : (List Xy) := s1
def Ji (s_ : Q2) (user : Int) : Q2 := (Out.on (Xp (implVisibleStore_f0 user) implVisibleStore_e0 s_.2.1 0 []) (fun y0 => (Out.on (Xp (implVisibleStore_f1 s_) implVisibleStore_e1 y0 0 y0) (fun y1 => (s_.1, y1, s_.2.2)))))
theorem implVisibleStore_a (s_ : Q2) (user : Int) : ACalls Tryz.prog 125 [.a [.h s_.1, .h s_.2.1, .i s_.2.2], .i user] (.a [.o 0 ((Ji s_ user).1), .o 1 ((Ji s_ user).2.1), .i ((Ji s_ user).2.2)]) := by
 refine en Qa Tryz.func125 fun w0 F0 hG => ?_
 refine sn Qa [1, 2, 4] [2, 4] (p0) ?_
 refine tN Qa Yr [1, 2, 4, 5] [2, 4, 5] (pc 2 (cloneField_a s_.1) p0) ?_
 refine Qd ?_
 refine tu Qa [(4, .p 4 0), (5, .p 5 0), (17, .h s_.2.1), (18, .i (s_.2.1.length : Int)), (19, .i 0)] [0] [(4, [.e 2, .e 5, .i 0]), (5, [.o 768 s_.1, .e 5, .i s_.2.2])] [] (pl 2 s_.2.1 p0) ?_
 refine wT 17 0 .sh s_.2.1 (fun hw1 hl2 => ?_)
 refine blL1b (implVisibleStore_f0 user) implVisibleStore_e0 s_.2.1 [] (fun k0 _ => [(19, .i ((k0 : Nat) : Int))]) [19] (fun _ s0 => [(5, [.o 768 s_.1, .o 147210 s0, .i s_.2.2])]) [5] (fun _ => []) [1, 17, 18, 19] (fun y0 => [(5, [.o 768 s_.1, .o 147360 y0, .i s_.2.2])]) [5] (fun k0 s0 => List.length s0 ≤ k0) (weak_gf [(true, 5, 1, true, 320008, 5)] [] [] [(320008, 147210)] (by kernel_rfl)) (by simp) (fun k0 s0 hk0 hI0 => ?_) (fun k0 s0 hk0 hI0 => ?_) (fun y0 hD0 => ?_)
 ·
  have hA0_0 := hI0.2
  obtain ⟨a0, hx0⟩ := Xl (l := s_.2.1) (i := k0) hk0
  refine su Qa [(20, .b true)] [] [] [] (pe 0 (Qs (decide_eq_true (p := ((k0 : Nat) : Int) < (s_.2.1.length : Int)) (by omega))) p0) ?_
  refine Qd ?_
  refine ckT ?_
  refine Qf ?_
  refine Qd ?_
  refine Qr ?_
  refine sn Qa [1, 4, 5, 7, 17, 18, 19] [4, 5, 7] (pn 0 hx0 p0) ?_
  refine tn Qa [1, 4, 5, 7, 17, 18, 19, 25] [4, 5, 7] (pc 2 (implCanRead_a a0 user) p0) ?_
  refine ck (implCanRead a0 user) (fun h3 => ?_) (fun h3 => ?_)
  ·
   refine wB 5 1 (.own true 147210) s0 (fun hw4 hl5 => ?_)
   refine qU Qa Yr [] [20] [(5, [.o 768 s_.1, .slc (.own true 1984) 5 ((eL s0) ++ [[.i ((Yz a0).1), .i ((Yz a0).2.1), .b ((Yz a0).2.2.1), .i ((Yz a0).2.2.2.1), .h ((Yz a0).2.2.2.2)]]), .i s_.2.2])] [5] (pc 3 (implcopyFile_a a0) (pa s0 [(Yz a0)] p0)) ?_
   refine eqn [] [] [(5, [.o 768 s_.1, .o 1984 (s0 ++ [(Yz a0)]), .i s_.2.2])] [5] (by rw [show ((eL s0) ++ [[.i ((Yz a0).1), .i ((Yz a0).2.1), .b ((Yz a0).2.2.1), .i ((Yz a0).2.2.2.1), .h ((Yz a0).2.2.2.2)]]) = (eL (s0 ++ [(Yz a0)])) from Kc (rfl) (rfl)]; first | done | kernel_rfl) ?_
   refine rn Qa [1, 4, 5, 17, 18, 19] [4, 5] (pe 0 (Zq (Qu k0 (by omega))) p0) ?_
   exact Exists.intro (s0 ++ [(Yz a0)]) (And.intro (Xx [(1984, 147210)] (by kernel_rfl)) ⟨Qv hx0 (Q4 h3 (rfl)) hI0.1, by first | omega | (simp; omega) | simp⟩)
  ·
   refine Qf ?_
   refine qu Qa [(19, .i ((k0 + 1 : Nat) : Int))] [19, 20] [] [] (pe 0 (Zq (Qu k0 (by omega))) p0) ?_
   exact Exists.intro s0 (And.intro (Qc (by kernel_rfl)) ⟨Qv hx0 (Qk h3 (rfl)) hI0.1, by first | omega | (simp; omega) | simp⟩)
 ·
  have hA0_0 := hI0.2
  refine su Qa [(20, .b false)] [] [] [] (pe 0 (Qs (decide_eq_false (p := ((k0 : Nat) : Int) < (s_.2.1.length : Int)) (by omega))) p0) ?_
  refine Qd ?_
  refine ckF ?_
  refine Qz ?_
  exact Exists.intro _ (And.intro (Xx [(147210, 147360)] (by kernel_rfl)) (Xm hk0 (rfl) hI0.1))
 ·
  refine Qd ?_
  refine sn Qa [4, 5, 35, 36, 37] [4, 5] (pl 2 y0 p0) ?_
  refine mz [(35, .o 147360 y0), (36, .i (y0.length : Int)), (37, .i 0)] [] [] [] ?_
  refine wT 35 0 (.own true 147360) y0 (fun hw6 hl7 => ?_)
  refine blL1b (implVisibleStore_f1 s_) implVisibleStore_e1 y0 y0 (fun k1 s1 => [(35, .o 147360 s1), (37, .i ((k1 : Nat) : Int))]) [35, 37] (fun _ s1 => [(5, [.o 768 s_.1, .o 147360 s1, .i s_.2.2])]) [5] (fun _ => []) [35, 36, 37] (fun y1 => [(5, [.o 768 s_.1, .o 147360 y1, .i s_.2.2])]) [5] (fun _ s1 => List.length s1 = List.length y0) (Qc (by kernel_rfl)) (by simp) (fun k1 s1 hk1 hI1 => ?_) (fun k1 s1 hk1 hI1 => ?_) (fun y1 hD1 => ?_)
  ·
   have hA1_0 := hI1.2
   obtain ⟨a1, hx1⟩ := Xl (l := y0) (i := k1) hk1
   refine su Qa [(38, .b true)] [] [] [] (pe 0 (Qs (decide_eq_true (p := ((k1 : Nat) : Int) < (y0.length : Int)) (by omega))) p0) ?_
   refine Qd ?_
   refine ckT ?_
   refine Qf ?_
   refine Qd ?_
   refine Qr ?_
   refine wT 35 0 (.own true 147360) s1 (fun hw9 hl10 => ?_)
   have hx8 := ng s1 k1
   refine sn Qa [4, 5, 8, 9, 35, 36, 37] [4, 5, 9] (pN 1 hx8 p0) ?_
   refine tn Qa [4, 5, 8, 35, 36, 37, 46] [4, 5] (pc 3 (implfileAt_a (s_.1, s1, s_.2.2) ((nth s1 k1).2.2.2.1)) p0) ?_
   refine ck (decide ((implfileAt (s_.1, s1, s_.2.2) ((nth s1 k1).2.2.2.1)) < (0 : Int))) (fun h11 => ?_) (fun h11 => ?_)
   ·
    have h11d := of_decide_eq_true h11
    refine qu Qa [(35, .one (.slc (.own true 147360) 5 (setRow (eL s1) k1 3 [.i 0])))] [35, 38] [(5, [.o 768 s_.1, .slc (.own true 147360) 5 (setRow (eL s1) k1 3 [.i 0]), .i s_.2.2])] [5] (pN 3 hx8 p0) ?_
    refine eqn [(35, .o 147360 (List.set s1 k1 ((nth s1 k1).1, (nth s1 k1).2.1, (nth s1 k1).2.2.1, 0, (nth s1 k1).2.2.2.2)))] [35] [(5, [.o 768 s_.1, .o 147360 (List.set s1 k1 ((nth s1 k1).1, (nth s1 k1).2.1, (nth s1 k1).2.2.1, 0, (nth s1 k1).2.2.2.2)), .i s_.2.2])] [5] (by rw [Zd (y := ((nth s1 k1).1, (nth s1 k1).2.1, (nth s1 k1).2.2.1, 0, (nth s1 k1).2.2.2.2)) hx8 rfl]; first | done | kernel_rfl) ?_
    refine rn Qa [4, 5, 35, 36, 37] [4, 5] (pe 0 (Zq (Qu k1 (by omega))) p0) ?_
    exact Exists.intro (List.set s1 k1 ((nth s1 k1).1, (nth s1 k1).2.1, (nth s1 k1).2.2.1, 0, (nth s1 k1).2.2.2.2)) (And.intro (Qc (by kernel_rfl)) ⟨Qv hx1 (Q4 h11 (rfl)) hI1.1, (by first | omega | (simp only [List.length_set]; omega))⟩)
   ·
    have h11d := of_decide_eq_false h11
    refine Qf ?_
    refine qu Qa [(37, .i ((k1 + 1 : Nat) : Int))] [37, 38] [] [] (pe 0 (Zq (Qu k1 (by omega))) p0) ?_
    exact Exists.intro s1 (And.intro (Qc (by kernel_rfl)) ⟨Qv hx1 (Qk h11 (rfl)) hI1.1, (by first | omega | (simp only [List.length_set]; omega))⟩)
  ·
   have hA1_0 := hI1.2
   refine su Qa [(38, .b false)] [] [] [] (pe 0 (Qs (decide_eq_false (p := ((k1 : Nat) : Int) < (y0.length : Int)) (by omega))) p0) ?_
   refine Qd ?_
   refine ckF ?_
   refine Qz ?_
   exact Exists.intro _ (And.intro (Qc (by kernel_rfl)) (Xm hk1 (rfl) hI1.1))
  ·
   refine sn Qa [4] [4] (p0) ?_
   refine Qe ?_
   exact pz [] (show Ji s_ user = _ from V2 hD0 (V2 hD1 (rfl))) (fun z => .a [.o 0 z.1, .o 1 z.2.1, .i z.2.2])
def Ye (s_ : Q2) (d : (List Yq)) (user : Int) : (List Qp) × Bool := (bif ((!(Xo s_)) || (!(Kv user))) then ([], false) else (((Je (Ji s_ user) d)).1, ((Je (Ji s_ user) d)).2))
theorem implEvaluateForUser_a (s_ : Q2) (d : (List Yq)) (user : Int) : ACalls Tryz.prog 117 [.a [.h s_.1, .h s_.2.1, .i s_.2.2], .h d, .i user] (.tup [(false, [.o 0 (((Ye s_ d user)).1)]), (false, [.b (((Ye s_ d user)).2)])]) := by
 refine en Qa Tryz.func117 fun w0 F0 hG => ?_
 refine sn Qa [1, 2, 3, 6, 7] [3] (p0) ?_
 refine Qd ?_
 refine Qd ?_
 refine mz [(3, .p 3 0), (6, .e 0), (7, .b false)] [0] [(3, [.h s_.1, .h s_.2.1, .i s_.2.2])] [] ?_
 refine jn [(15, .b ((!(Xo s_)) || (!(Kv user))))] [] [] [] (!(Xo s_)) (fun h1 => ?_) (fun h1 => ?_) ?_
 ·
  have h1n : (Xo s_) = false := bnot_t h1
  refine rn Qa [1, 2, 3, 6, 7, 15] [3] (pc 1 (cb h1n (implIsValidStore_a s_)) (pe 2 (show .b (!false) = .b true from rfl) p0)) ?_
  exact ⟨rfl, Qc (by rw [h1]; first | done | kernel_rfl)⟩
 ·
  have h1n : (Xo s_) = true := Kg h1
  refine rn Qa [1, 2, 3, 6, 7, 15] [3] (pc 1 (cb h1n (implIsValidStore_a s_)) (pe 2 (show .b (!true) = .b false from rfl) (pc 5 (implisUser_a user) p0))) ?_
  exact ⟨rfl, Qc (by rw [h1]; first | done | kernel_rfl)⟩
 refine ck ((!(Xo s_)) || (!(Kv user))) (fun h2 => ?_) (fun h2 => ?_)
 ·
  refine su Qa [] [15] [] [] (p0) ?_
  refine opn [(false, 6, 0, true, 384000, 2)] ?_
  refine Qe ?_
  exact pz [] (show Ye s_ d user = _ from Q4 h2 (rfl)) (fun z => .tup [(false, [.o 0 z.1]), (false, [.b z.2])])
 ·
  refine Qf ?_
  refine sn Qa [6, 7] [] (pc 2 (implVisibleStore_a s_ user) (pc 4 (implEvaluate_a (Ji s_ user) d) p0)) ?_
  refine Qe ?_
  exact pz [] (show Ye s_ d user = _ from Qk h2 (rfl)) (fun z => .tup [(false, [.o 0 z.1]), (false, [.b z.2])])
def Qy (s_ : Q2) (d : (List Yq)) (user : Int) (name : ByteArray) : (List Int) := (X6 (((Ye s_ d user)).1) name)
theorem implListDir_a (s_ : Q2) (d : (List Yq)) (user : Int) (name : ByteArray) : ACalls Tryz.prog 77 [.a [.h s_.1, .h s_.2.1, .i s_.2.2], .h d, .i user, .s name] (.o 0 (Qy s_ d user name)) := by
 refine en Qa Tryz.func77 fun w0 F0 hG => ?_
 refine sn Qa [1, 2, 3, 4, 8] [4] (p0) ?_
 refine tn Qa [3, 8, 9] [] (pc 3 (implEvaluateForUser_a s_ d user) p0) ?_
 refine tu Qa [(8, .o 1280 (X6 (((Ye s_ d user)).1) name))] [0, 1, 2, 3] [] [] (pc 2 (implResultIDs_a (((Ye s_ d user)).1) name) p0) ?_
 refine Qe ?_
 exact po0 [] (show Qy s_ d user name = (X6 (((Ye s_ d user)).1) name) from rfl)
def specCanRead (f : Xy) (u : Int) : Bool := ((Q1 u 0 2) && ((f.2.1 == u) || f.2.2.1))
theorem specCanRead_a (f : Xy) (u : Int) : ACalls Tryz.prog 211 [.a [.i f.1, .i f.2.1, .b f.2.2.1, .i f.2.2.2.1, .h f.2.2.2.2], .i u] (.b (specCanRead f u)) := by
 refine en Qa Tryz.func211 fun w0 F0 hG => ?_
 refine sn Qa [1, 2, 4] [2] (p0) ?_
 refine Qd ?_
 refine mz [(2, .p 2 0), (4, .b false)] [0] [(2, [.i f.1, .i f.2.1, .b f.2.2.1, .i f.2.2.2.1, .h f.2.2.2.2])] [] ?_
 refine jn [(4, .b ((Q1 u 0 2) && ((f.2.1 == u) || f.2.2.1)))] [1, 2, 4] [] [2] (Q1 u 0 2) (fun h1 => ?_) (fun h1 => ?_) ?_
 ·
  have h1w := l01In_iff.1 h1
  refine Xd (f.2.1 == u) (fun h2 => ?_) (fun h2 => ?_)
  ·
   refine rn Qa [4] [] (pc 1 (cb h1 (Ys u 0 2)) (pt 6 h2 p0)) ?_
   exact ⟨rfl, Qc (by rw [h1, h2]; first | done | kernel_rfl)⟩
  ·
   refine rn Qa [4] [] (pc 1 (cb h1 (Ys u 0 2)) (pf 6 h2 p0)) ?_
   exact ⟨rfl, Qc (by rw [h1, h2]; first | done | kernel_rfl)⟩
 ·
  refine rn Qa [4] [] (pc 1 (cb h1 (Ys u 0 2)) p0) ?_
  exact ⟨rfl, Qc (by rw [h1]; first | done | kernel_rfl)⟩
 refine Qe ?_
 exact pb [] (show specCanRead f u = ((Q1 u 0 2) && ((f.2.1 == u) || f.2.2.1)) from rfl)
def Ql (f : Xy) : Xy := f
theorem specl04Copy_a (f : Xy) : ACalls Tryz.prog 53 [.a [.i f.1, .i f.2.1, .b f.2.2.1, .i f.2.2.2.1, .h f.2.2.2.2]] (.a [.i ((Ql f).1), .i ((Ql f).2.1), .b ((Ql f).2.2.1), .i ((Ql f).2.2.2.1), .o 0 ((Ql f).2.2.2.2)]) := by
 refine en Qa Tryz.func53 fun w0 F0 hG => ?_
 refine sn Qa [1, 2] [1, 2] (p0) ?_
 refine wB 1 4 .sh f.2.2.2.2 (fun hw1 hl2 => ?_)
 refine tn Qa [1, 2] [1, 2] (po 3 (.flat) (px (ob_len (n := (([] : List (List PV)).length + ((eL f.2.2.2.2) : List (List PV)).length)) (len_of (rfl) (X8 f.2.2.2.2) (by first | omega | (simp only [List.length_cons, List.length_nil]; omega) | (simp; omega) | simp))) (px (Wi (Vv f.2.2.2.2)) p0))) ?_
 refine tu Qa [(2, .p 2 0)] [0] [(2, [.i f.1, .i f.2.1, .b f.2.2.1, .i f.2.2.2.1, .o 384 f.2.2.2.2])] [] (p0) ?_
 refine Qe ?_
 exact pz [] (show Ql f = f from rfl) (fun z => .a [.i z.1, .i z.2.1, .b z.2.2.1, .i z.2.2.2.1, .o 0 z.2.2.2.2])
def specl05Place_f0 (id : Int) (k0 : Nat) (a0 : Xy) (_ : Unit) : Rd (Int) (Unit) (Unit) := (bif (a0.1 == id) then (.ret ((k0 : Nat) : Int)) else (.next ()))
def specl05Place_e0 (_ : Nat) (_ : Unit) : Unit := ()
def Xe (s_ : Q2) (id : Int) : Int := (Out.on (Xp (specl05Place_f0 id) specl05Place_e0 s_.2.1 0 ()) (fun _ => -1))
theorem fat_ltS (s_ : Q2) (id : Int) : -1 ≤ Xe s_ id ∧ Xe s_ id < (List.length s_.2.1 : Int) := by
 unfold Xe
 rw [idx_eq (p := fun a : Xy => a.1 == id) (f := specl05Place_f0 id) (e := specl05Place_e0) (fun _ _ _ => rfl)]
 exact ixF_bd _ _
theorem specl05Place_a (s_ : Q2) (id : Int) : ACalls Tryz.prog 100 [.a [.h s_.1, .h s_.2.1, .i s_.2.2], .i id] (.i (Xe s_ id)) := by
 refine en Qa Tryz.func100 fun w0 F0 hG => ?_
 refine sn Qa [1, 2, 4] [2] (p0) ?_
 refine Qd ?_
 refine tn Qa [1, 2, 4, 5] [2] (p0) ?_
 refine mz [(2, .p 2 0), (4, .i 0), (5, .i 0)] [0] [(2, [.h s_.1, .h s_.2.1, .i s_.2.2])] [] ?_
 refine wB 2 1 .sh s_.2.1 (fun hw1 hl2 => ?_)
 refine blL0b (specl05Place_f0 id) specl05Place_e0 s_.2.1 () (fun k0 _ => [(5, .i ((k0 : Nat) : Int))]) [5] (fun _ _ => []) [] (fun _ => []) [1, 2, 5] (fun _ => []) [2] (Qc (by kernel_rfl)) (fun k0 s0 hk0 hI0 => ?_) (fun k0 s0 hk0 hI0 => ?_) (fun y0 hD0 => ?_)
 ·
  obtain ⟨a0, hx0⟩ := Xl (l := s_.2.1) (i := k0) hk0
  refine Qd ?_
  refine sn Qa [1, 2, 4, 5, 10] [2] (pl 3 s_.2.1 (pe 4 (Qs (decide_eq_true (p := ((k0 : Nat) : Int) < (s_.2.1.length : Int)) (by omega))) p0)) ?_
  refine ckT ?_
  refine Qf ?_
  refine Qd ?_
  refine Qr ?_
  refine tn Qa [1, 2, 4, 5, 20] [2] (pn 3 hx0 p0) ?_
  refine ck (a0.1 == id) (fun h3 => ?_) (fun h3 => ?_)
  ·
   refine tu Qa [(4, .i ((k0 : Nat) : Int))] [4] [] [] (p0) ?_
   refine Qe ?_
   have hr4 : (Xp (specl05Place_f0 id) specl05Place_e0 s_.2.1 0 ()) = .ret ((k0 : Nat) : Int) := Zj hx0 (Q4 h3 (rfl)) hI0
   exact pi [] (on_r hr4)
  ·
   have h3d := X2 h3
   refine Qf ?_
   refine qu Qa [(5, .i ((k0 + 1 : Nat) : Int))] [5] [] [] (pe 1 (Zq (Qu k0 (by omega))) p0) ?_
   exact Exists.intro _ (And.intro (Qc (by kernel_rfl)) (Qv hx0 (Qk h3 (rfl)) hI0))
 ·
  refine Qd ?_
  refine sn Qa [1, 2, 4, 5, 10] [2] (pl 3 s_.2.1 (pe 4 (Qs (decide_eq_false (p := ((k0 : Nat) : Int) < (s_.2.1.length : Int)) (by omega))) p0)) ?_
  refine ckF ?_
  refine Qz ?_
  exact Exists.intro _ (And.intro (Qc (by kernel_rfl)) (Xm hk0 (rfl) hI0))
 ·
  refine sn Qa [4] [] (p0) ?_
  refine Qe ?_
  exact pi [] (V2 hD0 (rfl))
def specVisibleStore_f0 (u : Int) (_ : Nat) (a0 : Xy) (s0 : (List Xy)) : Rd (Q2) ((List Xy)) ((List Xy)) := (bif (specCanRead a0 u) then (.next (s0 ++ [(Ql a0)])) else (.next s0))
def specVisibleStore_e0 (_ : Nat) (s0 : (List Xy)) : (List Xy) := s0
def specVisibleStore_f1 (s_ : Q2) (k1 : Nat) (s1 : (List Xy)) : Rd (Q2) ((List Xy)) ((List Xy)) := (bif decide ((Xe (s_.1, s1, s_.2.2) ((nth s1 k1).2.2.2.1)) < (0 : Int)) then (.next (List.set s1 k1 ((nth s1 k1).1, (nth s1 k1).2.1, (nth s1 k1).2.2.1, 0, (nth s1 k1).2.2.2.2))) else (.next s1))
def specVisibleStore_e1 (_ : Nat) (s1 : (List Xy)) : (List Xy) := s1
def J5 (s_ : Q2) (u : Int) : Q2 := (Out.on (Xp (specVisibleStore_f0 u) specVisibleStore_e0 s_.2.1 0 []) (fun y0 => (Out.on (Vw (specVisibleStore_f1 s_) specVisibleStore_e1 (List.length y0) 0 y0) (fun y1 => (s_.1, y1, s_.2.2)))))
theorem specVisibleStore_a (s_ : Q2) (u : Int) : ACalls Tryz.prog 162 [.a [.h s_.1, .h s_.2.1, .i s_.2.2], .i u] (.a [.o 0 ((J5 s_ u).1), .o 1 ((J5 s_ u).2.1), .i ((J5 s_ u).2.2)]) := by
 refine en Qa Tryz.func162 fun w0 F0 hG => ?_
 refine sn Qa [1, 2, 4] [2, 4] (p0) ?_
 refine wB 2 0 .sh s_.1 (fun hw1 hl2 => ?_)
 refine tN Qa Yr [1, 2, 4, 5] [2, 4, 5] (po 3 (.flat) (px (ob_len (n := (([] : List (List PV)).length + ((eL s_.1) : List (List PV)).length)) (len_of (rfl) (X8 s_.1) (by first | omega | (simp only [List.length_cons, List.length_nil]; omega) | (simp; omega) | simp))) (px (Wi (Vv s_.1)) p0))) ?_
 refine Qd ?_
 refine tu Qa [(2, .p 2 0), (4, .p 4 0), (5, .p 5 0), (6, .i 0)] [0] [(2, [.h s_.1, .h s_.2.1, .i s_.2.2]), (4, [.e 2, .e 5, .i 0]), (5, [.o 704 s_.1, .e 5, .i s_.2.2])] [] (p0) ?_
 refine wB 2 1 .sh s_.2.1 (fun hw3 hl4 => ?_)
 refine blL1b (specVisibleStore_f0 u) specVisibleStore_e0 s_.2.1 [] (fun k0 _ => [(6, .i ((k0 : Nat) : Int))]) [6] (fun _ s0 => [(5, [.o 704 s_.1, .o 147212 s0, .i s_.2.2])]) [5] (fun _ => []) [1, 2, 6] (fun y0 => [(5, [.o 704 s_.1, .o 147362 y0, .i s_.2.2])]) [2, 5] (fun k0 s0 => List.length s0 ≤ k0) (weak_gf [(true, 5, 1, true, 320008, 5)] [] [] [(320008, 147212)] (by kernel_rfl)) (by simp) (fun k0 s0 hk0 hI0 => ?_) (fun k0 s0 hk0 hI0 => ?_) (fun y0 hD0 => ?_)
 ·
  have hA0_0 := hI0.2
  obtain ⟨a0, hx0⟩ := Xl (l := s_.2.1) (i := k0) hk0
  refine Qd ?_
  refine su Qa [(19, .b true)] [] [] [] (pl 3 s_.2.1 (pe 4 (Qs (decide_eq_true (p := ((k0 : Nat) : Int) < (s_.2.1.length : Int)) (by omega))) p0)) ?_
  refine ckT ?_
  refine Qf ?_
  refine Qd ?_
  refine Qr ?_
  refine sn Qa [1, 2, 4, 5, 6, 28] [2, 4, 5] (pn 3 hx0 (pc 6 (specCanRead_a a0 u) p0)) ?_
  refine ck (specCanRead a0 u) (fun h5 => ?_) (fun h5 => ?_)
  ·
   refine wB 5 1 (.own true 147212) s0 (fun hw6 hl7 => ?_)
   refine qU Qa Yr [] [19] [(5, [.o 704 s_.1, .slc (.own true 2432) 5 ((eL s0) ++ [[.i ((Ql a0).1), .i ((Ql a0).2.1), .b ((Ql a0).2.2.1), .i ((Ql a0).2.2.2.1), .h ((Ql a0).2.2.2.2)]]), .i s_.2.2])] [5] (pn 5 hx0 (pc 7 (specl04Copy_a a0) (pa s0 [(Ql a0)] p0))) ?_
   refine eqn [] [] [(5, [.o 704 s_.1, .o 2432 (s0 ++ [(Ql a0)]), .i s_.2.2])] [5] (by rw [show ((eL s0) ++ [[.i ((Ql a0).1), .i ((Ql a0).2.1), .b ((Ql a0).2.2.1), .i ((Ql a0).2.2.2.1), .h ((Ql a0).2.2.2.2)]]) = (eL (s0 ++ [(Ql a0)])) from Kc (rfl) (rfl)]; first | done | kernel_rfl) ?_
   refine rn Qa [1, 2, 4, 5, 6] [2, 4, 5] (pe 1 (Zq (Qu k0 (by omega))) p0) ?_
   exact Exists.intro (s0 ++ [(Ql a0)]) (And.intro (Xx [(2432, 147212)] (by kernel_rfl)) ⟨Qv hx0 (Q4 h5 (rfl)) hI0.1, by first | omega | (simp; omega) | simp⟩)
  ·
   refine Qf ?_
   refine qn Qa [1, 2, 4, 5, 6] [2, 4, 5] (pe 1 (Zq (Qu k0 (by omega))) p0) ?_
   exact Exists.intro s0 (And.intro (Qc (by kernel_rfl)) ⟨Qv hx0 (Qk h5 (rfl)) hI0.1, by first | omega | (simp; omega) | simp⟩)
 ·
  have hA0_0 := hI0.2
  refine Qd ?_
  refine su Qa [(19, .b false)] [] [] [] (pl 3 s_.2.1 (pe 4 (Qs (decide_eq_false (p := ((k0 : Nat) : Int) < (s_.2.1.length : Int)) (by omega))) p0)) ?_
  refine ckF ?_
  refine Qz ?_
  exact Exists.intro _ (And.intro (Xx [(147212, 147362)] (by kernel_rfl)) (Xm hk0 (rfl) hI0.1))
 ·
  refine Qd ?_
  refine sn Qa [4, 5, 7] [4, 5] (p0) ?_
  refine mz [(7, .i 0)] [] [] [] ?_
  refine blN3b (specVisibleStore_f1 s_) specVisibleStore_e1 (List.length y0) y0 (fun k1 _ => [(7, .i ((k1 : Nat) : Int))]) [7] (fun _ s1 => [(5, [.o 704 s_.1, .o 147362 s1, .i s_.2.2])]) [5] (fun _ => []) [7] (fun y1 => [(5, [.o 704 s_.1, .o 147362 y1, .i s_.2.2])]) [5] (fun _ s1 => List.length s1 = List.length y0) (fun y1 => List.length y1 = List.length y0) (Qc (by kernel_rfl)) (by simp) (fun k1 s1 hk1 hI1 => ?_) (fun k1 s1 hk1 hI1 => ?_) (fun y1 hD1 => ?_)
  ·
   have hA1_0 := hI1.2
   refine Qd ?_
   refine sn Qa [4, 5, 7, 44] [4, 5] (pl 3 s1 (pe 4 (Qs (decide_eq_true (p := ((k1 : Nat) : Int) < (s1.length : Int)) (by omega))) p0)) ?_
   refine ckT ?_
   refine Qf ?_
   refine Qd ?_
   refine Qr ?_
   refine wB 5 1 (.own true 147362) s1 (fun hw9 hl10 => ?_)
   have hx8 := ng s1 k1
   refine tN Qa Yr [4, 5, 7, 55] [4, 5] (pN 4 hx8 (pc 7 (specl05Place_a (s_.1, s1, s_.2.2) ((nth s1 k1).2.2.2.1)) p0)) ?_
   refine ck (decide ((Xe (s_.1, s1, s_.2.2) ((nth s1 k1).2.2.2.1)) < (0 : Int))) (fun h11 => ?_) (fun h11 => ?_)
   ·
    have h11d := of_decide_eq_true h11
    refine qu Qa [] [] [(5, [.o 704 s_.1, .slc (.own true 147362) 5 (setRow (eL s1) k1 3 [.i 0]), .i s_.2.2])] [5] (pN 3 hx8 p0) ?_
    refine eqn [] [] [(5, [.o 704 s_.1, .o 147362 (List.set s1 k1 ((nth s1 k1).1, (nth s1 k1).2.1, (nth s1 k1).2.2.1, 0, (nth s1 k1).2.2.2.2)), .i s_.2.2])] [5] (by rw [Zd (y := ((nth s1 k1).1, (nth s1 k1).2.1, (nth s1 k1).2.2.1, 0, (nth s1 k1).2.2.2.2)) hx8 rfl]; first | done | kernel_rfl) ?_
    refine rn Qa [4, 5, 7] [4, 5] (pe 1 (Zq (Qu k1 (by omega))) p0) ?_
    exact Exists.intro (List.set s1 k1 ((nth s1 k1).1, (nth s1 k1).2.1, (nth s1 k1).2.2.1, 0, (nth s1 k1).2.2.2.2)) (And.intro (Qc (by kernel_rfl)) ⟨Kf hk1 (Q4 h11 (rfl)) hI1.1, (by first | omega | (simp only [List.length_set]; omega))⟩)
   ·
    have h11d := of_decide_eq_false h11
    refine Qf ?_
    refine qu Qa [(7, .i ((k1 + 1 : Nat) : Int))] [7] [] [] (pe 1 (Zq (Qu k1 (by omega))) p0) ?_
    exact Exists.intro s1 (And.intro (Qc (by kernel_rfl)) ⟨Kf hk1 (Qk h11 (rfl)) hI1.1, (by first | omega | (simp only [List.length_set]; omega))⟩)
  ·
   have hA1_0 := hI1.2
   refine Qd ?_
   refine sn Qa [4, 5, 7, 44] [4, 5] (pl 3 s1 (pe 4 (Qs (decide_eq_false (p := ((k1 : Nat) : Int) < (s1.length : Int)) (by omega))) p0)) ?_
   refine ckF ?_
   refine Qz ?_
   exact Exists.intro s1 (And.intro (Qc (by kernel_rfl)) ⟨forN_end hk1 (rfl) hI1.1, by first | omega | (simp only [List.length_set]; omega)⟩)
  ·
   have hD1_0 := hD1.2
   refine sn Qa [4] [4] (p0) ?_
   refine Qe ?_
   exact pz [] (show J5 s_ u = _ from V2 hD0 (V2 hD1.1 (rfl))) (fun z => .a [.o 0 z.1, .o 1 z.2.1, .i z.2.2])
def Zh (s_ : Q2) (d : (List Yq)) (u : Int) : (List Qp) × Bool := (bif ((!(Q1 u 0 2)) || (!(Xi s_))) then ([], false) else (((specEvaluate (J5 s_ u) d)).1, ((specEvaluate (J5 s_ u) d)).2))
theorem specEvaluateForUser_a (s_ : Q2) (d : (List Yq)) (u : Int) : ACalls Tryz.prog 119 [.a [.h s_.1, .h s_.2.1, .i s_.2.2], .h d, .i u] (.tup [(false, [.o 0 (((Zh s_ d u)).1)]), (false, [.b (((Zh s_ d u)).2)])]) := by
 refine en Qa Tryz.func119 fun w0 F0 hG => ?_
 refine sn Qa [1, 2, 3, 6, 7] [3] (p0) ?_
 refine Qd ?_
 refine Qd ?_
 refine mz [(3, .p 3 0), (6, .e 0), (7, .b false)] [0] [(3, [.h s_.1, .h s_.2.1, .i s_.2.2])] [] ?_
 refine jn [(15, .b ((!(Q1 u 0 2)) || (!(Xi s_))))] [] [] [] (!(Q1 u 0 2)) (fun h1 => ?_) (fun h1 => ?_) ?_
 ·
  have h1n : (Q1 u 0 2) = false := bnot_t h1
  refine rn Qa [1, 2, 3, 6, 7, 15] [3] (pc 1 (cb h1n (Ys u 0 2)) (pe 2 (show .b (!false) = .b true from rfl) p0)) ?_
  exact ⟨rfl, Qc (by rw [h1]; first | done | kernel_rfl)⟩
 ·
  have h1n : (Q1 u 0 2) = true := Kg h1
  have h1nw := l01In_iff.1 h1n
  refine rn Qa [1, 2, 3, 6, 7, 15] [3] (pc 1 (cb h1n (Ys u 0 2)) (pe 2 (show .b (!true) = .b false from rfl) (pc 5 (Kj s_) p0))) ?_
  exact ⟨rfl, Qc (by rw [h1]; first | done | kernel_rfl)⟩
 refine ck ((!(Q1 u 0 2)) || (!(Xi s_))) (fun h2 => ?_) (fun h2 => ?_)
 ·
  refine sn Qa [1, 2, 3, 6, 7] [3] (p0) ?_
  refine Qe ?_
  exact pz [] (show Zh s_ d u = _ from Q4 h2 (rfl)) (fun z => .tup [(false, [.o 0 z.1]), (false, [.b z.2])])
 ·
  have h2l : ((!(Q1 u 0 2))) = false := or_l h2
  have h2ln : (Q1 u 0 2) = true := Kg h2l
  have h2lnw := l01In_iff.1 h2ln
  refine Qf ?_
  refine sn Qa [6, 7] [] (pc 2 (specVisibleStore_a s_ u) (pc 4 (specEvaluate_a (J5 s_ u) d) p0)) ?_
  refine Qe ?_
  exact pz [] (show Zh s_ d u = _ from Qk h2 (rfl)) (fun z => .tup [(false, [.o 0 z.1]), (false, [.b z.2])])
def X3 (s_ : Q2) (d : (List Yq)) (u : Int) (name : ByteArray) : (List Int) := (K4 (((Zh s_ d u)).1) name)
theorem specListDir_a (s_ : Q2) (d : (List Yq)) (u : Int) (name : ByteArray) : ACalls Tryz.prog 81 [.a [.h s_.1, .h s_.2.1, .i s_.2.2], .h d, .i u, .s name] (.o 0 (X3 s_ d u name)) := by
 refine en Qa Tryz.func81 fun w0 F0 hG => ?_
 refine sn Qa [1, 2, 3, 4, 8] [4] (p0) ?_
 refine tn Qa [3, 8, 9] [] (pc 3 (specEvaluateForUser_a s_ d u) p0) ?_
 refine tu Qa [(8, .o 1280 (K4 (((Zh s_ d u)).1) name))] [0, 1, 2, 3] [] [] (pc 2 (specResultIDs_a (((Zh s_ d u)).1) name) p0) ?_
 refine Qe ?_
 exact po0 [] (show X3 s_ d u name = (K4 (((Zh s_ d u)).1) name) from rfl)
end Go.Proofs.YtcnkkobgogmakaaGreat
namespace Go.Proofs.YtcnkkobgogmakaaGreat
open Go.RowKit
theorem forL_forN {α R S T : Type} {f : Nat → α → S → Rd R S T} {g : Nat → S → Rd R S T} {e e' : Nat → S → T} (hf : ∀ k a s, f k a s = g k s) (he : ∀ k s, e k s = e' k s) : ∀ (l : List α) (k : Nat) (s : S), Xp f e l k s = Vw g e' l.length k s
  | [], k, s => by simp [Xp, Vw, he]
  | a :: l, k, s => by
    simp only [Xp, Vw, List.length_cons, hf]
    cases g k s with
    | next s' => exact forL_forN hf he l (k + 1) s'
    | brk t => rfl
    | ret r => rfl
theorem visible_eq (s : Q2) (u : Int) : J5 s u = Ji s u := by
  unfold J5 Ji
  rw [forL_congr (f := specVisibleStore_f0 u) (g := implVisibleStore_f0 u) (e := specVisibleStore_e0) (e' := implVisibleStore_e0) (fun _ _ => rfl) s.2.1 0 _ (fun i a t _ => rfl)]
  congr 1
  funext y
  rw [forL_forN (f := implVisibleStore_f1 s) (g := specVisibleStore_f1 s) (e := implVisibleStore_e1) (e' := specVisibleStore_e1) (fun _ _ _ => rfl) (fun _ _ => rfl)]
theorem evalUser_eq (s : Q2) (d : List Yq) (u : Int) : Zh s d u = Ye s d u := by
  unfold Zh Ye
  rw [store_eq, visible_eq, evaluate_eq]
  have h : Q1 u 0 2 = Kv u := rfl
  rw [h, Bool.or_comm]
theorem listDir_eq (s : Q2) (d : List Yq) (u : Int) (n : ByteArray) : X3 s d u n = Qy s d u n := by
  unfold X3 Qy
  rw [evalUser_eq]
  rfl
theorem store12 {s : Q2} (h : Xo s = true) : s.2.1.length ≤ 12 := by
  unfold Xo at h
  cases hf : Xp (Yn s) Jc s.2.1 0 () with
  | brk t =>
    rw [hf] at h
    simp only [Out.on, Bool.and_eq_true, decide_eq_true_eq] at h
    omega
  | ret r =>
    rw [hf] at h
    obtain rfl : r = true := h
    exfalso
    have key : ∀ (l : List Xy) k, Xp (Yn s) Jc l k () ≠ .ret true := by
      intro l
      induction l with
      | nil => intro k h; simp [Xp] at h
      | cons a l ih =>
        intro k h
        simp only [Xp] at h
        unfold Yn at h
        split at h
        · rename_i hf; exact ih _ h
        · cases h
        · rename_i r hf; cases h; revert hf; generalize (_ || _ : Bool) = c; cases c <;> simp
    exact key _ _ hf
theorem sel_id {fs : List Xy} {p : Xy → Bool} {x : Int} (h : x ∈ sel fs (fun f => f.1) p) : ∃ f, f ∈ fs ∧ f.1 = x := by
  obtain ⟨f, hf, e⟩ := List.mem_map.1 h
  exact ⟨f, (List.mem_filter.1 hf).1, e⟩
theorem store_ids {s : Q2} (h : Xo s = true) {f : Xy} (hf : f ∈ s.2.1) : 1 ≤ f.1 ∧ f.1 ≤ 60 := by
  have hv : Zy s.1 f = true := by
    unfold Xo at h
    obtain ⟨i, hi⟩ := List.getElem?_of_mem hf
    cases hl : Xp (Yn s) Jc s.2.1 0 () with
    | brk t =>
      have := forL_all (fun k a t => by unfold Yn; generalize (_ || _ : Bool) = c; cases c <;> simp) hl i f hi
      unfold Yn at this
      cases hv : Zy s.1 f with
      | true => rfl
      | false => rw [hv] at this; simp at this
    | ret r =>
      rw [hl] at h
      obtain rfl : r = true := h
      exfalso
      have key : ∀ (l : List Xy) k, Xp (Yn s) Jc l k () ≠ .ret true := by
        intro l
        induction l with
        | nil => intro k h; simp [Xp] at h
        | cons a l ih =>
          intro k h
          simp only [Xp] at h
          unfold Yn at h
          split at h
          · rename_i hf; exact ih _ h
          · cases h
          · rename_i r hf; cases h; revert hf; generalize (_ || _ : Bool) = c; cases c <;> simp
      exact key _ _ hl
  unfold Zy at hv
  cases hl : Xp (Jo s.1 f) Vc f.2.2.2.2 0 () with
  | brk t =>
    rw [hl] at hv
    simp only [Out.on] at hv
    cases hw : Yd f.1 1 60 with
    | true => exact within_iff.1 hw
    | false => rw [hw] at hv; simp at hv
  | ret r =>
    rw [hl] at hv
    obtain rfl : r = true := hv
    exfalso
    have key : ∀ (l : List AttrD) k, Xp (Jo s.1 f) Vc l k () ≠ .ret true := by
      intro l
      induction l with
      | nil => intro k h; simp [Xp] at h
      | cons a l ih =>
        intro k h
        simp only [Xp] at h
        unfold Jo at h
        split at h
        · rename_i hf; exact ih _ h
        · cases h
        · rename_i r hf; cases h; revert hf; generalize (bif decide (((k : Nat) : Int) > (0 : Int)) then _ else _ : Bool) = c; cases c <;> simp
    exact key _ _ hl
theorem user_ok (s : Q2) (d : List Yq) (u : Int) : ((Ye s d u)).1.length ≤ 5 ∧ ∀ x, x ∈ ((Ye s d u)).1 → x.2.length ≤ 12 ∧ ∀ n, n ∈ x.2 → 1 ≤ n ∧ n ≤ 60 := by
  unfold Ye
  cases hc : ((!(Xo s)) || (!(Kv u))) with
  | true => exact ⟨Nat.zero_le _, fun x hx => by simp at hx⟩
  | false =>
    simp only [cond_false]
    cases he : (Je (Ji s u) d).2 with
    | false => rw [evaluate_no he]; exact ⟨Nat.zero_le _, fun x hx => by simp at hx⟩
    | true =>
      obtain ⟨h1, h2, h3, h4⟩ := evaluate_ok he
      have h5 := store12 h2
      have hlen := congrArg List.length h3
      rw [List.length_map, List.length_map] at hlen
      refine ⟨by omega, fun x hx => ?_⟩
      obtain ⟨p, hp⟩ := h4 x hx
      refine ⟨by rw [hp]; exact Nat.le_trans (sel_len _ _ _) h5, fun n hn => ?_⟩
      rw [hp] at hn
      obtain ⟨f, hf, rfl⟩ := sel_id hn
      exact store_ids h2 hf
theorem rids_mem (nm : ByteArray) : ∀ (o : List Qp) (k : Nat), Xp (J0 nm) Vi o k () = .brk () ∨ ∃ x, x ∈ o ∧ Xp (J0 nm) Vi o k () = .ret x.2
  | [], _ => .inl rfl
  | b :: o, k => by
    simp only [Xp, J0]
    cases (b.1.toList == nm.toList) with
    | true => exact .inr ⟨b, List.mem_cons_self .., rfl⟩
    | false =>
      simp only [cond_false]
      rcases rids_mem nm o (k + 1) with h | ⟨x, hx, h⟩
      · exact .inl h
      · exact .inr ⟨x, List.mem_cons_of_mem _ hx, h⟩
theorem listDir_short (s : Q2) (d : List Yq) (u : Int) (n : ByteArray) : (Qy s d u n).length ≤ 12 := by
  unfold Qy X6
  rcases rids_mem n (Ye s d u).1 0 with h | ⟨x, hx, h⟩
  · rw [h]; exact Nat.zero_le _
  · rw [h]; exact ((user_ok s d u).2 x hx).1
theorem listDir_shortS (s : Q2) (d : List Yq) (u : Int) (n : ByteArray) : (X3 s d u n).length ≤ 12 := by rw [listDir_eq]; exact listDir_short s d u n
theorem ints_size (l : List Int) : GoD.size l = l.length := size_plain (fun _ => rfl)
end Go.Proofs.YtcnkkobgogmakaaGreat
namespace Go.Proofs.YtcnkkobgogmakaaGreat
open Go.RowKit
open GoD (rd own)
theorem inR_u8 (a : UInt8) : InR .u8 (a.toNat : Int) := by
  have h : a.toNat < 256 := a.toNat_lt
  constructor <;> simp [IntKind.min, IntKind.max, IntKind.bits, IntKind.signed] <;> omega
instance instGoEU8 : GoE UInt8 where
  enc a := [.int .u8 (a.toNat : Int)]
  enc_len _ := rfl
  n_pos := Nat.zero_lt_one
  wide _ := True
  wide_size _ := trivial
  vc_wide _ := trivial
  rd_vc {w cs a} h _ := by rw [show cs = _ from h]; exact .cons (.int (inR_u8 a)) .nil
  vc_rd h := by
    cases h with
    | cons h1 h2 => cases h2; cases h1; rfl
  own_oc h _ := by obtain ⟨rfl, h⟩ := h; rw [h]; exact OC.cons (L1 := []) (L2 := []) (.int (inR_u8 _)) .nil
  oc_own h _ := by
    cases h with
    | cons h1 h2 => cases h2; cases h1; exact ⟨rfl, rfl⟩
open GoE (enc wide)
def specl01New_f0 (k0 : Nat) (a0 : UInt8) (s0 : Int) : Rd (Nat × Int) (Int) (Int) := (bif decide (((k0 : Nat) : Int) < (4000 : Int)) then (.next (andI .i64 (IntKind.i64.wrap (IntKind.i64.wrap (IntKind.i64.wrap (s0 * 131) + IntKind.i64.wrap (UInt8.toNat a0 : Int)) + 7)) 1073741823)) else (.brk s0))
def specl01New_e0 (_ : Nat) (s0 : Int) : Int := s0
def specl01New (code : (List UInt8)) : Nat × Int := (Out.on (Xp specl01New_f0 specl01New_e0 code 0 (IntKind.i64.wrap (94701 + (code.length : Int)))) (fun y0 => (0, y0)))
set_option maxRecDepth 30000 in
theorem specl01New_a (code : (List UInt8)) : ANew Tryz.prog 49 [.h code] [.h code, .i (((specl01New code).1 : Nat) : Int), .i ((specl01New code).2)] := by
 refine anew_of Tryz.func49 (fn := Tryz.f49) rfl (by unfold FnOk; kernel_rfl) (Nat.le_of_ble_eq_true rfl) rfl fun w0 F0 hG => ?_
 refine sn Qa [0] [] (p0) ?_
 refine tn Qa [0, 3] [] (pl 1 code p0) ?_
 refine Qd ?_
 refine tu Qa [(3, .i (IntKind.i64.wrap (94701 + (code.length : Int)))), (4, .i 0)] [] [] [] (p0) ?_
 refine wT 0 0 .sh code (fun hw1 hl2 => ?_)
 refine blL0 specl01New_f0 specl01New_e0 code (IntKind.i64.wrap (94701 + (code.length : Int))) (fun k0 s0 => [(3, .i s0), (4, .i ((k0 : Nat) : Int))]) [3, 4] (fun y0 => [(3, .i y0)]) [3, 4] (Qc (by kernel_rfl)) (fun k0 s0 hk0 hI0 => ?_) (fun k0 s0 hk0 hI0 => ?_) (fun y0 hD0 => ?_)
 ·
  obtain ⟨a0, hx0⟩ := Xl (l := code) (i := k0) hk0
  refine Qd ?_
  refine sn Qa [0, 3, 4, 15] [] (pl 2 code (pe 3 (Qs (decide_eq_true (p := ((k0 : Nat) : Int) < (code.length : Int)) (by omega))) p0)) ?_
  refine ck (decide (((k0 : Nat) : Int) < (4000 : Int))) (fun h3 => ?_) (fun h3 => ?_)
  ·
   have h3d := of_decide_eq_true h3
   refine Qf ?_
   refine Qd ?_
   refine Qr ?_
   refine qn Qa [0, 3, 4] [] (pn 4 hx0 p0) ?_
   refine qu Qa [(3, .i (andI .i64 (IntKind.i64.wrap (IntKind.i64.wrap (IntKind.i64.wrap (s0 * 131) + IntKind.i64.wrap (UInt8.toNat a0 : Int)) + 7)) 1073741823)), (4, .i ((k0 + 1 : Nat) : Int))] [3, 4] [] [] (pe 1 (Zq (Qu k0 (by omega))) p0) ?_
   exact Exists.intro _ (And.intro (Qc (by kernel_rfl)) (Qv hx0 (Q4 h3 (rfl)) hI0))
  ·
   refine Qz ?_
   exact Exists.intro _ (And.intro (Qc (by kernel_rfl)) (forL_brk hx0 (Qk h3 (rfl)) hI0))
 ·
  refine Qd ?_
  refine sn Qa [0, 3, 4, 15] [] (pl 2 code (pe 3 (Qs (decide_eq_false (p := ((k0 : Nat) : Int) < (code.length : Int)) (by omega))) p0)) ?_
  refine ckF ?_
  refine Qz ?_
  exact Exists.intro _ (And.intro (Qc (by kernel_rfl)) (Xm hk0 (rfl) hI0))
 ·
  refine sn Qa [2] [31] (p0) ?_
  refine Qe ?_
  exact nret [] 2 31 (congrArg (fun z => ([.h code, .i ((z.1 : Nat) : Int), .i z.2] : List C)) (show specl01New code = (0, y0) from V2 hD0 (rfl)).symm)
def Y9 (code : (List UInt8)) (ci : Nat) (ch : Int) : Int × Nat × Int := (bif decide (((ci : Nat) : Int) < (code.length : Int)) then (andI .i64 (IntKind.i64.wrap (andI .i64 (xorI .i64 (shrI .i64 (IntKind.i64.wrap (IntKind.i64.wrap (ch * 6364136223846793005) + 1442695040888963407)) 33) (shrI .i64 (IntKind.i64.wrap (IntKind.i64.wrap (ch * 6364136223846793005) + 1442695040888963407)) 45)) 255 + IntKind.i64.wrap (UInt8.toNat (nth code ci) : Int))) 255, ci + 1, IntKind.i64.wrap (IntKind.i64.wrap (ch * 6364136223846793005) + 1442695040888963407)) else (andI .i64 (xorI .i64 (shrI .i64 (IntKind.i64.wrap (IntKind.i64.wrap (ch * 6364136223846793005) + 1442695040888963407)) 33) (shrI .i64 (IntKind.i64.wrap (IntKind.i64.wrap (ch * 6364136223846793005) + 1442695040888963407)) 45)) 255, ci, IntKind.i64.wrap (IntKind.i64.wrap (ch * 6364136223846793005) + 1442695040888963407)))
theorem specl01Byte_a (code : (List UInt8)) (ci : Nat) (ch : Int) : AGive Tryz.prog 95 [.h code, .i ((ci : Nat) : Int), .i ch] [] (.i (((Y9 code ci ch)).1)) [.h code, .i ((((Y9 code ci ch)).2.1 : Nat) : Int), .i (((Y9 code ci ch)).2.2)] := by
 refine Jx (tt := tt) Qa Tryz.func95 (fn := Tryz.f95) rfl (by unfold FnOk; kernel_rfl) (Nat.le_of_ble_eq_true rfl) (Nat.le_of_ble_eq_true rfl) rfl rfl fun w0 F0 hG => ?_
 refine sn Qa [0, 2] [60000] (p0) ?_
 refine tn Qa [0, 2] [60000] (p0) ?_
 refine tU Qa Yr [(2, .i 0), (3, .i (andI .i64 (xorI .i64 (shrI .i64 (IntKind.i64.wrap (IntKind.i64.wrap (ch * 6364136223846793005) + 1442695040888963407)) 33) (shrI .i64 (IntKind.i64.wrap (IntKind.i64.wrap (ch * 6364136223846793005) + 1442695040888963407)) 45)) 255))] [] [(60000, [.h code, .i ((ci : Nat) : Int), .i (IntKind.i64.wrap (IntKind.i64.wrap (ch * 6364136223846793005) + 1442695040888963407))])] [60000] (p0) ?_
 refine Qd ?_
 refine sN Qa Yr [0, 2, 3, 34] [60000] (pl 8 code p0) ?_
 refine ck (decide (((ci : Nat) : Int) < (code.length : Int))) (fun h1 => ?_) (fun h1 => ?_)
 ·
  have h1d := of_decide_eq_true h1
  refine wB 60000 0 .sh code (fun hw3 hl4 => ?_)
  have hx2 := ng code ci
  refine tN Qa Yr [0, 2, 3] [60000] (pn 9 hx2 p0) ?_
  refine qu Qa [(3, .i (andI .i64 (IntKind.i64.wrap (andI .i64 (xorI .i64 (shrI .i64 (IntKind.i64.wrap (IntKind.i64.wrap (ch * 6364136223846793005) + 1442695040888963407)) 33) (shrI .i64 (IntKind.i64.wrap (IntKind.i64.wrap (ch * 6364136223846793005) + 1442695040888963407)) 45)) 255 + IntKind.i64.wrap (UInt8.toNat (nth code ci) : Int))) 255))] [3] [(60000, [.h code, .i ((ci + 1 : Nat) : Int), .i (IntKind.i64.wrap (IntKind.i64.wrap (ch * 6364136223846793005) + 1442695040888963407))])] [60000] (pe 5 (Zq (Qu ci (by omega))) p0) ?_
  refine sn Qa [0, 2] [60000] (p0) ?_
  refine Qe ?_
  have hE5 : Y9 code ci ch = (andI .i64 (IntKind.i64.wrap (andI .i64 (xorI .i64 (shrI .i64 (IntKind.i64.wrap (IntKind.i64.wrap (ch * 6364136223846793005) + 1442695040888963407)) 33) (shrI .i64 (IntKind.i64.wrap (IntKind.i64.wrap (ch * 6364136223846793005) + 1442695040888963407)) 45)) 255 + IntKind.i64.wrap (UInt8.toNat (nth code ci) : Int))) 255, ci + 1, IntKind.i64.wrap (IntKind.i64.wrap (ch * 6364136223846793005) + 1442695040888963407)) := Q4 h1 (rfl)
  exact Uk [] (congrArg (fun z => (.i z.1 : AV)) hE5.symm) (congrArg (fun z => ([.h code, .i ((z.2.1 : Nat) : Int), .i z.2.2] : List C)) hE5.symm)
 ·
  refine Qf ?_
  refine tn Qa [0, 2] [60000] (p0) ?_
  refine Qe ?_
  have hE6 : Y9 code ci ch = (andI .i64 (xorI .i64 (shrI .i64 (IntKind.i64.wrap (IntKind.i64.wrap (ch * 6364136223846793005) + 1442695040888963407)) 33) (shrI .i64 (IntKind.i64.wrap (IntKind.i64.wrap (ch * 6364136223846793005) + 1442695040888963407)) 45)) 255, ci, IntKind.i64.wrap (IntKind.i64.wrap (ch * 6364136223846793005) + 1442695040888963407)) := Qk h1 (rfl)
  exact Uk [] (congrArg (fun z => (.i z.1 : AV)) hE6.symm) (congrArg (fun z => ([.h code, .i ((z.2.1 : Nat) : Int), .i z.2.2] : List C)) hE6.symm)
end Go.Proofs.YtcnkkobgogmakaaGreat
namespace Go.Proofs.YtcnkkobgogmakaaGreat
open Go.RowKit
theorem and255 (a : Int) : 0 ≤ andI .i64 a 255 ∧ andI .i64 a 255 ≤ 255 := by
  have h : (BitVec.ofInt 64 a &&& BitVec.ofInt 64 255).toNat ≤ 255 := by
    rw [BitVec.toNat_and]
    exact Nat.le_trans Nat.and_le_right (by decide)
  have e : andI .i64 a 255 = IntKind.i64.wrap (BitVec.ofInt 64 a &&& BitVec.ofInt 64 255).toNat := rfl
  rw [e, IntWalk.i64_in _ (by omega)]
  omega
theorem Ke (code : List UInt8) (ci : Nat) (ch : Int) : 0 ≤ (Y9 code ci ch).1 ∧ (Y9 code ci ch).1 ≤ 255 := by
  unfold Y9
  cases decide (((ci : Nat) : Int) < (code.length : Int)) <;> exact and255 _
end Go.Proofs.YtcnkkobgogmakaaGreat
