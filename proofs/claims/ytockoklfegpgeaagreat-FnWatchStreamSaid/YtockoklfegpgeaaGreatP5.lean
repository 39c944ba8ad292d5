/- Texts of this proof, put together by a program: Isa, Isb, Ckc, Slb, Ev, Ex, Ey, Eva, Evb, Tw, Clr, Inr, Ins, Df, Eua, Eub, Gb, Cua, Cub, Cuc, Cud. -/
import Derived.Test.YtockoklfegpgeaaGreatP4
import Derived.KernelRfl
import Derived.Laws.Externs
import Derived.Lib.AppendZerosOnto
import Derived.Deep.RegionLaw
set_option linter.unusedVariables false
set_option linter.unusedSimpArgs false
namespace Go.Proofs.YtockoklfegpgeaaGreat
open Go.RowKit
open GoE (enc wide)
def Eb (name : ByteArray) (_ : Nat) (a0 : Zq) (_ : Unit) : Rd (Int) (Unit) (Unit) := (bif (a0.1.toList == name.toList) then (.ret a0.2) else (.next ()))
def Ec (_ : Nat) (_ : Unit) : Unit := ()
def Ch (s_ : (List Zq)) (name : ByteArray) : Int := (Out.on (Xm (Eb name) Ec s_ 0 ()) (fun _ => 0))
theorem Tw (s_ : (List Zq)) (name : ByteArray) : ACalls Tryz.prog 161 [.h s_, .s name] (.i (Ch s_ name)) := by
 refine en Qb Tryz.func161 fun w0 F0 hG => ?_
 refine sn Qb [0, 1, 4] [] (p0) ?_
 refine Qe ?_
 refine tn Qb [1, 4, 7, 8, 9] [] (pl 1 s_ p0) ?_
 refine mz [(4, .i 0), (7, .h s_), (8, .i (s_.length : Int)), (9, .i 0)] [0] [] [] ?_
 refine wT 7 0 .sh s_ (fun hw1 hl2 => ?_)
 refine Mq (Eb name) Ec s_ () (fun k0 _ => [(9, .i ((k0 : Nat) : Int))]) [9] (fun _ => []) [1, 7, 8, 9] (Qd (by kernel_rfl)) (fun k0 s0 hk0 hI0 => ?_) (fun k0 s0 hk0 hI0 => ?_) (fun y0 hD0 => ?_)
 ·
  obtain ⟨a0, hx0⟩ := Xk (l := s_) (i := k0) hk0
  refine sn Qb [1, 4, 7, 8, 9, 10] [] (pe 0 (Qs (decide_eq_true (p := ((k0 : Nat) : Int) < (s_.length : Int)) (by omega))) p0) ?_
  refine Qe ?_
  refine ckT ?_
  refine Qj ?_
  refine Qe ?_
  refine Qt ?_
  refine tn Qb [1, 4, 6, 7, 8, 9] [6] (pn 0 hx0 p0) ?_
  refine tu Qb [(6, .p 6 0), (16, .b (a0.1.toList == name.toList))] [] [(6, [.s a0.1, .i a0.2])] [] (p0) ?_
  refine ck (a0.1.toList == name.toList) (fun h3 => ?_) (fun h3 => ?_)
  ·
   refine sn Qb [1, 4, 7, 8, 9] [] (p0) ?_
   refine Qf ?_
   have hr4 : (Xm (Eb name) Ec s_ 0 ()) = .ret a0.2 := Z1 hx0 (Q8 h3 (rfl)) hI0
   exact pi [] (Gu hr4)
  ·
   refine Qj ?_
   refine rn Qb [1, 4, 7, 8, 9] [] (pe 0 (Jb (Qv k0 (by omega))) p0) ?_
   exact Exists.intro _ (And.intro (Qd (by kernel_rfl)) (Qz hx0 (Qn h3 (rfl)) hI0))
 ·
  refine sn Qb [1, 4, 7, 8, 9, 10] [] (pe 0 (Qs (decide_eq_false (p := ((k0 : Nat) : Int) < (s_.length : Int)) (by omega))) p0) ?_
  refine Qe ?_
  refine ckF ?_
  refine Q3 ?_
  exact Exists.intro _ (And.intro (Qd (by kernel_rfl)) (Xl hk0 (rfl) hI0))
 ·
  refine sn Qb [4] [] (p0) ?_
  refine Qf ?_
  exact pi [] (Wf hD0 (rfl))
def Jg (s_ : (List Zq)) (name : ByteArray) (v : Wg) : Bool := ((Ks v) && ((v.1 != (0 : Int)) && (v.1 == (Ch s_ name))))
theorem Fg (s_ : (List Zq)) (name : ByteArray) (v : Wg) : ACalls Tryz.prog 135 [.h s_, .s name, .a [.i v.1, .i v.2.1, .s v.2.2]] (.b (Jg s_ name v)) := by
 refine en Qb Tryz.func135 fun w0 F0 hG => ?_
 refine sn Qb [0, 1, 5, 6] [5] (p0) ?_
 refine Qe ?_
 refine mz [(5, .p 5 0), (6, .b false)] [2] [(5, [.i v.1, .i v.2.1, .s v.2.2])] [] ?_
 refine jn [(6, .b ((Ks v) && ((v.1 != (0 : Int)) && (v.1 == (Ch s_ name)))))] [0, 1, 5, 6] [] [5] (Ks v) (fun h1 => ?_) (fun h1 => ?_) ?_
 ·
  refine Xb (v.1 != (0 : Int)) (fun h2 => ?_) (fun h2 => ?_)
  ·
   refine rN Qb Yn [6] [] (pc 1 (cb h1 (K7 v)) (pt 5 h2 (pc 12 (Tw s_ name) p0))) ?_
   exact ⟨rfl, Qd (by rw [h1, h2]; first | done | kernel_rfl)⟩
  ·
   refine rN Qb Yn [6] [] (pc 1 (cb h1 (K7 v)) (pf 5 h2 p0)) ?_
   exact ⟨rfl, Qd (by rw [h1, h2]; first | done | kernel_rfl)⟩
 ·
  refine rN Qb Yn [6] [] (pc 1 (cb h1 (K7 v)) p0) ?_
  exact ⟨rfl, Qd (by rw [h1]; first | done | kernel_rfl)⟩
 refine Qf ?_
 exact pb [] (show Jg s_ name v = ((Ks v) && ((v.1 != (0 : Int)) && (v.1 == (Ch s_ name)))) from rfl)
def Zz (n : Int) : Bool := (Yx n 0 2)
theorem Uk (n : Int) : ACalls Tryz.prog 43 [.i n] (.b (Zz n)) := by
 refine en Qb Tryz.func43 fun w0 F0 hG => ?_
 refine sn Qb [0, 2] [] (p0) ?_
 refine tn Qb [2] [] (pc 1 (Jv n 0 2) p0) ?_
 refine Qf ?_
 exact pb [] (show Zz n = (Yx n 0 2) from rfl)
def Wi (s_ : (List Zq)) (k0 : Nat) (a0 : Zq) (_ : Unit) : Rd (Bool) (Unit) (Unit) := (bif ((!(Yq a0.1)) || (bif (a0.2 != (1 : Int)) then ((a0.2 != (2 : Int)) || (decide (((k0 : Nat) : Int) > (0 : Int)) && (!(Op.bytesLess ((nth s_ (Int.toNat (((k0 : Nat) : Int) - 1))).1).toList a0.1.toList)))) else (decide (((k0 : Nat) : Int) > (0 : Int)) && (!(Op.bytesLess ((nth s_ (Int.toNat (((k0 : Nat) : Int) - 1))).1).toList a0.1.toList))))) then (.ret false) else (.next ()))
def U0 (_ : Nat) (_ : Unit) : Unit := ()
def Kg (s_ : (List Zq)) : Bool := (Out.on (Xm (Wi s_) U0 s_ 0 ()) (fun _ => decide ((s_.length : Int) ≤ (5 : Int))))
theorem Ha (s_ : (List Zq)) : ACalls Tryz.prog 108 [.h s_] (.b (Kg s_)) := by
 refine en Qb Tryz.func108 fun w0 F0 hG => ?_
 refine sn Qb [0, 2] [] (p0) ?_
 refine Qe ?_
 refine tn Qb [0, 2, 5, 6, 7] [] (pl 1 s_ p0) ?_
 refine mz [(2, .b false), (5, .h s_), (6, .i (s_.length : Int)), (7, .i 0)] [] [] [] ?_
 refine wT 0 0 .sh s_ (fun hw1 hl2 => ?_)
 refine Mq (Wi s_) U0 s_ () (fun k0 _ => [(7, .i ((k0 : Nat) : Int))]) [7] (fun _ => []) [5, 6, 7] (Qd (by kernel_rfl)) (fun k0 s0 hk0 hI0 => ?_) (fun k0 s0 hk0 hI0 => ?_) (fun y0 hD0 => ?_)
 ·
  obtain ⟨a0, hx0⟩ := Xk (l := s_) (i := k0) hk0
  refine sn Qb [0, 2, 5, 6, 7, 8] [] (pe 0 (Qs (decide_eq_true (p := ((k0 : Nat) : Int) < (s_.length : Int)) (by omega))) p0) ?_
  refine Qe ?_
  refine ckT ?_
  refine Qj ?_
  refine Qe ?_
  refine Qt ?_
  refine tn Qb [0, 2, 3, 4, 5, 6, 7] [4] (pn 1 hx0 p0) ?_
  refine Qe ?_
  refine mz [(3, .i ((k0 : Nat) : Int)), (4, .p 4 0)] [] [(4, [.s a0.1, .i a0.2])] [] ?_
  refine jn [(40, .b ((!(Yq a0.1)) || (bif (a0.2 != (1 : Int)) then ((a0.2 != (2 : Int)) || (decide (((k0 : Nat) : Int) > (0 : Int)) && (!(Op.bytesLess ((nth s_ (Int.toNat (((k0 : Nat) : Int) - 1))).1).toList a0.1.toList)))) else (decide (((k0 : Nat) : Int) > (0 : Int)) && (!(Op.bytesLess ((nth s_ (Int.toNat (((k0 : Nat) : Int) - 1))).1).toList a0.1.toList))))))] [3, 4] [] [4] (!(Yq a0.1)) (fun h3 => ?_) (fun h3 => ?_) ?_
  ·
   have h3n : (Yq a0.1) = false := Wz h3
   refine rN Qb Yn [0, 2, 5, 6, 7, 40] [] (pc 2 (cb h3n (Y0 a0.1)) (pe 3 (show .b (!false) = .b true from rfl) p0)) ?_
   exact ⟨rfl, Qd (by rw [h3]; first | done | kernel_rfl)⟩
  ·
   have h3n : (Yq a0.1) = true := Je h3
   refine Xb (a0.2 != (1 : Int)) (fun h4 => ?_) (fun h4 => ?_)
   ·
    have h4d := Ll h4
    refine Xb (a0.2 != (2 : Int)) (fun h5 => ?_) (fun h5 => ?_)
    ·
     refine rN Qb Yn [0, 2, 5, 6, 7, 40] [] (pc 2 (cb h3n (Y0 a0.1)) (pe 3 (show .b (!true) = .b false from rfl) (pt 7 h4 (pt 11 h5 p0)))) ?_
     exact ⟨rfl, Qd (by rw [h3, h4, h5]; first | done | kernel_rfl)⟩
    ·
     have h5d := We h5
     refine Xb (decide (((k0 : Nat) : Int) > (0 : Int))) (fun h6 => ?_) (fun h6 => ?_)
     ·
      have h6d := of_decide_eq_true h6
      have hx7 := ng s_ (Int.toNat (((k0 : Nat) : Int) - 1))
      refine rN Qb Yn [0, 2, 5, 6, 7, 40] [] (pc 2 (cb h3n (Y0 a0.1)) (pe 3 (show .b (!true) = .b false from rfl) (pt 7 h4 (pf 11 h5 (pt 16 h6 (pe 20 (Jb (IntWalk.i64_in (((k0 : Nat) : Int) - 1) (by omega))) (pg 21 (((k0 : Nat) : Int) - 1) hx7 p0))))))) ?_
      exact ⟨rfl, Qd (by rw [h3, h4, h5, h6]; first | done | kernel_rfl)⟩
     ·
      refine rN Qb Yn [0, 2, 5, 6, 7, 40] [] (pc 2 (cb h3n (Y0 a0.1)) (pe 3 (show .b (!true) = .b false from rfl) (pt 7 h4 (pf 11 h5 (pf 16 h6 p0))))) ?_
      exact ⟨rfl, Qd (by rw [h3, h4, h5, h6]; first | done | kernel_rfl)⟩
   ·
    have h4d := We h4
    refine Xb (decide (((k0 : Nat) : Int) > (0 : Int))) (fun h8 => ?_) (fun h8 => ?_)
    ·
     have h8d := of_decide_eq_true h8
     have hx9 := ng s_ (Int.toNat (((k0 : Nat) : Int) - 1))
     refine rN Qb Yn [0, 2, 5, 6, 7, 40] [] (pc 2 (cb h3n (Y0 a0.1)) (pe 3 (show .b (!true) = .b false from rfl) (pf 7 h4 (pt 16 h8 (pe 20 (Jb (IntWalk.i64_in (((k0 : Nat) : Int) - 1) (by omega))) (pg 21 (((k0 : Nat) : Int) - 1) hx9 p0)))))) ?_
     exact ⟨rfl, Qd (by rw [h3, h4, h8]; first | done | kernel_rfl)⟩
    ·
     refine rN Qb Yn [0, 2, 5, 6, 7, 40] [] (pc 2 (cb h3n (Y0 a0.1)) (pe 3 (show .b (!true) = .b false from rfl) (pf 7 h4 (pf 16 h8 p0)))) ?_
     exact ⟨rfl, Qd (by rw [h3, h4, h8]; first | done | kernel_rfl)⟩
  refine ck ((!(Yq a0.1)) || (bif (a0.2 != (1 : Int)) then ((a0.2 != (2 : Int)) || (decide (((k0 : Nat) : Int) > (0 : Int)) && (!(Op.bytesLess ((nth s_ (Int.toNat (((k0 : Nat) : Int) - 1))).1).toList a0.1.toList)))) else (decide (((k0 : Nat) : Int) > (0 : Int)) && (!(Op.bytesLess ((nth s_ (Int.toNat (((k0 : Nat) : Int) - 1))).1).toList a0.1.toList))))) (fun h10 => ?_) (fun h10 => ?_)
  ·
   refine su Qb [] [40] [] [] (p0) ?_
   refine Qf ?_
   have hr11 : (Xm (Wi s_) U0 s_ 0 ()) = .ret false := Z1 hx0 (Q8 h10 (rfl)) hI0
   exact pb [] (Gu hr11)
  ·
   refine Qj ?_
   refine rn Qb [0, 2, 5, 6, 7] [] (pe 0 (Jb (Qv k0 (by omega))) p0) ?_
   exact Exists.intro _ (And.intro (Qd (by kernel_rfl)) (Qz hx0 (Qn h10 (rfl)) hI0))
 ·
  refine sn Qb [0, 2, 5, 6, 7, 8] [] (pe 0 (Qs (decide_eq_false (p := ((k0 : Nat) : Int) < (s_.length : Int)) (by omega))) p0) ?_
  refine Qe ?_
  refine ckF ?_
  refine Q3 ?_
  exact Exists.intro _ (And.intro (Qd (by kernel_rfl)) (Xl hk0 (rfl) hI0))
 ·
  refine sn Qb [2] [] (pl 1 s_ p0) ?_
  refine Qf ?_
  exact pb [] (Wf hD0 (rfl))
def Kk (s_ : (List Zq)) (f : X4) (k0 : Nat) (a0 : Bf) (_ : Unit) : Rd (Bool) (Unit) (Unit) := (bif (bif decide (((k0 : Nat) : Int) > (0 : Int)) then ((!(Op.bytesLess ((nth f.2.2.2.2 (Int.toNat (((k0 : Nat) : Int) - 1))).1).toList a0.1.toList)) || (!(Jg s_ a0.1 a0.2))) else (!(Jg s_ a0.1 a0.2))) then (.ret false) else (.next ()))
def V2 (_ : Nat) (_ : Unit) : Unit := ()
def Jr (s_ : (List Zq)) (f : X4) : Bool := (Out.on (Xm (Kk s_ f) V2 f.2.2.2.2 0 ()) (fun _ => ((Yx f.1 1 60) && ((Zz f.2.1) && ((Yx f.2.2.2.1 0 60) && (Kg s_))))))
theorem Ag (s_ : (List Zq)) (f : X4) : ACalls Tryz.prog 107 [.h s_, .a [.i f.1, .i f.2.1, .b f.2.2.1, .i f.2.2.2.1, .h f.2.2.2.2]] (.b (Jr s_ f)) := by
 refine en Qb Tryz.func107 fun w0 F0 hG => ?_
 refine sn Qb [0, 3, 4] [3] (p0) ?_
 refine Qe ?_
 refine tn Qb [0, 3, 4, 8, 9, 10] [3] (pl 2 f.2.2.2.2 p0) ?_
 refine mz [(3, .p 3 0), (4, .b false), (8, .h f.2.2.2.2), (9, .i (f.2.2.2.2.length : Int)), (10, .i 0)] [1] [(3, [.i f.1, .i f.2.1, .b f.2.2.1, .i f.2.2.2.1, .h f.2.2.2.2])] [] ?_
 refine wT 8 0 .sh f.2.2.2.2 (fun hw1 hl2 => ?_)
 refine Mq (Kk s_ f) V2 f.2.2.2.2 () (fun k0 _ => [(10, .i ((k0 : Nat) : Int))]) [10] (fun _ => []) [8, 9, 10] (Qd (by kernel_rfl)) (fun k0 s0 hk0 hI0 => ?_) (fun k0 s0 hk0 hI0 => ?_) (fun y0 hD0 => ?_)
 ·
  obtain ⟨a0, hx0⟩ := Xk (l := f.2.2.2.2) (i := k0) hk0
  refine su Qb [(11, .b true)] [] [] [] (pe 0 (Qs (decide_eq_true (p := ((k0 : Nat) : Int) < (f.2.2.2.2.length : Int)) (by omega))) p0) ?_
  refine Qe ?_
  refine ckT ?_
  refine Qj ?_
  refine Qe ?_
  refine Qt ?_
  refine sn Qb [0, 3, 4, 5, 6, 8, 9, 10] [3, 6] (pn 1 hx0 p0) ?_
  refine Qe ?_
  refine mz [(5, .i ((k0 : Nat) : Int)), (6, .p 6 0)] [11] [(6, [.s a0.1, .i a0.2.1, .i a0.2.2.1, .s a0.2.2.2])] [] ?_
  refine jn [(37, .b (bif decide (((k0 : Nat) : Int) > (0 : Int)) then ((!(Op.bytesLess ((nth f.2.2.2.2 (Int.toNat (((k0 : Nat) : Int) - 1))).1).toList a0.1.toList)) || (!(Jg s_ a0.1 a0.2))) else (!(Jg s_ a0.1 a0.2))))] [5, 6] [] [6] (decide (((k0 : Nat) : Int) > (0 : Int))) (fun h3 => ?_) (fun h3 => ?_) ?_
  ·
   have h3d := of_decide_eq_true h3
   refine Xb (!(Op.bytesLess ((nth f.2.2.2.2 (Int.toNat (((k0 : Nat) : Int) - 1))).1).toList a0.1.toList)) (fun h4 => ?_) (fun h4 => ?_)
   ·
    have hx5 := ng f.2.2.2.2 (Int.toNat (((k0 : Nat) : Int) - 1))
    refine rN Qb Yn [0, 3, 4, 8, 9, 10, 37] [3] (pt 1 h3 (pe 6 (Jb (IntWalk.i64_in (((k0 : Nat) : Int) - 1) (by omega))) (pg 7 (((k0 : Nat) : Int) - 1) hx5 (pt 12 h4 p0)))) ?_
    exact ⟨rfl, Qd (by rw [h3, h4]; first | done | kernel_rfl)⟩
   ·
    have hx6 := ng f.2.2.2.2 (Int.toNat (((k0 : Nat) : Int) - 1))
    refine rN Qb Yn [0, 3, 4, 8, 9, 10, 37] [3] (pt 1 h3 (pe 6 (Jb (IntWalk.i64_in (((k0 : Nat) : Int) - 1) (by omega))) (pg 7 (((k0 : Nat) : Int) - 1) hx6 (pf 12 h4 (pc 20 (Fg s_ a0.1 a0.2) p0))))) ?_
    exact ⟨rfl, Qd (by rw [h3, h4]; first | done | kernel_rfl)⟩
  ·
   refine rN Qb Yn [0, 3, 4, 8, 9, 10, 37] [3] (pf 1 h3 (pc 20 (Fg s_ a0.1 a0.2) p0)) ?_
   exact ⟨rfl, Qd (by rw [h3]; first | done | kernel_rfl)⟩
  refine ck (bif decide (((k0 : Nat) : Int) > (0 : Int)) then ((!(Op.bytesLess ((nth f.2.2.2.2 (Int.toNat (((k0 : Nat) : Int) - 1))).1).toList a0.1.toList)) || (!(Jg s_ a0.1 a0.2))) else (!(Jg s_ a0.1 a0.2))) (fun h7 => ?_) (fun h7 => ?_)
  ·
   refine su Qb [] [37] [] [] (p0) ?_
   refine Qf ?_
   have hr8 : (Xm (Kk s_ f) V2 f.2.2.2.2 0 ()) = .ret false := Z1 hx0 (Q8 h7 (rfl)) hI0
   exact pb [] (Gu hr8)
  ·
   refine Qj ?_
   refine rn Qb [0, 3, 4, 8, 9, 10] [3] (pe 0 (Jb (Qv k0 (by omega))) p0) ?_
   exact Exists.intro _ (And.intro (Qd (by kernel_rfl)) (Qz hx0 (Qn h7 (rfl)) hI0))
 ·
  refine su Qb [(11, .b false)] [] [] [] (pe 0 (Qs (decide_eq_false (p := ((k0 : Nat) : Int) < (f.2.2.2.2.length : Int)) (by omega))) p0) ?_
  refine Qe ?_
  refine ckF ?_
  refine Q3 ?_
  exact Exists.intro _ (And.intro (Qd (by kernel_rfl)) (Xl hk0 (rfl) hI0))
 ·
  refine Qe ?_
  refine jn [(4, .b ((Yx f.1 1 60) && ((Zz f.2.1) && ((Yx f.2.2.2.1 0 60) && (Kg s_)))))] [0, 3, 4] [] [3] (Yx f.1 1 60) (fun h9 => ?_) (fun h9 => ?_) ?_
  ·
   have h9w := Mh.1 h9
   refine Xb (Zz f.2.1) (fun h10 => ?_) (fun h10 => ?_)
   ·
    refine Xb (Yx f.2.2.2.1 0 60) (fun h11 => ?_) (fun h11 => ?_)
    ·
     have h11w := Mh.1 h11
     refine rn Qb [4] [] (pc 2 (cb h9 (Jv f.1 1 60)) (pc 6 (cb h10 (Uk f.2.1)) (pc 11 (cb h11 (Jv f.2.2.2.1 0 60)) (pc 15 (Ha s_) p0)))) ?_
     exact ⟨rfl, Qd (by rw [h9, h10, h11]; first | done | kernel_rfl)⟩
    ·
     refine rn Qb [4] [] (pc 2 (cb h9 (Jv f.1 1 60)) (pc 6 (cb h10 (Uk f.2.1)) (pc 11 (cb h11 (Jv f.2.2.2.1 0 60)) p0))) ?_
     exact ⟨rfl, Qd (by rw [h9, h10, h11]; first | done | kernel_rfl)⟩
   ·
    refine rn Qb [4] [] (pc 2 (cb h9 (Jv f.1 1 60)) (pc 6 (cb h10 (Uk f.2.1)) p0)) ?_
    exact ⟨rfl, Qd (by rw [h9, h10]; first | done | kernel_rfl)⟩
  ·
   refine rn Qb [4] [] (pc 2 (cb h9 (Jv f.1 1 60)) p0) ?_
   exact ⟨rfl, Qd (by rw [h9]; first | done | kernel_rfl)⟩
  refine Qf ?_
  exact pb [] (Wf hD0 (rfl))
def Y8 (s_ : Q5) (k0 : Nat) (a0 : X4) (_ : Unit) : Rd (Bool) (Unit) (Unit) := (bif ((!(Jr s_.1 a0)) || (decide (a0.1 ≥ s_.2.2) || (decide (((k0 : Nat) : Int) > (0 : Int)) && decide ((nth s_.2.1 (Int.toNat (((k0 : Nat) : Int) - 1))).1 ≥ a0.1)))) then (.ret false) else (.next ()))
def J6 (_ : Nat) (_ : Unit) : Unit := ()
def Xq (s_ : Q5) : Bool := (Out.on (Xm (Y8 s_) J6 s_.2.1 0 ()) (fun _ => ((Kg s_.1) && (decide ((s_.2.1.length : Int) ≤ (12 : Int)) && (Yx s_.2.2 1 61)))))
theorem Ci (s_ : Q5) : ACalls Tryz.prog 85 [.a [.h s_.1, .h s_.2.1, .i s_.2.2]] (.b (Xq s_)) := by
 refine en Qb Tryz.func85 fun w0 F0 hG => ?_
 refine sn Qb [1, 2] [1] (p0) ?_
 refine Qe ?_
 refine tn Qb [1, 2, 6, 7, 8] [1] (pl 2 s_.2.1 p0) ?_
 refine mz [(1, .p 1 0), (2, .b false), (6, .h s_.2.1), (7, .i (s_.2.1.length : Int)), (8, .i 0)] [0] [(1, [.h s_.1, .h s_.2.1, .i s_.2.2])] [] ?_
 refine wT 6 0 .sh s_.2.1 (fun hw1 hl2 => ?_)
 refine Mq (Y8 s_) J6 s_.2.1 () (fun k0 _ => [(8, .i ((k0 : Nat) : Int))]) [8] (fun _ => []) [6, 7, 8] (Qd (by kernel_rfl)) (fun k0 s0 hk0 hI0 => ?_) (fun k0 s0 hk0 hI0 => ?_) (fun y0 hD0 => ?_)
 ·
  obtain ⟨a0, hx0⟩ := Xk (l := s_.2.1) (i := k0) hk0
  refine sn Qb [1, 2, 6, 7, 8, 9] [1] (pe 0 (Qs (decide_eq_true (p := ((k0 : Nat) : Int) < (s_.2.1.length : Int)) (by omega))) p0) ?_
  refine Qe ?_
  refine ckT ?_
  refine Qj ?_
  refine Qe ?_
  refine Qt ?_
  refine tn Qb [1, 2, 3, 4, 6, 7, 8] [1, 4] (pn 1 hx0 p0) ?_
  refine Qe ?_
  refine mz [(3, .i ((k0 : Nat) : Int)), (4, .p 4 0)] [] [(4, [.i a0.1, .i a0.2.1, .b a0.2.2.1, .i a0.2.2.2.1, .h a0.2.2.2.2])] [] ?_
  refine jn [(40, .b ((!(Jr s_.1 a0)) || (decide (a0.1 ≥ s_.2.2) || (decide (((k0 : Nat) : Int) > (0 : Int)) && decide ((nth s_.2.1 (Int.toNat (((k0 : Nat) : Int) - 1))).1 ≥ a0.1)))))] [3, 4] [] [4] (!(Jr s_.1 a0)) (fun h3 => ?_) (fun h3 => ?_) ?_
  ·
   have h3n : (Jr s_.1 a0) = false := Wz h3
   refine rN Qb Yn [1, 2, 6, 7, 8, 40] [1] (pc 3 (cb h3n (Ag s_.1 a0)) (pe 4 (show .b (!false) = .b true from rfl) p0)) ?_
   exact ⟨rfl, Qd (by rw [h3]; first | done | kernel_rfl)⟩
  ·
   have h3n : (Jr s_.1 a0) = true := Je h3
   refine Xb (decide (a0.1 ≥ s_.2.2)) (fun h4 => ?_) (fun h4 => ?_)
   ·
    refine rN Qb Yn [1, 2, 6, 7, 8, 40] [1] (pc 3 (cb h3n (Ag s_.1 a0)) (pe 4 (show .b (!true) = .b false from rfl) (pt 10 h4 p0))) ?_
    exact ⟨rfl, Qd (by rw [h3, h4]; first | done | kernel_rfl)⟩
   ·
    have h4d := of_decide_eq_false h4
    refine Xb (decide (((k0 : Nat) : Int) > (0 : Int))) (fun h5 => ?_) (fun h5 => ?_)
    ·
     have h5d := of_decide_eq_true h5
     have hx6 := ng s_.2.1 (Int.toNat (((k0 : Nat) : Int) - 1))
     refine rN Qb Yn [1, 2, 6, 7, 8, 40] [1] (pc 3 (cb h3n (Ag s_.1 a0)) (pe 4 (show .b (!true) = .b false from rfl) (pf 10 h4 (pt 14 h5 (pe 19 (Jb (IntWalk.i64_in (((k0 : Nat) : Int) - 1) (by omega))) (pg 20 (((k0 : Nat) : Int) - 1) hx6 p0)))))) ?_
     exact ⟨rfl, Qd (by rw [h3, h4, h5]; first | done | kernel_rfl)⟩
    ·
     refine rN Qb Yn [1, 2, 6, 7, 8, 40] [1] (pc 3 (cb h3n (Ag s_.1 a0)) (pe 4 (show .b (!true) = .b false from rfl) (pf 10 h4 (pf 14 h5 p0)))) ?_
     exact ⟨rfl, Qd (by rw [h3, h4, h5]; first | done | kernel_rfl)⟩
  refine ck ((!(Jr s_.1 a0)) || (decide (a0.1 ≥ s_.2.2) || (decide (((k0 : Nat) : Int) > (0 : Int)) && decide ((nth s_.2.1 (Int.toNat (((k0 : Nat) : Int) - 1))).1 ≥ a0.1)))) (fun h7 => ?_) (fun h7 => ?_)
  ·
   refine su Qb [] [40] [] [] (p0) ?_
   refine Qf ?_
   have hr8 : (Xm (Y8 s_) J6 s_.2.1 0 ()) = .ret false := Z1 hx0 (Q8 h7 (rfl)) hI0
   exact pb [] (Gu hr8)
  ·
   have h7r : ((decide (a0.1 ≥ s_.2.2) || (decide (((k0 : Nat) : Int) > (0 : Int)) && decide ((nth s_.2.1 (Int.toNat (((k0 : Nat) : Int) - 1))).1 ≥ a0.1)))) = false := I0 h7
   have h7rl : (decide (a0.1 ≥ s_.2.2)) = false := Pq h7r
   have h7rld := of_decide_eq_false h7rl
   refine Qj ?_
   refine rn Qb [1, 2, 6, 7, 8] [1] (pe 0 (Jb (Qv k0 (by omega))) p0) ?_
   exact Exists.intro _ (And.intro (Qd (by kernel_rfl)) (Qz hx0 (Qn h7 (rfl)) hI0))
 ·
  refine sn Qb [1, 2, 6, 7, 8, 9] [1] (pe 0 (Qs (decide_eq_false (p := ((k0 : Nat) : Int) < (s_.2.1.length : Int)) (by omega))) p0) ?_
  refine Qe ?_
  refine ckF ?_
  refine Q3 ?_
  exact Exists.intro _ (And.intro (Qd (by kernel_rfl)) (Xl hk0 (rfl) hI0))
 ·
  refine Qe ?_
  refine jn [(2, .b ((Kg s_.1) && (decide ((s_.2.1.length : Int) ≤ (12 : Int)) && (Yx s_.2.2 1 61))))] [1, 2] [] [1] (Kg s_.1) (fun h9 => ?_) (fun h9 => ?_) ?_
  ·
   refine Xb (decide ((s_.2.1.length : Int) ≤ (12 : Int))) (fun h10 => ?_) (fun h10 => ?_)
   ·
    refine rn Qb [2] [] (pc 2 (cb h9 (Ha s_.1)) (pl 6 s_.2.1 (pt 7 h10 (pc 12 (Jv s_.2.2 1 61) p0)))) ?_
    exact ⟨rfl, Qd (by rw [h9, h10]; first | done | kernel_rfl)⟩
   ·
    refine rn Qb [2] [] (pc 2 (cb h9 (Ha s_.1)) (pl 6 s_.2.1 (pf 7 h10 p0))) ?_
    exact ⟨rfl, Qd (by rw [h9, h10]; first | done | kernel_rfl)⟩
  ·
   refine rn Qb [2] [] (pc 2 (cb h9 (Ha s_.1)) p0) ?_
   exact ⟨rfl, Qd (by rw [h9]; first | done | kernel_rfl)⟩
  refine Qf ?_
  exact pb [] (Wf hD0 (rfl))
def Ed (name : ByteArray) (_ : Nat) (a0 : Zq) (_ : Unit) : Rd (Int) (Unit) (Unit) := (bif (a0.1.toList == name.toList) then (.ret a0.2) else (.next ()))
def Ee (_ : Nat) (_ : Unit) : Unit := ()
def Cj (s_ : (List Zq)) (name : ByteArray) : Int := (Out.on (Xm (Ed name) Ee s_ 0 ()) (fun _ => 0))
theorem Tx (s_ : (List Zq)) (name : ByteArray) : ACalls Tryz.prog 152 [.h s_, .s name] (.i (Cj s_ name)) := by
 refine en Qb Tryz.func152 fun w0 F0 hG => ?_
 refine sn Qb [0, 1, 4] [] (p0) ?_
 refine Qe ?_
 refine tn Qb [0, 1, 4, 5] [] (p0) ?_
 refine mz [(4, .i 0), (5, .i 0)] [] [] [] ?_
 refine wT 0 0 .sh s_ (fun hw1 hl2 => ?_)
 refine Mq (Ed name) Ee s_ () (fun k0 _ => [(5, .i ((k0 : Nat) : Int))]) [5] (fun _ => []) [0, 1, 5] (Qd (by kernel_rfl)) (fun k0 s0 hk0 hI0 => ?_) (fun k0 s0 hk0 hI0 => ?_) (fun y0 hD0 => ?_)
 ·
  obtain ⟨a0, hx0⟩ := Xk (l := s_) (i := k0) hk0
  refine Qe ?_
  refine sn Qb [0, 1, 4, 5, 9] [] (pl 2 s_ (pe 3 (Qs (decide_eq_true (p := ((k0 : Nat) : Int) < (s_.length : Int)) (by omega))) p0)) ?_
  refine ckT ?_
  refine Qj ?_
  refine Qe ?_
  refine Qt ?_
  refine tn Qb [0, 1, 4, 5, 18] [] (pn 2 hx0 p0) ?_
  refine ck (a0.1.toList == name.toList) (fun h3 => ?_) (fun h3 => ?_)
  ·
   refine tu Qb [(4, .i a0.2)] [4] [] [] (pn 2 hx0 p0) ?_
   refine Qf ?_
   have hr4 : (Xm (Ed name) Ee s_ 0 ()) = .ret a0.2 := Z1 hx0 (Q8 h3 (rfl)) hI0
   exact pi [] (Gu hr4)
  ·
   refine Qj ?_
   refine qu Qb [(5, .i ((k0 + 1 : Nat) : Int))] [5] [] [] (pe 1 (Jb (Qv k0 (by omega))) p0) ?_
   exact Exists.intro _ (And.intro (Qd (by kernel_rfl)) (Qz hx0 (Qn h3 (rfl)) hI0))
 ·
  refine Qe ?_
  refine sn Qb [0, 1, 4, 5, 9] [] (pl 2 s_ (pe 3 (Qs (decide_eq_false (p := ((k0 : Nat) : Int) < (s_.length : Int)) (by omega))) p0)) ?_
  refine ckF ?_
  refine Q3 ?_
  exact Exists.intro _ (And.intro (Qd (by kernel_rfl)) (Xl hk0 (rfl) hI0))
 ·
  refine sn Qb [4] [] (p0) ?_
  refine Qf ?_
  exact pi [] (Wf hD0 (rfl))
def Jt (s_ : (List Zq)) (name : ByteArray) (v : Wg) : Bool := ((Jc v) && ((v.1 != (0 : Int)) && (v.1 == (Cj s_ name))))
theorem Bk (s_ : (List Zq)) (name : ByteArray) (v : Wg) : ACalls Tryz.prog 126 [.h s_, .s name, .a [.i v.1, .i v.2.1, .s v.2.2]] (.b (Jt s_ name v)) := by
 refine en Qb Tryz.func126 fun w0 F0 hG => ?_
 refine sn Qb [0, 1, 5, 6] [5] (p0) ?_
 refine Qe ?_
 refine mz [(5, .p 5 0), (6, .b false)] [2] [(5, [.i v.1, .i v.2.1, .s v.2.2])] [] ?_
 refine jn [(6, .b ((Jc v) && ((v.1 != (0 : Int)) && (v.1 == (Cj s_ name)))))] [0, 1, 5, 6] [] [5] (Jc v) (fun h1 => ?_) (fun h1 => ?_) ?_
 ·
  refine Xb (v.1 != (0 : Int)) (fun h2 => ?_) (fun h2 => ?_)
  ·
   refine rN Qb Yn [6] [] (pc 1 (cb h1 (Z2 v)) (pt 5 h2 (pc 12 (Tx s_ name) p0))) ?_
   exact ⟨rfl, Qd (by rw [h1, h2]; first | done | kernel_rfl)⟩
  ·
   refine rN Qb Yn [6] [] (pc 1 (cb h1 (Z2 v)) (pf 5 h2 p0)) ?_
   exact ⟨rfl, Qd (by rw [h1, h2]; first | done | kernel_rfl)⟩
 ·
  refine rN Qb Yn [6] [] (pc 1 (cb h1 (Z2 v)) p0) ?_
  exact ⟨rfl, Qd (by rw [h1]; first | done | kernel_rfl)⟩
 refine Qf ?_
 exact pb [] (show Jt s_ name v = ((Jc v) && ((v.1 != (0 : Int)) && (v.1 == (Cj s_ name)))) from rfl)
def Wj (s_ : (List Zq)) (k0 : Nat) (a0 : Zq) (_ : Unit) : Rd (Bool) (Unit) (Unit) := (bif ((!(Xr a0.1)) || ((!(Q6 a0.2 1 2)) || (decide (((k0 : Nat) : Int) > (0 : Int)) && (!(Op.bytesLess ((nth s_ (Int.toNat (((k0 : Nat) : Int) - 1))).1).toList a0.1.toList))))) then (.ret false) else (.next ()))
def U1 (_ : Nat) (_ : Unit) : Unit := ()
def Jh (s_ : (List Zq)) : Bool := (Out.on (Xm (Wj s_) U1 s_ 0 ()) (fun _ => decide ((s_.length : Int) ≤ (5 : Int))))
theorem K0 (s_ : (List Zq)) : ACalls Tryz.prog 93 [.h s_] (.b (Jh s_)) := by
 refine en Qb Tryz.func93 fun w0 F0 hG => ?_
 refine sn Qb [0, 2] [] (p0) ?_
 refine Qe ?_
 refine tn Qb [0, 2, 3] [] (p0) ?_
 refine mz [(2, .b false), (3, .i 0)] [] [] [] ?_
 refine wT 0 0 .sh s_ (fun hw1 hl2 => ?_)
 refine Mq (Wj s_) U1 s_ () (fun k0 _ => [(3, .i ((k0 : Nat) : Int))]) [3] (fun _ => []) [3] (Qd (by kernel_rfl)) (fun k0 s0 hk0 hI0 => ?_) (fun k0 s0 hk0 hI0 => ?_) (fun y0 hD0 => ?_)
 ·
  obtain ⟨a0, hx0⟩ := Xk (l := s_) (i := k0) hk0
  refine Qe ?_
  refine sn Qb [0, 2, 3, 7] [] (pl 2 s_ (pe 3 (Qs (decide_eq_true (p := ((k0 : Nat) : Int) < (s_.length : Int)) (by omega))) p0)) ?_
  refine ckT ?_
  refine Qj ?_
  refine Qe ?_
  refine Qt ?_
  refine Qe ?_
  refine mz [(7, .b true)] [] [] [] ?_
  refine jn [(43, .b ((!(Xr a0.1)) || ((!(Q6 a0.2 1 2)) || (decide (((k0 : Nat) : Int) > (0 : Int)) && (!(Op.bytesLess ((nth s_ (Int.toNat (((k0 : Nat) : Int) - 1))).1).toList a0.1.toList))))))] [7] [] [] (!(Xr a0.1)) (fun h3 => ?_) (fun h3 => ?_) ?_
  ·
   have h3n : (Xr a0.1) = false := Wz h3
   refine rN Qb Yn [0, 2, 3, 43] [] (pn 2 hx0 (pc 5 (cb h3n (X1 a0.1)) (pe 6 (show .b (!false) = .b true from rfl) p0))) ?_
   exact ⟨rfl, Qd (by rw [h3]; first | done | kernel_rfl)⟩
  ·
   have h3n : (Xr a0.1) = true := Je h3
   refine Xb (!(Q6 a0.2 1 2)) (fun h4 => ?_) (fun h4 => ?_)
   ·
    have h4n : (Q6 a0.2 1 2) = false := Wz h4
    refine rN Qb Yn [0, 2, 3, 43] [] (pn 2 hx0 (pc 5 (cb h3n (X1 a0.1)) (pe 6 (show .b (!true) = .b false from rfl) (pn 10 hx0 (pc 13 (cb h4n (Zb a0.2 1 2)) (pe 14 (show .b (!false) = .b true from rfl) p0)))))) ?_
    exact ⟨rfl, Qd (by rw [h3, h4]; first | done | kernel_rfl)⟩
   ·
    have h4n : (Q6 a0.2 1 2) = true := Je h4
    have h4nw := D1.1 h4n
    refine Xb (decide (((k0 : Nat) : Int) > (0 : Int))) (fun h5 => ?_) (fun h5 => ?_)
    ·
     have h5d := of_decide_eq_true h5
     have hx6 := ng s_ (Int.toNat (((k0 : Nat) : Int) - 1))
     refine rN Qb Yn [0, 2, 3, 43] [] (pn 2 hx0 (pc 5 (cb h3n (X1 a0.1)) (pe 6 (show .b (!true) = .b false from rfl) (pn 10 hx0 (pc 13 (cb h4n (Zb a0.2 1 2)) (pe 14 (show .b (!true) = .b false from rfl) (pt 18 h5 (pe 22 (Jb (IntWalk.i64_in (((k0 : Nat) : Int) - 1) (by omega))) (pg 23 (((k0 : Nat) : Int) - 1) hx6 (pn 28 hx0 p0)))))))))) ?_
     exact ⟨rfl, Qd (by rw [h3, h4, h5]; first | done | kernel_rfl)⟩
    ·
     refine rN Qb Yn [0, 2, 3, 43] [] (pn 2 hx0 (pc 5 (cb h3n (X1 a0.1)) (pe 6 (show .b (!true) = .b false from rfl) (pn 10 hx0 (pc 13 (cb h4n (Zb a0.2 1 2)) (pe 14 (show .b (!true) = .b false from rfl) (pf 18 h5 p0))))))) ?_
     exact ⟨rfl, Qd (by rw [h3, h4, h5]; first | done | kernel_rfl)⟩
  refine ck ((!(Xr a0.1)) || ((!(Q6 a0.2 1 2)) || (decide (((k0 : Nat) : Int) > (0 : Int)) && (!(Op.bytesLess ((nth s_ (Int.toNat (((k0 : Nat) : Int) - 1))).1).toList a0.1.toList))))) (fun h7 => ?_) (fun h7 => ?_)
  ·
   refine sn Qb [0, 2, 3] [] (p0) ?_
   refine Qf ?_
   have hr8 : (Xm (Wj s_) U1 s_ 0 ()) = .ret false := Z1 hx0 (Q8 h7 (rfl)) hI0
   exact pb [] (Gu hr8)
  ·
   have h7r : (((!(Q6 a0.2 1 2)) || (decide (((k0 : Nat) : Int) > (0 : Int)) && (!(Op.bytesLess ((nth s_ (Int.toNat (((k0 : Nat) : Int) - 1))).1).toList a0.1.toList))))) = false := I0 h7
   have h7rl : ((!(Q6 a0.2 1 2))) = false := Pq h7r
   have h7rln : (Q6 a0.2 1 2) = true := Je h7rl
   have h7rlnw := D1.1 h7rln
   refine Qj ?_
   refine rn Qb [0, 2, 3] [] (pe 1 (Jb (Qv k0 (by omega))) p0) ?_
   exact Exists.intro _ (And.intro (Qd (by kernel_rfl)) (Qz hx0 (Qn h7 (rfl)) hI0))
 ·
  refine Qe ?_
  refine sn Qb [0, 2, 3, 7] [] (pl 2 s_ (pe 3 (Qs (decide_eq_false (p := ((k0 : Nat) : Int) < (s_.length : Int)) (by omega))) p0)) ?_
  refine ckF ?_
  refine Q3 ?_
  exact Exists.intro _ (And.intro (Qd (by kernel_rfl)) (Xl hk0 (rfl) hI0))
 ·
  refine sn Qb [2] [] (pl 1 s_ p0) ?_
  refine Qf ?_
  exact pb [] (Wf hD0 (rfl))
def Zc (s_ : (List Zq)) (f : X4) (k0 : Nat) (a0 : Bf) (_ : Unit) : Rd (Bool) (Unit) (Unit) := (bif ((!(Jt s_ a0.1 a0.2)) || (decide (((k0 : Nat) : Int) > (0 : Int)) && (!(Op.bytesLess ((nth f.2.2.2.2 (Int.toNat (((k0 : Nat) : Int) - 1))).1).toList a0.1.toList)))) then (.ret false) else (.next ()))
def Jy (_ : Nat) (_ : Unit) : Unit := ()
def Xt (s_ : (List Zq)) (f : X4) : Bool := (Out.on (Xm (Zc s_ f) Jy f.2.2.2.2 0 ()) (fun _ => ((Jh s_) && ((Q6 f.1 1 60) && ((Q6 f.2.1 0 2) && (Q6 f.2.2.2.1 0 60))))))
theorem U4 (s_ : (List Zq)) (f : X4) : ACalls Tryz.prog 92 [.h s_, .a [.i f.1, .i f.2.1, .b f.2.2.1, .i f.2.2.2.1, .h f.2.2.2.2]] (.b (Xt s_ f)) := by
 refine en Qb Tryz.func92 fun w0 F0 hG => ?_
 refine sn Qb [0, 3, 4] [3] (p0) ?_
 refine Qe ?_
 refine tn Qb [0, 3, 4, 5] [3] (p0) ?_
 refine mz [(3, .p 3 0), (4, .b false), (5, .i 0)] [1] [(3, [.i f.1, .i f.2.1, .b f.2.2.1, .i f.2.2.2.1, .h f.2.2.2.2])] [] ?_
 refine wB 3 4 .sh f.2.2.2.2 (fun hw1 hl2 => ?_)
 refine Mq (Zc s_ f) Jy f.2.2.2.2 () (fun k0 _ => [(5, .i ((k0 : Nat) : Int))]) [5] (fun _ => []) [5] (Qd (by kernel_rfl)) (fun k0 s0 hk0 hI0 => ?_) (fun k0 s0 hk0 hI0 => ?_) (fun y0 hD0 => ?_)
 ·
  obtain ⟨a0, hx0⟩ := Xk (l := f.2.2.2.2) (i := k0) hk0
  refine Qe ?_
  refine sn Qb [0, 3, 4, 5, 10] [3] (pl 3 f.2.2.2.2 (pe 4 (Qs (decide_eq_true (p := ((k0 : Nat) : Int) < (f.2.2.2.2.length : Int)) (by omega))) p0)) ?_
  refine ckT ?_
  refine Qj ?_
  refine Qe ?_
  refine Qt ?_
  refine Qe ?_
  refine mz [(10, .b true)] [] [] [] ?_
  refine jn [(47, .b ((!(Jt s_ a0.1 a0.2)) || (decide (((k0 : Nat) : Int) > (0 : Int)) && (!(Op.bytesLess ((nth f.2.2.2.2 (Int.toNat (((k0 : Nat) : Int) - 1))).1).toList a0.1.toList)))))] [10] [] [] (!(Jt s_ a0.1 a0.2)) (fun h3 => ?_) (fun h3 => ?_) ?_
  ·
   have h3n : (Jt s_ a0.1 a0.2) = false := Wz h3
   refine rN Qb Yn [0, 3, 4, 5, 47] [3] (pn 4 hx0 (pn 10 hx0 (pc 13 (cb h3n (Bk s_ a0.1 a0.2)) (pe 14 (show .b (!false) = .b true from rfl) p0)))) ?_
   exact ⟨rfl, Qd (by rw [h3]; first | done | kernel_rfl)⟩
  ·
   have h3n : (Jt s_ a0.1 a0.2) = true := Je h3
   refine Xb (decide (((k0 : Nat) : Int) > (0 : Int))) (fun h4 => ?_) (fun h4 => ?_)
   ·
    have h4d := of_decide_eq_true h4
    have hx5 := ng f.2.2.2.2 (Int.toNat (((k0 : Nat) : Int) - 1))
    refine rN Qb Yn [0, 3, 4, 5, 47] [3] (pn 4 hx0 (pn 10 hx0 (pc 13 (cb h3n (Bk s_ a0.1 a0.2)) (pe 14 (show .b (!true) = .b false from rfl) (pt 17 h4 (pe 22 (Jb (IntWalk.i64_in (((k0 : Nat) : Int) - 1) (by omega))) (pg 23 (((k0 : Nat) : Int) - 1) hx5 (pn 29 hx0 p0)))))))) ?_
    exact ⟨rfl, Qd (by rw [h3, h4]; first | done | kernel_rfl)⟩
   ·
    refine rN Qb Yn [0, 3, 4, 5, 47] [3] (pn 4 hx0 (pn 10 hx0 (pc 13 (cb h3n (Bk s_ a0.1 a0.2)) (pe 14 (show .b (!true) = .b false from rfl) (pf 17 h4 p0))))) ?_
    exact ⟨rfl, Qd (by rw [h3, h4]; first | done | kernel_rfl)⟩
  refine ck ((!(Jt s_ a0.1 a0.2)) || (decide (((k0 : Nat) : Int) > (0 : Int)) && (!(Op.bytesLess ((nth f.2.2.2.2 (Int.toNat (((k0 : Nat) : Int) - 1))).1).toList a0.1.toList)))) (fun h6 => ?_) (fun h6 => ?_)
  ·
   refine su Qb [] [47] [] [] (p0) ?_
   refine Qf ?_
   have hr7 : (Xm (Zc s_ f) Jy f.2.2.2.2 0 ()) = .ret false := Z1 hx0 (Q8 h6 (rfl)) hI0
   exact pb [] (Gu hr7)
  ·
   refine Qj ?_
   refine rn Qb [0, 3, 4, 5] [3] (pe 1 (Jb (Qv k0 (by omega))) p0) ?_
   exact Exists.intro _ (And.intro (Qd (by kernel_rfl)) (Qz hx0 (Qn h6 (rfl)) hI0))
 ·
  refine Qe ?_
  refine sn Qb [0, 3, 4, 5, 10] [3] (pl 3 f.2.2.2.2 (pe 4 (Qs (decide_eq_false (p := ((k0 : Nat) : Int) < (f.2.2.2.2.length : Int)) (by omega))) p0)) ?_
  refine ckF ?_
  refine Q3 ?_
  exact Exists.intro _ (And.intro (Qd (by kernel_rfl)) (Xl hk0 (rfl) hI0))
 ·
  refine Qe ?_
  refine jn [(4, .b ((Jh s_) && ((Q6 f.1 1 60) && ((Q6 f.2.1 0 2) && (Q6 f.2.2.2.1 0 60)))))] [0, 3, 4] [] [3] (Jh s_) (fun h8 => ?_) (fun h8 => ?_) ?_
  ·
   refine Xb (Q6 f.1 1 60) (fun h9 => ?_) (fun h9 => ?_)
   ·
    have h9w := D1.1 h9
    refine Xb (Q6 f.2.1 0 2) (fun h10 => ?_) (fun h10 => ?_)
    ·
     have h10w := D1.1 h10
     refine rn Qb [4] [] (pc 1 (cb h8 (K0 s_)) (pc 5 (cb h9 (Zb f.1 1 60)) (pc 10 (cb h10 (Zb f.2.1 0 2)) (pc 15 (Zb f.2.2.2.1 0 60) p0)))) ?_
     exact ⟨rfl, Qd (by rw [h8, h9, h10]; first | done | kernel_rfl)⟩
    ·
     refine rn Qb [4] [] (pc 1 (cb h8 (K0 s_)) (pc 5 (cb h9 (Zb f.1 1 60)) (pc 10 (cb h10 (Zb f.2.1 0 2)) p0))) ?_
     exact ⟨rfl, Qd (by rw [h8, h9, h10]; first | done | kernel_rfl)⟩
   ·
    refine rn Qb [4] [] (pc 1 (cb h8 (K0 s_)) (pc 5 (cb h9 (Zb f.1 1 60)) p0)) ?_
    exact ⟨rfl, Qd (by rw [h8, h9]; first | done | kernel_rfl)⟩
  ·
   refine rn Qb [4] [] (pc 1 (cb h8 (K0 s_)) p0) ?_
   exact ⟨rfl, Qd (by rw [h8]; first | done | kernel_rfl)⟩
  refine Qf ?_
  exact pb [] (Wf hD0 (rfl))
def Zl (s_ : Q5) (k0 : Nat) (a0 : X4) (_ : Unit) : Rd (Bool) (Unit) (Unit) := (bif ((!(Xt s_.1 a0)) || (decide (a0.1 ≥ s_.2.2) || (decide (((k0 : Nat) : Int) > (0 : Int)) && decide ((nth s_.2.1 (Int.toNat (((k0 : Nat) : Int) - 1))).1 ≥ a0.1)))) then (.ret false) else (.next ()))
def Vm (_ : Nat) (_ : Unit) : Unit := ()
def Xh (s_ : Q5) : Bool := (Out.on (Xm (Zl s_) Vm s_.2.1 0 ()) (fun _ => ((Jh s_.1) && (decide ((s_.2.1.length : Int) ≤ (12 : Int)) && (Q6 s_.2.2 1 61)))))
theorem K9 (s_ : Q5) : ACalls Tryz.prog 70 [.a [.h s_.1, .h s_.2.1, .i s_.2.2]] (.b (Xh s_)) := by
 refine en Qb Tryz.func70 fun w0 F0 hG => ?_
 refine sn Qb [1, 2] [1] (p0) ?_
 refine Qe ?_
 refine tn Qb [1, 2, 3] [1] (p0) ?_
 refine mz [(1, .p 1 0), (2, .b false), (3, .i 0)] [0] [(1, [.h s_.1, .h s_.2.1, .i s_.2.2])] [] ?_
 refine wB 1 1 .sh s_.2.1 (fun hw1 hl2 => ?_)
 refine Mq (Zl s_) Vm s_.2.1 () (fun k0 _ => [(3, .i ((k0 : Nat) : Int))]) [3] (fun _ => []) [3] (Qd (by kernel_rfl)) (fun k0 s0 hk0 hI0 => ?_) (fun k0 s0 hk0 hI0 => ?_) (fun y0 hD0 => ?_)
 ·
  obtain ⟨a0, hx0⟩ := Xk (l := s_.2.1) (i := k0) hk0
  refine Qe ?_
  refine sn Qb [1, 2, 3, 8] [1] (pl 3 s_.2.1 (pe 4 (Qs (decide_eq_true (p := ((k0 : Nat) : Int) < (s_.2.1.length : Int)) (by omega))) p0)) ?_
  refine ckT ?_
  refine Qj ?_
  refine Qe ?_
  refine Qt ?_
  refine Qe ?_
  refine mz [(8, .b true)] [] [] [] ?_
  refine jn [(50, .b ((!(Xt s_.1 a0)) || (decide (a0.1 ≥ s_.2.2) || (decide (((k0 : Nat) : Int) > (0 : Int)) && decide ((nth s_.2.1 (Int.toNat (((k0 : Nat) : Int) - 1))).1 ≥ a0.1)))))] [8] [] [] (!(Xt s_.1 a0)) (fun h3 => ?_) (fun h3 => ?_) ?_
  ·
   have h3n : (Xt s_.1 a0) = false := Wz h3
   refine rN Qb Yn [1, 2, 3, 50] [1] (pn 5 hx0 (pc 7 (cb h3n (U4 s_.1 a0)) (pe 8 (show .b (!false) = .b true from rfl) p0))) ?_
   exact ⟨rfl, Qd (by rw [h3]; first | done | kernel_rfl)⟩
  ·
   have h3n : (Xt s_.1 a0) = true := Je h3
   refine Xb (decide (a0.1 ≥ s_.2.2)) (fun h4 => ?_) (fun h4 => ?_)
   ·
    refine rN Qb Yn [1, 2, 3, 50] [1] (pn 5 hx0 (pc 7 (cb h3n (U4 s_.1 a0)) (pe 8 (show .b (!true) = .b false from rfl) (pn 13 hx0 (pt 18 h4 p0))))) ?_
    exact ⟨rfl, Qd (by rw [h3, h4]; first | done | kernel_rfl)⟩
   ·
    have h4d := of_decide_eq_false h4
    refine Xb (decide (((k0 : Nat) : Int) > (0 : Int))) (fun h5 => ?_) (fun h5 => ?_)
    ·
     have h5d := of_decide_eq_true h5
     have hx6 := ng s_.2.1 (Int.toNat (((k0 : Nat) : Int) - 1))
     refine rN Qb Yn [1, 2, 3, 50] [1] (pn 5 hx0 (pc 7 (cb h3n (U4 s_.1 a0)) (pe 8 (show .b (!true) = .b false from rfl) (pn 13 hx0 (pf 18 h4 (pt 22 h5 (pe 27 (Jb (IntWalk.i64_in (((k0 : Nat) : Int) - 1) (by omega))) (pg 28 (((k0 : Nat) : Int) - 1) hx6 (pn 34 hx0 p0))))))))) ?_
     exact ⟨rfl, Qd (by rw [h3, h4, h5]; first | done | kernel_rfl)⟩
    ·
     refine rN Qb Yn [1, 2, 3, 50] [1] (pn 5 hx0 (pc 7 (cb h3n (U4 s_.1 a0)) (pe 8 (show .b (!true) = .b false from rfl) (pn 13 hx0 (pf 18 h4 (pf 22 h5 p0)))))) ?_
     exact ⟨rfl, Qd (by rw [h3, h4, h5]; first | done | kernel_rfl)⟩
  refine ck ((!(Xt s_.1 a0)) || (decide (a0.1 ≥ s_.2.2) || (decide (((k0 : Nat) : Int) > (0 : Int)) && decide ((nth s_.2.1 (Int.toNat (((k0 : Nat) : Int) - 1))).1 ≥ a0.1)))) (fun h7 => ?_) (fun h7 => ?_)
  ·
   refine su Qb [] [50] [] [] (p0) ?_
   refine Qf ?_
   have hr8 : (Xm (Zl s_) Vm s_.2.1 0 ()) = .ret false := Z1 hx0 (Q8 h7 (rfl)) hI0
   exact pb [] (Gu hr8)
  ·
   have h7r : ((decide (a0.1 ≥ s_.2.2) || (decide (((k0 : Nat) : Int) > (0 : Int)) && decide ((nth s_.2.1 (Int.toNat (((k0 : Nat) : Int) - 1))).1 ≥ a0.1)))) = false := I0 h7
   have h7rl : (decide (a0.1 ≥ s_.2.2)) = false := Pq h7r
   have h7rld := of_decide_eq_false h7rl
   refine Qj ?_
   refine rn Qb [1, 2, 3] [1] (pe 1 (Jb (Qv k0 (by omega))) p0) ?_
   exact Exists.intro _ (And.intro (Qd (by kernel_rfl)) (Qz hx0 (Qn h7 (rfl)) hI0))
 ·
  refine Qe ?_
  refine sn Qb [1, 2, 3, 8] [1] (pl 3 s_.2.1 (pe 4 (Qs (decide_eq_false (p := ((k0 : Nat) : Int) < (s_.2.1.length : Int)) (by omega))) p0)) ?_
  refine ckF ?_
  refine Q3 ?_
  exact Exists.intro _ (And.intro (Qd (by kernel_rfl)) (Xl hk0 (rfl) hI0))
 ·
  refine Qe ?_
  refine jn [(2, .b ((Jh s_.1) && (decide ((s_.2.1.length : Int) ≤ (12 : Int)) && (Q6 s_.2.2 1 61))))] [1, 2] [] [1] (Jh s_.1) (fun h9 => ?_) (fun h9 => ?_) ?_
  ·
   refine Xb (decide ((s_.2.1.length : Int) ≤ (12 : Int))) (fun h10 => ?_) (fun h10 => ?_)
   ·
    refine rn Qb [2] [] (pc 2 (cb h9 (K0 s_.1)) (pl 6 s_.2.1 (pt 7 h10 (pc 12 (Zb s_.2.2 1 61) p0)))) ?_
    exact ⟨rfl, Qd (by rw [h9, h10]; first | done | kernel_rfl)⟩
   ·
    refine rn Qb [2] [] (pc 2 (cb h9 (K0 s_.1)) (pl 6 s_.2.1 (pf 7 h10 p0))) ?_
    exact ⟨rfl, Qd (by rw [h9, h10]; first | done | kernel_rfl)⟩
  ·
   refine rn Qb [2] [] (pc 2 (cb h9 (K0 s_.1)) p0) ?_
   exact ⟨rfl, Qd (by rw [h9]; first | done | kernel_rfl)⟩
  refine Qf ?_
  exact pb [] (Wf hD0 (rfl))
end Go.Proofs.YtockoklfegpgeaaGreat
namespace Go.Proofs.YtockoklfegpgeaaGreat
open Go.RowKit
theorem SZ (s : List Zq) (n : ByteArray) : Cj s n = Ch s n := rfl
theorem QU (s : List Zq) (n : ByteArray) (v : Wg) : Jt s n v = Jg s n v := by
  unfold Jt Jg
  rw [GR, SZ]
theorem WG (s : List Zq) : Jh s = Kg s := by
  unfold Jh Kg
  rw [Ia (f := Wj s) (g := Wi s) (e := U1) (e' := U0) (fun k a u => by
    unfold Wj Wi
    rw [BP]
    have h : (!(Q6 a.2 1 2)) = ((a.2 != 1) && (a.2 != 2)) := by
      unfold Q6
      rw [Bool.eq_iff_iff]; simp; omega
    rw [h]
    generalize (!(Op.bytesLess ((nth s (Int.toNat (((k : Nat) : Int) - 1))).1).toList a.1.toList)) = x
    cases Xr a.1 <;> cases (a.2 != (1 : Int)) <;> cases (a.2 != (2 : Int)) <;> cases decide (((k : Nat) : Int) > (0 : Int)) <;> cases x <;> rfl) (fun _ _ => rfl)]
theorem TA (s : List Zq) (f : X4) : Xt s f = Jr s f := by
  unfold Xt Jr
  rw [Ia (f := Zc s f) (g := Kk s f) (e := Jy) (e' := V2) (fun k a u => by
    unfold Zc Kk
    rw [QU]
    generalize (!(Op.bytesLess ((nth f.2.2.2.2 (Int.toNat (((k : Nat) : Int) - 1))).1).toList a.1.toList)) = x
    cases Jg s a.1 a.2 <;> cases decide (((k : Nat) : Int) > (0 : Int)) <;> cases x <;> rfl) (fun _ _ => rfl), WG]
  congr 1
  funext y
  unfold Zz
  simp only [← On]
  cases Kg s <;> cases Yx f.1 1 60 <;> cases Yx f.2.1 0 2 <;> cases Yx f.2.2.2.1 0 60 <;> rfl
theorem JF (s : Q5) : Xh s = Xq s := by
  unfold Xh Xq
  rw [Ia (f := Zl s) (g := Y8 s) (e := Vm) (e' := J6) (fun k a u => by
    unfold Zl Y8
    rw [TA]) (fun _ _ => rfl), WG]
  rfl
open GoE (enc wide)
def F7 (name : ByteArray) (_ : Nat) (a0 : Bf) (_ : Unit) : Rd (Wg) (Unit) (Unit) := (bif (a0.1.toList == name.toList) then (.ret a0.2) else (.next ()))
def F8 (_ : Nat) (_ : Unit) : Unit := ()
def Ji (f : X4) (name : ByteArray) : Wg := (Out.on (Xm (F7 name) F8 f.2.2.2.2 0 ()) (fun _ => (0, 0, ⟨#[]⟩)))
theorem Ii (f : X4) (name : ByteArray) : ACalls Tryz.prog 189 [.a [.i f.1, .i f.2.1, .b f.2.2.1, .i f.2.2.2.1, .h f.2.2.2.2], .s name] (.a [.i ((Ji f name).1), .i ((Ji f name).2.1), .s ((Ji f name).2.2)]) := by
 refine en Qb Tryz.func189 fun w0 F0 hG => ?_
 refine sn Qb [1, 2, 4] [2, 4] (p0) ?_
 refine Qe ?_
 refine tn Qb [1, 4, 8, 9, 10] [4] (pl 2 f.2.2.2.2 p0) ?_
 refine mz [(4, .p 4 0), (8, .h f.2.2.2.2), (9, .i (f.2.2.2.2.length : Int)), (10, .i 0)] [0] [(4, [.i 0, .i 0, .s ⟨#[]⟩])] [] ?_
 refine wT 8 0 .sh f.2.2.2.2 (fun hw1 hl2 => ?_)
 refine Mq (F7 name) F8 f.2.2.2.2 () (fun k0 _ => [(10, .i ((k0 : Nat) : Int))]) [10] (fun _ => []) [1, 8, 9, 10] (Qd (by kernel_rfl)) (fun k0 s0 hk0 hI0 => ?_) (fun k0 s0 hk0 hI0 => ?_) (fun y0 hD0 => ?_)
 ·
  obtain ⟨a0, hx0⟩ := Xk (l := f.2.2.2.2) (i := k0) hk0
  refine su Qb [(11, .b true)] [] [] [] (pe 0 (Qs (decide_eq_true (p := ((k0 : Nat) : Int) < (f.2.2.2.2.length : Int)) (by omega))) p0) ?_
  refine Qe ?_
  refine ckT ?_
  refine Qj ?_
  refine Qe ?_
  refine Qt ?_
  refine sn Qb [1, 4, 6, 8, 9, 10] [4, 6] (pn 0 hx0 p0) ?_
  refine tn Qb [1, 4, 6, 8, 9, 10, 17] [4, 6] (p0) ?_
  refine ck (a0.1.toList == name.toList) (fun h3 => ?_) (fun h3 => ?_)
  ·
   refine tu Qb [] [11] [(4, [.i a0.2.1, .i a0.2.2.1, .s a0.2.2.2])] [4] (p0) ?_
   refine Qf ?_
   have hr4 : (Xm (F7 name) F8 f.2.2.2.2 0 ()) = .ret a0.2 := Z1 hx0 (Q8 h3 (rfl)) hI0
   exact pz [] (show Ji f name = _ from Gu hr4) (fun z => .a [.i z.1, .i z.2.1, .s z.2.2])
  ·
   refine Qj ?_
   refine qu Qb [(10, .i ((k0 + 1 : Nat) : Int))] [10, 11] [] [] (pe 0 (Jb (Qv k0 (by omega))) p0) ?_
   exact Exists.intro _ (And.intro (Qd (by kernel_rfl)) (Qz hx0 (Qn h3 (rfl)) hI0))
 ·
  refine sn Qb [1, 4, 8, 9, 10, 11] [4] (pe 0 (Qs (decide_eq_false (p := ((k0 : Nat) : Int) < (f.2.2.2.2.length : Int)) (by omega))) p0) ?_
  refine Qe ?_
  refine ckF ?_
  refine Q3 ?_
  exact Exists.intro _ (And.intro (Qd (by kernel_rfl)) (Xl hk0 (rfl) hI0))
 ·
  refine sn Qb [4] [4] (p0) ?_
  refine Qf ?_
  exact pz [] (show Ji f name = _ from Wf hD0 (rfl)) (fun z => .a [.i z.1, .i z.2.1, .s z.2.2])
def V7 (f : X4) (name : ByteArray) : Int × Bool := (bif ((Ji f name).1 != (1 : Int)) then (0, false) else ((Ji f name).2.1, true))
theorem JG (f : X4) (name : ByteArray) : ACalls Tryz.prog 190 [.a [.i f.1, .i f.2.1, .b f.2.2.1, .i f.2.2.2.1, .h f.2.2.2.2], .s name] (.tup [(false, [.i (((V7 f name)).1)]), (false, [.b (((V7 f name)).2)])]) := by
 refine en Qb Tryz.func190 fun w0 F0 hG => ?_
 refine sn Qb [1, 2, 4, 5] [2] (p0) ?_
 refine tn Qb [4, 5, 6] [6] (pc 2 (Ii f name) p0) ?_
 refine Qe ?_
 refine tu Qb [(4, .i 0), (5, .b false), (6, .p 6 0), (12, .b ((Ji f name).1 != (1 : Int)))] [0, 1] [(6, [.i ((Ji f name).1), .i ((Ji f name).2.1), .s ((Ji f name).2.2)])] [] (p0) ?_
 refine ck ((Ji f name).1 != (1 : Int)) (fun h1 => ?_) (fun h1 => ?_)
 ·
  refine su Qb [] [12] [] [] (p0) ?_
  refine Qf ?_
  exact pz [] (show V7 f name = _ from Q8 h1 (rfl)) (fun z => .tup [(false, [.i z.1]), (false, [.b z.2])])
 ·
  refine Qj ?_
  refine sn Qb [4, 5] [] (p0) ?_
  refine Qf ?_
  exact pz [] (show V7 f name = _ from Qn h1 (rfl)) (fun z => .tup [(false, [.i z.1]), (false, [.b z.2])])
def Ku (name : ByteArray) (_ : Nat) (a0 : Qw) (_ : Unit) : Rd ((List Int)) (Unit) (Unit) := (bif (a0.1.toList == name.toList) then (.ret a0.2) else (.next ()))
def V8 (_ : Nat) (_ : Unit) : Unit := ()
def Yi (r : (List Qw)) (name : ByteArray) : (List Int) := (Out.on (Xm (Ku name) V8 r 0 ()) (fun _ => []))
theorem Ck (r : (List Qw)) (name : ByteArray) : ACalls Tryz.prog 59 [.h r, .s name] (.o 0 (Yi r name)) := by
 refine en Qb Tryz.func59 fun w0 F0 hG => ?_
 refine sn Qb [0, 1, 4] [] (p0) ?_
 refine Qe ?_
 refine tn Qb [1, 4, 7, 8, 9] [] (pl 1 r p0) ?_
 refine mz [(4, .e 0), (7, .h r), (8, .i (r.length : Int)), (9, .i 0)] [0] [] [] ?_
 refine wT 7 0 .sh r (fun hw1 hl2 => ?_)
 refine Mq (Ku name) V8 r () (fun k0 _ => [(9, .i ((k0 : Nat) : Int))]) [9] (fun _ => []) [1, 7, 8, 9] (Qd (by kernel_rfl)) (fun k0 s0 hk0 hI0 => ?_) (fun k0 s0 hk0 hI0 => ?_) (fun y0 hD0 => ?_)
 ·
  obtain ⟨a0, hx0⟩ := Xk (l := r) (i := k0) hk0
  refine sn Qb [1, 4, 7, 8, 9, 10] [] (pe 0 (Qs (decide_eq_true (p := ((k0 : Nat) : Int) < (r.length : Int)) (by omega))) p0) ?_
  refine Qe ?_
  refine ckT ?_
  refine Qj ?_
  refine Qe ?_
  refine Qt ?_
  refine tn Qb [1, 4, 6, 7, 8, 9] [6] (pn 0 hx0 p0) ?_
  refine tu Qb [(6, .p 6 0), (16, .b (a0.1.toList == name.toList))] [] [(6, [.s a0.1, .h a0.2])] [] (p0) ?_
  refine ck (a0.1.toList == name.toList) (fun h3 => ?_) (fun h3 => ?_)
  ·
   refine sn Qb [1, 4, 7, 8, 9] [] (pc 2 (E4 a0.2) p0) ?_
   refine Qf ?_
   have hr4 : (Xm (Ku name) V8 r 0 ()) = .ret a0.2 := Z1 hx0 (Q8 h3 (rfl)) hI0
   exact po0 [] (Gu hr4)
  ·
   refine Qj ?_
   refine rn Qb [1, 4, 7, 8, 9] [] (pe 0 (Jb (Qv k0 (by omega))) p0) ?_
   exact Exists.intro _ (And.intro (Qd (by kernel_rfl)) (Qz hx0 (Qn h3 (rfl)) hI0))
 ·
  refine sn Qb [1, 4, 7, 8, 9, 10] [] (pe 0 (Qs (decide_eq_false (p := ((k0 : Nat) : Int) < (r.length : Int)) (by omega))) p0) ?_
  refine Qe ?_
  refine ckF ?_
  refine Q3 ?_
  exact Exists.intro _ (And.intro (Qd (by kernel_rfl)) (Xl hk0 (rfl) hI0))
 ·
  refine sn Qb [4] [] (p0) ?_
  refine opn [(false, 4, 0, true, 384000, 1)] ?_
  refine Qf ?_
  exact po0 [] (Wf hD0 (rfl))
def Jz (v : Int) (k0 : Nat) (a0 : Int) (_ : Unit) : Rd (Int) (Unit) (Unit) := (bif (v == a0) then (.ret ((k0 : Nat) : Int)) else (.next ()))
def V3 (_ : Nat) (_ : Unit) : Unit := ()
def H5 (s_ : (List Int)) (v : Int) : Int := (Out.on (Xm (Jz v) V3 s_ 0 ()) (fun _ => -1))
theorem Ra (s_ : (List Int)) (v : Int) : ACalls Tryz.prog 91 [.h s_, .i v] (.i (H5 s_ v)) := by
 refine en Qb Tryz.func91 fun w0 F0 hG => ?_
 refine sn Qb [0, 1, 4] [] (p0) ?_
 refine Qe ?_
 refine tn Qb [0, 1, 4, 7, 8] [] (pl 1 s_ p0) ?_
 refine mz [(4, .i 0), (7, .i (s_.length : Int)), (8, .i 0)] [] [] [] ?_
 refine wT 0 0 .sh s_ (fun hw1 hl2 => ?_)
 refine Mq (Jz v) V3 s_ () (fun k0 _ => [(8, .i ((k0 : Nat) : Int))]) [8] (fun _ => []) [0, 1, 7, 8] (Qd (by kernel_rfl)) (fun k0 s0 hk0 hI0 => ?_) (fun k0 s0 hk0 hI0 => ?_) (fun y0 hD0 => ?_)
 ·
  obtain ⟨a0, hx0⟩ := Xk (l := s_) (i := k0) hk0
  refine sn Qb [0, 1, 4, 7, 8, 9] [] (pe 0 (Qs (decide_eq_true (p := ((k0 : Nat) : Int) < (s_.length : Int)) (by omega))) p0) ?_
  refine Qe ?_
  refine ckT ?_
  refine Qj ?_
  refine Qe ?_
  refine Qt ?_
  refine tn Qb [0, 1, 4, 5, 7, 8] [] (p0) ?_
  refine tu Qb [(5, .i ((k0 : Nat) : Int)), (16, .b (v == a0))] [] [] [] (pn 3 hx0 p0) ?_
  refine ck (v == a0) (fun h3 => ?_) (fun h3 => ?_)
  ·
   refine sn Qb [0, 1, 4, 7, 8] [] (p0) ?_
   refine Qf ?_
   have hr4 : (Xm (Jz v) V3 s_ 0 ()) = .ret ((k0 : Nat) : Int) := Z1 hx0 (Q8 h3 (rfl)) hI0
   exact pi [] (Gu hr4)
  ·
   have h3d := Yb h3
   refine Qj ?_
   refine rn Qb [0, 1, 4, 7, 8] [] (pe 0 (Jb (Qv k0 (by omega))) p0) ?_
   exact Exists.intro _ (And.intro (Qd (by kernel_rfl)) (Qz hx0 (Qn h3 (rfl)) hI0))
 ·
  refine sn Qb [0, 1, 4, 7, 8, 9] [] (pe 0 (Qs (decide_eq_false (p := ((k0 : Nat) : Int) < (s_.length : Int)) (by omega))) p0) ?_
  refine Qe ?_
  refine ckF ?_
  refine Q3 ?_
  exact Exists.intro _ (And.intro (Qd (by kernel_rfl)) (Xl hk0 (rfl) hI0))
 ·
  refine sn Qb [4] [] (p0) ?_
  refine Qf ?_
  exact pi [] (Wf hD0 (rfl))
def J0 (s_ : (List Int)) (v : Int) : Bool := decide ((H5 s_ v) ≥ (0 : Int))
theorem El (s_ : (List Int)) (v : Int) : ACalls Tryz.prog 69 [.h s_, .i v] (.b (J0 s_ v)) := by
 refine en Qb Tryz.func69 fun w0 F0 hG => ?_
 refine sn Qb [0, 1, 4] [] (p0) ?_
 refine tn Qb [4] [] (pc 2 (Ra s_ v) p0) ?_
 refine Qf ?_
 exact pb [] (show J0 s_ v = decide ((H5 s_ v) ≥ (0 : Int)) from rfl)
def K5 (ids : (List Int)) (id : Int) : Bool := (J0 ids id)
theorem Iu (ids : (List Int)) (id : Int) : ACalls Tryz.prog 191 [.h ids, .i id] (.b (K5 ids id)) := by
 refine en Qb Tryz.func191 fun w0 F0 hG => ?_
 refine sn Qb [0, 1, 4] [] (p0) ?_
 refine tn Qb [4] [] (pc 2 (El ids id) p0) ?_
 refine Qf ?_
 exact pb [] (show K5 ids id = (J0 ids id) from rfl)
def Yl (n_ : Nat) (q : (List X9)) (at_ : Int) (f : X4) (r : (List Qw)) : Bool := match n_ with
 | 0 => default
 | n_ + 1 => (bif ((nth q (Int.toNat at_)).1 == (2 : Int)) then ((Ji f ((nth q (Int.toNat at_)).2.2.2.1)).1 != (0 : Int)) else (bif ((nth q (Int.toNat at_)).1 == (3 : Int)) then (((Ji f ((nth q (Int.toNat at_)).2.2.2.1)).1 == (nth q (Int.toNat at_)).2.2.2.2.1) && (((Ji f ((nth q (Int.toNat at_)).2.2.2.1)).2.1 == (nth q (Int.toNat at_)).2.2.2.2.2.1) && ((((Ji f ((nth q (Int.toNat at_)).2.2.2.1)).2.2).toList == ((nth q (Int.toNat at_)).2.2.2.2.2.2).toList) && true))) else (bif ((nth q (Int.toNat at_)).1 == (4 : Int)) then (((V7 f ((nth q (Int.toNat at_)).2.2.2.1))).2 && decide (((V7 f ((nth q (Int.toNat at_)).2.2.2.1))).1 < (nth q (Int.toNat at_)).2.2.2.2.2.1)) else (bif ((nth q (Int.toNat at_)).1 == (5 : Int)) then (!(Yl n_ q ((nth q (Int.toNat at_)).2.1) f r)) else (bif ((nth q (Int.toNat at_)).1 == (6 : Int)) then ((Yl n_ q ((nth q (Int.toNat at_)).2.1) f r) && (Yl n_ q ((nth q (Int.toNat at_)).2.2.1) f r)) else (bif ((nth q (Int.toNat at_)).1 == (7 : Int)) then ((Yl n_ q ((nth q (Int.toNat at_)).2.1) f r) || (Yl n_ q ((nth q (Int.toNat at_)).2.2.1) f r)) else (bif ((nth q (Int.toNat at_)).1 == (8 : Int)) then (K5 (Yi r ((nth q (Int.toNat at_)).2.2.2.1)) f.1) else (bif ((nth q (Int.toNat at_)).1 == (9 : Int)) then ((f.2.2.2.1 != (0 : Int)) && (K5 (Yi r ((nth q (Int.toNat at_)).2.2.2.1)) f.2.2.2.1)) else true))))))))
theorem Ty : ∀ (n_ : Nat) (q : (List X9)) (at_ : Int) (f : X4) (r : (List Qw)) (hv : Q1 q = true) (ha : 0 ≤ at_) (hb : at_ < (q.length : Int)) (hn : at_ < ((n_ : Nat) : Int)), ACalls Tryz.prog 178 [.h q, .i at_, .a [.i f.1, .i f.2.1, .b f.2.2.1, .i f.2.2.2.1, .h f.2.2.2.2], .h r] (.b (Yl n_ q at_ f r)) := by
 intro n_
 induction n_ with
 | zero => intro q at_ f r hv ha hb hn; exact (by omega : False).elim
 | succ n_ ih =>
  intro q at_ f r hv ha hb hn
  refine en Qb Tryz.func178 fun w0 F0 hG => ?_
  refine sn Qb [0, 1, 3, 6, 8] [6] (p0) ?_
  refine wT 0 0 .sh q (fun hw2 hl3 => ?_)
  have hx1 := ng q (Int.toNat at_)
  refine tn Qb [0, 3, 6, 8, 9] [6, 9] (pg 2 at_ hx1 p0) ?_
  refine Qe ?_
  refine tu Qb [(6, .p 6 0), (8, .b false), (9, .p 9 0), (17, .i ((nth q (Int.toNat at_)).1))] [1, 2] [(6, [.i f.1, .i f.2.1, .b f.2.2.1, .i f.2.2.2.1, .h f.2.2.2.2]), (9, [.i ((nth q (Int.toNat at_)).1), .i ((nth q (Int.toNat at_)).2.1), .i ((nth q (Int.toNat at_)).2.2.1), .s ((nth q (Int.toNat at_)).2.2.2.1), .i ((nth q (Int.toNat at_)).2.2.2.2.1), .i ((nth q (Int.toNat at_)).2.2.2.2.2.1), .s ((nth q (Int.toNat at_)).2.2.2.2.2.2)])] [] (p0) ?_
  refine Qt ?_
  refine sn Qb [0, 3, 6, 8, 9, 17, 18] [6, 9] (p0) ?_
  refine ck ((nth q (Int.toNat at_)).1 == (2 : Int)) (fun h4 => ?_) (fun h4 => ?_)
  ·
   refine tn Qb [8] [] (pc 3 (Ii f ((nth q (Int.toNat at_)).2.2.2.1)) p0) ?_
   refine Qf ?_
   exact pb [] (Q8 h4 (rfl))
  ·
   have h4d := Yb h4
   refine tn Qb [0, 3, 6, 8, 9, 17, 26] [6, 9] (p0) ?_
   refine ck ((nth q (Int.toNat at_)).1 == (3 : Int)) (fun h5 => ?_) (fun h5 => ?_)
   ·
    refine tU Qb Yn [(8, .b (((Ji f ((nth q (Int.toNat at_)).2.2.2.1)).1 == (nth q (Int.toNat at_)).2.2.2.2.1) && (((Ji f ((nth q (Int.toNat at_)).2.2.2.1)).2.1 == (nth q (Int.toNat at_)).2.2.2.2.2.1) && ((((Ji f ((nth q (Int.toNat at_)).2.2.2.1)).2.2).toList == ((nth q (Int.toNat at_)).2.2.2.2.2.2).toList) && true))))] [0, 3, 6, 8, 9, 17] [] [6, 9] (pc 3 (Ii f ((nth q (Int.toNat at_)).2.2.2.1)) p0) ?_
    refine Qf ?_
    exact pb [] (Qn h4 (Q8 h5 (rfl)))
   ·
    have h5d := Yb h5
    refine tu Qb [(35, .b ((nth q (Int.toNat at_)).1 == (4 : Int)))] [] [] [] (p0) ?_
    refine ck ((nth q (Int.toNat at_)).1 == (4 : Int)) (fun h6 => ?_) (fun h6 => ?_)
    ·
     refine sn Qb [8, 9, 10, 11] [9] (pc 3 (JG f ((nth q (Int.toNat at_)).2.2.2.1)) p0) ?_
     refine Qe ?_
     refine mz [(10, .i (((V7 f ((nth q (Int.toNat at_)).2.2.2.1))).1)), (11, .b (((V7 f ((nth q (Int.toNat at_)).2.2.2.1))).2))] [0, 3, 6, 17, 35] [] [6] ?_
     refine jn [(8, .b (((V7 f ((nth q (Int.toNat at_)).2.2.2.1))).2 && decide (((V7 f ((nth q (Int.toNat at_)).2.2.2.1))).1 < (nth q (Int.toNat at_)).2.2.2.2.2.1)))] [8, 9, 10, 11] [] [9] (((V7 f ((nth q (Int.toNat at_)).2.2.2.1))).2) (fun h7 => ?_) (fun h7 => ?_) ?_
     ·
      refine rn Qb [8] [] (pt 0 h7 p0) ?_
      exact ⟨rfl, Qd (by rw [h7]; first | done | kernel_rfl)⟩
     ·
      refine rn Qb [8] [] (pf 0 h7 p0) ?_
      exact ⟨rfl, Qd (by rw [h7]; first | done | kernel_rfl)⟩
     refine Qf ?_
     exact pb [] (Qn h4 (Qn h5 (Q8 h6 (rfl))))
    ·
     have h6d := Yb h6
     refine sn Qb [0, 3, 6, 8, 9, 17, 52] [6, 9] (p0) ?_
     refine ck ((nth q (Int.toNat at_)).1 == (5 : Int)) (fun h8 => ?_) (fun h8 => ?_)
     ·
      have h8d := eq_of_beq h8
      refine tn Qb [8] [] (pc 5 (ih q ((nth q (Int.toNat at_)).2.1) f r hv (by have hz := PH hv ha hb h8; omega) (by have hz := PH hv ha hb h8; omega) (by have hz := PH hv ha hb h8; omega)) p0) ?_
      refine Qf ?_
      exact pb [] (Qn h4 (Qn h5 (Qn h6 (Q8 h8 (rfl)))))
     ·
      have h8d := Yb h8
      refine tn Qb [0, 3, 6, 8, 9, 17, 61] [6, 9] (p0) ?_
      refine ck ((nth q (Int.toNat at_)).1 == (6 : Int)) (fun h9 => ?_) (fun h9 => ?_)
      ·
       have h9d := eq_of_beq h9
       refine Qe ?_
       refine mz [(61, .b ((nth q (Int.toNat at_)).1 == (6 : Int)))] [35] [] [] ?_
       refine jn [(8, .b ((Yl n_ q ((nth q (Int.toNat at_)).2.1) f r) && (Yl n_ q ((nth q (Int.toNat at_)).2.2.1) f r)))] [0, 3, 6, 8, 9, 17, 61] [] [6, 9] (Yl n_ q ((nth q (Int.toNat at_)).2.1) f r) (fun h10 => ?_) (fun h10 => ?_) ?_
       ·
        refine rn Qb [8] [] (pc 5 (cb h10 (ih q ((nth q (Int.toNat at_)).2.1) f r hv (by have hz := BQ hv ha hb h9; omega) (by have hz := BQ hv ha hb h9; omega) (by have hz := BQ hv ha hb h9; omega))) (pc 12 (ih q ((nth q (Int.toNat at_)).2.2.1) f r hv (by have hz := PI hv ha hb h9; omega) (by have hz := PI hv ha hb h9; omega) (by have hz := PI hv ha hb h9; omega)) p0)) ?_
        exact ⟨rfl, Qd (by rw [h10]; first | done | kernel_rfl)⟩
       ·
        refine rn Qb [8] [] (pc 5 (cb h10 (ih q ((nth q (Int.toNat at_)).2.1) f r hv (by have hz := BQ hv ha hb h9; omega) (by have hz := BQ hv ha hb h9; omega) (by have hz := BQ hv ha hb h9; omega))) p0) ?_
        exact ⟨rfl, Qd (by rw [h10]; first | done | kernel_rfl)⟩
       refine Qf ?_
       exact pb [] (Qn h4 (Qn h5 (Qn h6 (Qn h8 (Q8 h9 (rfl))))))
      ·
       have h9d := Yb h9
       refine tu Qb [(77, .b ((nth q (Int.toNat at_)).1 == (7 : Int)))] [35] [] [] (p0) ?_
       refine ck ((nth q (Int.toNat at_)).1 == (7 : Int)) (fun h11 => ?_) (fun h11 => ?_)
       ·
        have h11d := eq_of_beq h11
        refine Qe ?_
        refine jn [(8, .b ((Yl n_ q ((nth q (Int.toNat at_)).2.1) f r) || (Yl n_ q ((nth q (Int.toNat at_)).2.2.1) f r)))] [0, 3, 6, 8, 9, 17, 77] [] [6, 9] (Yl n_ q ((nth q (Int.toNat at_)).2.1) f r) (fun h12 => ?_) (fun h12 => ?_) ?_
        ·
         refine rn Qb [8] [] (pc 5 (cb h12 (ih q ((nth q (Int.toNat at_)).2.1) f r hv (by have hz := DX hv ha hb h11; omega) (by have hz := DX hv ha hb h11; omega) (by have hz := DX hv ha hb h11; omega))) p0) ?_
         exact ⟨rfl, Qd (by rw [h12]; first | done | kernel_rfl)⟩
        ·
         refine rn Qb [8] [] (pc 5 (cb h12 (ih q ((nth q (Int.toNat at_)).2.1) f r hv (by have hz := DX hv ha hb h11; omega) (by have hz := DX hv ha hb h11; omega) (by have hz := DX hv ha hb h11; omega))) (pc 12 (ih q ((nth q (Int.toNat at_)).2.2.1) f r hv (by have hz := SR hv ha hb h11; omega) (by have hz := SR hv ha hb h11; omega) (by have hz := SR hv ha hb h11; omega)) p0)) ?_
         exact ⟨rfl, Qd (by rw [h12]; first | done | kernel_rfl)⟩
        refine Qf ?_
        exact pb [] (Qn h4 (Qn h5 (Qn h6 (Qn h8 (Qn h9 (Q8 h11 (rfl)))))))
       ·
        refine sn Qb [3, 6, 8, 9, 17, 93] [6, 9] (p0) ?_
        refine ck ((nth q (Int.toNat at_)).1 == (8 : Int)) (fun h13 => ?_) (fun h13 => ?_)
        ·
         refine tN Qb Yn [8] [] (pc 3 (Ck r ((nth q (Int.toNat at_)).2.2.2.1)) (pc 6 (Iu (Yi r ((nth q (Int.toNat at_)).2.2.2.1)) f.1) p0)) ?_
         refine Qf ?_
         exact pb [] (Qn h4 (Qn h5 (Qn h6 (Qn h8 (Qn h9 (Qn h11 (Q8 h13 (rfl))))))))
        ·
         refine tn Qb [3, 6, 8, 9, 102] [6, 9] (p0) ?_
         refine ck ((nth q (Int.toNat at_)).1 == (9 : Int)) (fun h14 => ?_) (fun h14 => ?_)
         ·
          refine Qe ?_
          refine mz [(102, .b ((nth q (Int.toNat at_)).1 == (9 : Int)))] [0, 17, 77] [] [] ?_
          refine jn [(8, .b ((f.2.2.2.1 != (0 : Int)) && (K5 (Yi r ((nth q (Int.toNat at_)).2.2.2.1)) f.2.2.2.1)))] [3, 6, 8, 9, 102] [] [6, 9] (f.2.2.2.1 != (0 : Int)) (fun h15 => ?_) (fun h15 => ?_) ?_
          ·
           refine rN Qb Yn [8] [] (pt 2 h15 (pc 7 (Ck r ((nth q (Int.toNat at_)).2.2.2.1)) (pc 10 (Iu (Yi r ((nth q (Int.toNat at_)).2.2.2.1)) f.2.2.2.1) p0))) ?_
           exact ⟨rfl, Qd (by rw [h15]; first | done | kernel_rfl)⟩
          ·
           refine rN Qb Yn [8] [] (pf 2 h15 p0) ?_
           exact ⟨rfl, Qd (by rw [h15]; first | done | kernel_rfl)⟩
          refine Qf ?_
          exact pb [] (Qn h4 (Qn h5 (Qn h6 (Qn h8 (Qn h9 (Qn h11 (Qn h13 (Q8 h14 (rfl)))))))))
         ·
          refine Qj ?_
          refine tu Qb [(8, .b true)] [0, 3, 6, 8, 9, 17, 77] [] [6, 9] (p0) ?_
          refine Qf ?_
          exact pb [] (Qn h4 (Qn h5 (Qn h6 (Qn h8 (Qn h9 (Qn h11 (Qn h13 (Qn h14 (rfl)))))))))
def V9 (q : (List X9)) (f : X4) (r : (List Qw)) : Bool := ((Q1 q) && (Yl (List.length q) q ((q.length : Int) - 1) f r))
theorem JH (q : (List X9)) (f : X4) (r : (List Qw)) : ACalls Tryz.prog 168 [.h q, .a [.i f.1, .i f.2.1, .b f.2.2.1, .i f.2.2.2.1, .h f.2.2.2.2], .h r] (.b (V9 q f r)) := by
 refine en Qb Tryz.func168 fun w0 F0 hG => ?_
 refine sn Qb [0, 2, 4, 6] [4] (p0) ?_
 refine Qe ?_
 refine mz [(4, .p 4 0), (6, .b false)] [1] [(4, [.i f.1, .i f.2.1, .b f.2.2.1, .i f.2.2.2.1, .h f.2.2.2.2])] [] ?_
 refine jn [(6, .b ((Q1 q) && (Yl (List.length q) q ((q.length : Int) - 1) f r)))] [0, 2, 4, 6] [] [4] (Q1 q) (fun h1 => ?_) (fun h1 => ?_) ?_
 ·
  refine wT 0 0 .sh q (fun hw2 hl3 => ?_)
  refine rn Qb [6] [] (pc 1 (cb h1 (Ug q)) (pl 5 q (pe 6 (Jb (IntWalk.i64_in ((q.length : Int) - 1) (by omega))) (pc 9 (Ty (List.length q) q ((q.length : Int) - 1) f r h1 (by have := Tk h1; omega) (by omega) (by omega)) p0)))) ?_
  exact ⟨rfl, Qd (by rw [h1]; first | done | kernel_rfl)⟩
 ·
  refine rn Qb [6] [] (pc 1 (cb h1 (Ug q)) p0) ?_
  exact ⟨rfl, Qd (by rw [h1]; first | done | kernel_rfl)⟩
 refine Qf ?_
 exact pb [] (show V9 q f r = ((Q1 q) && (Yl (List.length q) q ((q.length : Int) - 1) f r)) from rfl)
def Ul (q : (List X9)) (r : (List Qw)) (_ : Nat) (a0 : X4) (s0 : (List Int)) : Rd ((List Int)) ((List Int)) ((List Int)) := (bif (V9 q a0 r) then (.next (s0 ++ [a0.1])) else (.next s0))
def Cl (_ : Nat) (s0 : (List Int)) : (List Int) := s0
def Yt (s_ : Q5) (q : (List X9)) (r : (List Qw)) : (List Int) := (Out.on (Xm (Ul q r) Cl s_.2.1 0 []) (fun y0 => y0))
theorem Rb (s_ : Q5) (q : (List X9)) (r : (List Qw)) : ACalls Tryz.prog 140 [.a [.h s_.1, .h s_.2.1, .i s_.2.2], .h q, .h r] (.o 0 (Yt s_ q r)) := by
 refine en Qb Tryz.func140 fun w0 F0 hG => ?_
 refine sn Qb [1, 2, 3, 6] [3] (p0) ?_
 refine tn Qb [1, 2, 3, 6, 7] [3] (p0) ?_
 refine Qe ?_
 refine tu Qb [(6, .e 0), (7, .one (.slc (.own true 640) 1 [])), (12, .h s_.2.1), (13, .i (s_.2.1.length : Int)), (14, .i 0)] [0] [] [] (pl 2 s_.2.1 p0) ?_
 refine wT 12 0 .sh s_.2.1 (fun hw1 hl2 => ?_)
 refine BM (Ul q r) Cl s_.2.1 [] (fun k0 s0 => [(7, .o 147203 s0), (14, .i ((k0 : Nat) : Int))]) [7, 14] (fun y0 => [(7, .o 147353 y0)]) [1, 2, 7, 12, 13, 14] (fun k0 s0 => List.length s0 ≤ k0) (Xy [(640, 147203)] (by kernel_rfl)) (by simp) (fun k0 s0 hk0 hI0 => ?_) (fun k0 s0 hk0 hI0 => ?_) (fun y0 hD0 => ?_)
 ·
  have hA0_0 := hI0.2
  obtain ⟨a0, hx0⟩ := Xk (l := s_.2.1) (i := k0) hk0
  refine su Qb [(15, .b true)] [] [] [] (pe 0 (Qs (decide_eq_true (p := ((k0 : Nat) : Int) < (s_.2.1.length : Int)) (by omega))) p0) ?_
  refine Qe ?_
  refine ckT ?_
  refine Qj ?_
  refine Qe ?_
  refine Qt ?_
  refine sn Qb [1, 2, 6, 7, 9, 12, 13, 14] [9] (pn 0 hx0 p0) ?_
  refine tn Qb [1, 2, 6, 7, 9, 12, 13, 14, 21] [9] (pc 3 (JH q a0 r) p0) ?_
  refine ck (V9 q a0 r) (fun h3 => ?_) (fun h3 => ?_)
  ·
   refine wT 7 0 (.own true 147203) s0 (fun hw4 hl5 => ?_)
   refine qu Qb [(7, .one (.slc (.own true 1664) 1 ((eL s0) ++ [[.i a0.1]])))] [7, 15] [] [] (pa s0 [a0.1] p0) ?_
   refine eqn [(7, .o 1664 (s0 ++ [a0.1]))] [7] [] [] (by rw [show ((eL s0) ++ [[.i a0.1]]) = (eL (s0 ++ [a0.1])) from Ky (rfl) (rfl)]; first | done | kernel_rfl) ?_
   refine rn Qb [1, 2, 6, 7, 12, 13, 14] [] (pe 0 (Jb (Qv k0 (by omega))) p0) ?_
   exact Exists.intro (s0 ++ [a0.1]) (And.intro (Xy [(1664, 147203)] (by kernel_rfl)) ⟨Qz hx0 (Q8 h3 (rfl)) hI0.1, by first | omega | (simp; omega) | simp⟩)
  ·
   refine Qj ?_
   refine qu Qb [(14, .i ((k0 + 1 : Nat) : Int))] [14, 15] [] [] (pe 0 (Jb (Qv k0 (by omega))) p0) ?_
   exact Exists.intro s0 (And.intro (Qd (by kernel_rfl)) ⟨Qz hx0 (Qn h3 (rfl)) hI0.1, by first | omega | (simp; omega) | simp⟩)
 ·
  have hA0_0 := hI0.2
  refine su Qb [(15, .b false)] [] [] [] (pe 0 (Qs (decide_eq_false (p := ((k0 : Nat) : Int) < (s_.2.1.length : Int)) (by omega))) p0) ?_
  refine Qe ?_
  refine ckF ?_
  refine Q3 ?_
  exact Exists.intro _ (And.intro (Xy [(147203, 147353)] (by kernel_rfl)) (Xl hk0 (rfl) hI0.1))
 ·
  refine sn Qb [6] [] (p0) ?_
  refine Qf ?_
  exact po0 [] (Wf hD0 (rfl))
def F9 (name : ByteArray) (_ : Nat) (a0 : Bf) (_ : Unit) : Rd (Wg) (Unit) (Unit) := (bif (a0.1.toList == name.toList) then (.ret a0.2) else (.next ()))
def Ga (_ : Nat) (_ : Unit) : Unit := ()
def Jn (f : X4) (name : ByteArray) : Wg := (Out.on (Xm (F9 name) Ga f.2.2.2.2 0 ()) (fun _ => (0, 0, ⟨#[]⟩)))
theorem JI (f : X4) (name : ByteArray) : ACalls Tryz.prog 179 [.a [.i f.1, .i f.2.1, .b f.2.2.1, .i f.2.2.2.1, .h f.2.2.2.2], .s name] (.a [.i ((Jn f name).1), .i ((Jn f name).2.1), .s ((Jn f name).2.2)]) := by
 refine en Qb Tryz.func179 fun w0 F0 hG => ?_
 refine sn Qb [1, 2, 4] [2, 4] (p0) ?_
 refine Qe ?_
 refine tn Qb [1, 2, 4, 5] [2, 4] (p0) ?_
 refine mz [(2, .p 2 0), (4, .p 4 0), (5, .i 0)] [0] [(2, [.i f.1, .i f.2.1, .b f.2.2.1, .i f.2.2.2.1, .h f.2.2.2.2]), (4, [.i 0, .i 0, .s ⟨#[]⟩])] [] ?_
 refine wB 2 4 .sh f.2.2.2.2 (fun hw1 hl2 => ?_)
 refine SL (F9 name) Ga f.2.2.2.2 () (fun k0 _ => [(5, .i ((k0 : Nat) : Int))]) [5] (fun _ _ => []) [] (fun _ => []) [1, 2, 5] (fun _ => []) [2] (Qd (by kernel_rfl)) (fun k0 s0 hk0 hI0 => ?_) (fun k0 s0 hk0 hI0 => ?_) (fun y0 hD0 => ?_)
 ·
  obtain ⟨a0, hx0⟩ := Xk (l := f.2.2.2.2) (i := k0) hk0
  refine Qe ?_
  refine sn Qb [1, 2, 4, 5, 10] [2, 4] (pl 3 f.2.2.2.2 (pe 4 (Qs (decide_eq_true (p := ((k0 : Nat) : Int) < (f.2.2.2.2.length : Int)) (by omega))) p0)) ?_
  refine ckT ?_
  refine Qj ?_
  refine Qe ?_
  refine Qt ?_
  refine tn Qb [1, 2, 4, 5, 20] [2, 4] (pn 3 hx0 p0) ?_
  refine ck (a0.1.toList == name.toList) (fun h3 => ?_) (fun h3 => ?_)
  ·
   refine tu Qb [] [] [(4, [.i a0.2.1, .i a0.2.2.1, .s a0.2.2.2])] [4] (pn 3 hx0 p0) ?_
   refine Qf ?_
   have hr4 : (Xm (F9 name) Ga f.2.2.2.2 0 ()) = .ret a0.2 := Z1 hx0 (Q8 h3 (rfl)) hI0
   exact pz [] (show Jn f name = _ from Gu hr4) (fun z => .a [.i z.1, .i z.2.1, .s z.2.2])
  ·
   refine Qj ?_
   refine qu Qb [(5, .i ((k0 + 1 : Nat) : Int))] [5] [] [] (pe 1 (Jb (Qv k0 (by omega))) p0) ?_
   exact Exists.intro _ (And.intro (Qd (by kernel_rfl)) (Qz hx0 (Qn h3 (rfl)) hI0))
 ·
  refine Qe ?_
  refine sn Qb [1, 2, 4, 5, 10] [2, 4] (pl 3 f.2.2.2.2 (pe 4 (Qs (decide_eq_false (p := ((k0 : Nat) : Int) < (f.2.2.2.2.length : Int)) (by omega))) p0)) ?_
  refine ckF ?_
  refine Q3 ?_
  exact Exists.intro _ (And.intro (Qd (by kernel_rfl)) (Xl hk0 (rfl) hI0))
 ·
  refine sn Qb [4] [4] (p0) ?_
  refine Qf ?_
  exact pz [] (show Jn f name = _ from Wf hD0 (rfl)) (fun z => .a [.i z.1, .i z.2.1, .s z.2.2])
def Ef (name : ByteArray) (_ : Nat) (a0 : Qw) (_ : Unit) : Rd ((List Int)) (Unit) (Unit) := (bif (a0.1.toList == name.toList) then (.ret a0.2) else (.next ()))
def Eg (_ : Nat) (_ : Unit) : Unit := ()
def Vu (a_ : (List Qw)) (name : ByteArray) : (List Int) := (Out.on (Xm (Ef name) Eg a_ 0 ()) (fun _ => []))
theorem Fh (a_ : (List Qw)) (name : ByteArray) : ACalls Tryz.prog 50 [.h a_, .s name] (.o 0 (Vu a_ name)) := by
 refine en Qb Tryz.func50 fun w0 F0 hG => ?_
 refine sn Qb [0, 1, 4] [] (p0) ?_
 refine Qe ?_
 refine tn Qb [0, 1, 4, 5] [] (p0) ?_
 refine mz [(4, .e 0), (5, .i 0)] [] [] [] ?_
 refine wT 0 0 .sh a_ (fun hw1 hl2 => ?_)
 refine Mq (Ef name) Eg a_ () (fun k0 _ => [(5, .i ((k0 : Nat) : Int))]) [5] (fun _ => []) [0, 1, 5] (Qd (by kernel_rfl)) (fun k0 s0 hk0 hI0 => ?_) (fun k0 s0 hk0 hI0 => ?_) (fun y0 hD0 => ?_)
 ·
  obtain ⟨a0, hx0⟩ := Xk (l := a_) (i := k0) hk0
  refine Qe ?_
  refine sn Qb [0, 1, 4, 5, 9] [] (pl 2 a_ (pe 3 (Qs (decide_eq_true (p := ((k0 : Nat) : Int) < (a_.length : Int)) (by omega))) p0)) ?_
  refine ckT ?_
  refine Qj ?_
  refine Qe ?_
  refine Qt ?_
  refine tn Qb [0, 1, 4, 5, 18] [] (pn 2 hx0 p0) ?_
  refine ck (a0.1.toList == name.toList) (fun h3 => ?_) (fun h3 => ?_)
  ·
   have hl4 : List.length a0.2 ≤ 1073741824 := Af (R8 (ZT hx0 (hw1)))
   refine tu Qb [(4, .o 1600 a0.2)] [4] [] [] (pn 3 hx0 (po 6 (.flat) (px (Hy (n := (([] : List (List PV)).length + ((eL a0.2) : List (List PV)).length)) (B9 (rfl) (Ym a0.2) (by first | omega | (simp only [List.length_cons, List.length_nil]; omega) | (simp; omega) | simp))) (px (Ub (Wm a0.2)) p0)))) ?_
   refine Qf ?_
   have hr5 : (Xm (Ef name) Eg a_ 0 ()) = .ret a0.2 := Z1 hx0 (Q8 h3 (rfl)) hI0
   exact po0 [] (Gu hr5)
  ·
   refine Qj ?_
   refine qu Qb [(5, .i ((k0 + 1 : Nat) : Int))] [5] [] [] (pe 1 (Jb (Qv k0 (by omega))) p0) ?_
   exact Exists.intro _ (And.intro (Qd (by kernel_rfl)) (Qz hx0 (Qn h3 (rfl)) hI0))
 ·
  refine Qe ?_
  refine sn Qb [0, 1, 4, 5, 9] [] (pl 2 a_ (pe 3 (Qs (decide_eq_false (p := ((k0 : Nat) : Int) < (a_.length : Int)) (by omega))) p0)) ?_
  refine ckF ?_
  refine Q3 ?_
  exact Exists.intro _ (And.intro (Qd (by kernel_rfl)) (Xl hk0 (rfl) hI0))
 ·
  refine sn Qb [4] [] (p0) ?_
  refine Qf ?_
  exact po0 [] (Wf hD0 (rfl))
def Wu (id : Int) (_ : Nat) (a0 : Int) (_ : Unit) : Rd (Bool) (Unit) (Unit) := (bif (a0 == id) then (.ret true) else (.next ()))
def Ah (_ : Nat) (_ : Unit) : Unit := ()
def Xx (ids : (List Int)) (id : Int) : Bool := (Out.on (Xm (Wu id) Ah ids 0 ()) (fun _ => false))
theorem Wa (ids : (List Int)) (id : Int) : ACalls Tryz.prog 47 [.h ids, .i id] (.b (Xx ids id)) := by
 refine en Qb Tryz.func47 fun w0 F0 hG => ?_
 refine sn Qb [0, 1, 4] [] (p0) ?_
 refine Qe ?_
 refine tn Qb [0, 1, 4, 5] [] (p0) ?_
 refine mz [(4, .b false), (5, .i 0)] [] [] [] ?_
 refine wT 0 0 .sh ids (fun hw1 hl2 => ?_)
 refine Mq (Wu id) Ah ids () (fun k0 _ => [(5, .i ((k0 : Nat) : Int))]) [5] (fun _ => []) [0, 1, 5] (Qd (by kernel_rfl)) (fun k0 s0 hk0 hI0 => ?_) (fun k0 s0 hk0 hI0 => ?_) (fun y0 hD0 => ?_)
 ·
  obtain ⟨a0, hx0⟩ := Xk (l := ids) (i := k0) hk0
  refine Qe ?_
  refine sn Qb [0, 1, 4, 5, 9] [] (pl 2 ids (pe 3 (Qs (decide_eq_true (p := ((k0 : Nat) : Int) < (ids.length : Int)) (by omega))) p0)) ?_
  refine ckT ?_
  refine Qj ?_
  refine Qe ?_
  refine Qt ?_
  refine tn Qb [0, 1, 4, 5, 17] [] (pn 2 hx0 p0) ?_
  refine ck (a0 == id) (fun h3 => ?_) (fun h3 => ?_)
  ·
   refine tu Qb [(4, .b true)] [4] [] [] (p0) ?_
   refine Qf ?_
   have hr4 : (Xm (Wu id) Ah ids 0 ()) = .ret true := Z1 hx0 (Q8 h3 (rfl)) hI0
   exact pb [] (Gu hr4)
  ·
   have h3d := Yb h3
   refine Qj ?_
   refine qu Qb [(5, .i ((k0 + 1 : Nat) : Int))] [5] [] [] (pe 1 (Jb (Qv k0 (by omega))) p0) ?_
   exact Exists.intro _ (And.intro (Qd (by kernel_rfl)) (Qz hx0 (Qn h3 (rfl)) hI0))
 ·
  refine Qe ?_
  refine sn Qb [0, 1, 4, 5, 9] [] (pl 2 ids (pe 3 (Qs (decide_eq_false (p := ((k0 : Nat) : Int) < (ids.length : Int)) (by omega))) p0)) ?_
  refine ckF ?_
  refine Q3 ?_
  exact Exists.intro _ (And.intro (Qd (by kernel_rfl)) (Xl hk0 (rfl) hI0))
 ·
  refine sn Qb [4] [] (p0) ?_
  refine Qf ?_
  exact pb [] (Wf hD0 (rfl))
def J7 (n_ : Nat) (q : (List X9)) (at_ : Int) (f : X4) (a_ : (List Qw)) : Bool := match n_ with
 | 0 => default
 | n_ + 1 => (bif ((nth q (Int.toNat at_)).1 == (1 : Int)) then true else (bif ((nth q (Int.toNat at_)).1 == (2 : Int)) then ((Jn f ((nth q (Int.toNat at_)).2.2.2.1)).1 != (0 : Int)) else (bif ((nth q (Int.toNat at_)).1 == (3 : Int)) then (((Jn f ((nth q (Int.toNat at_)).2.2.2.1)).1 == (nth q (Int.toNat at_)).2.2.2.2.1) && (((Jn f ((nth q (Int.toNat at_)).2.2.2.1)).2.1 == (nth q (Int.toNat at_)).2.2.2.2.2.1) && ((((Jn f ((nth q (Int.toNat at_)).2.2.2.1)).2.2).toList == ((nth q (Int.toNat at_)).2.2.2.2.2.2).toList) && true))) else (bif ((nth q (Int.toNat at_)).1 == (4 : Int)) then (((Jn f ((nth q (Int.toNat at_)).2.2.2.1)).1 == (1 : Int)) && decide ((Jn f ((nth q (Int.toNat at_)).2.2.2.1)).2.1 < (nth q (Int.toNat at_)).2.2.2.2.2.1)) else (bif ((nth q (Int.toNat at_)).1 == (5 : Int)) then (!(J7 n_ q ((nth q (Int.toNat at_)).2.1) f a_)) else (bif ((nth q (Int.toNat at_)).1 == (6 : Int)) then ((J7 n_ q ((nth q (Int.toNat at_)).2.1) f a_) && (J7 n_ q ((nth q (Int.toNat at_)).2.2.1) f a_)) else (bif ((nth q (Int.toNat at_)).1 == (7 : Int)) then ((J7 n_ q ((nth q (Int.toNat at_)).2.1) f a_) || (J7 n_ q ((nth q (Int.toNat at_)).2.2.1) f a_)) else (bif ((nth q (Int.toNat at_)).1 == (8 : Int)) then (Xx (Vu a_ ((nth q (Int.toNat at_)).2.2.2.1)) f.1) else ((f.2.2.2.1 != (0 : Int)) && (Xx (Vu a_ ((nth q (Int.toNat at_)).2.2.2.1)) f.2.2.2.1))))))))))
theorem JJ : ∀ (n_ : Nat) (q : (List X9)) (at_ : Int) (f : X4) (a_ : (List Qw)) (hv : Q1 q = true) (ha : 0 ≤ at_) (hb : at_ < (q.length : Int)) (hn : at_ < ((n_ : Nat) : Int)), ACalls Tryz.prog 170 [.h q, .i at_, .a [.i f.1, .i f.2.1, .b f.2.2.1, .i f.2.2.2.1, .h f.2.2.2.2], .h a_] (.b (J7 n_ q at_ f a_)) := by
 intro n_
 induction n_ with
 | zero => intro q at_ f a_ hv ha hb hn; exact (by omega : False).elim
 | succ n_ ih =>
  intro q at_ f a_ hv ha hb hn
  refine en Qb Tryz.func170 fun w0 F0 hG => ?_
  refine sn Qb [0, 1, 3, 6, 8] [6] (p0) ?_
  refine wT 0 0 .sh q (fun hw2 hl3 => ?_)
  have hx1 := ng q (Int.toNat at_)
  refine tn Qb [0, 3, 6, 8, 9] [6, 9] (pg 2 at_ hx1 p0) ?_
  refine tu Qb [(6, .p 6 0), (8, .b false), (9, .p 9 0), (10, .p 10 0)] [1, 2] [(6, [.i f.1, .i f.2.1, .b f.2.2.1, .i f.2.2.2.1, .h f.2.2.2.2]), (9, [.i ((nth q (Int.toNat at_)).1), .i ((nth q (Int.toNat at_)).2.1), .i ((nth q (Int.toNat at_)).2.2.1), .s ((nth q (Int.toNat at_)).2.2.2.1), .i ((nth q (Int.toNat at_)).2.2.2.2.1), .i ((nth q (Int.toNat at_)).2.2.2.2.2.1), .s ((nth q (Int.toNat at_)).2.2.2.2.2.2)]), (10, [.i ((Jn f ((nth q (Int.toNat at_)).2.2.2.1)).1), .i ((Jn f ((nth q (Int.toNat at_)).2.2.2.1)).2.1), .s ((Jn f ((nth q (Int.toNat at_)).2.2.2.1)).2.2)])] [] (pc 3 (JI f ((nth q (Int.toNat at_)).2.2.2.1)) p0) ?_
  refine Qe ?_
  refine sn Qb [0, 3, 6, 8, 9, 10, 20] [6, 9, 10] (p0) ?_
  refine Qt ?_
  refine tn Qb [0, 3, 6, 8, 9, 10, 20, 21] [6, 9, 10] (p0) ?_
  refine ck ((nth q (Int.toNat at_)).1 == (1 : Int)) (fun h4 => ?_) (fun h4 => ?_)
  ·
   refine tu Qb [(8, .b true)] [0, 8, 10] [] [10] (p0) ?_
   refine Qf ?_
   exact pb [] (Q8 h4 (rfl))
  ·
   have h4d := Yb h4
   refine tu Qb [(20, .i ((nth q (Int.toNat at_)).1)), (23, .b ((nth q (Int.toNat at_)).1 == (2 : Int)))] [] [] [] (p0) ?_
   refine ck ((nth q (Int.toNat at_)).1 == (2 : Int)) (fun h5 => ?_) (fun h5 => ?_)
   ·
    refine sn Qb [3, 6, 8, 9] [6, 9] (p0) ?_
    refine Qf ?_
    exact pb [] (Qn h4 (Q8 h5 (rfl)))
   ·
    have h5d := Yb h5
    refine sn Qb [0, 3, 6, 8, 9, 10, 20, 28] [6, 9, 10] (p0) ?_
    refine ck ((nth q (Int.toNat at_)).1 == (3 : Int)) (fun h6 => ?_) (fun h6 => ?_)
    ·
     refine tn Qb [3, 6, 8, 9] [6, 9] (p0) ?_
     refine Qf ?_
     exact pb [] (Qn h4 (Qn h5 (Q8 h6 (rfl))))
    ·
     have h6d := Yb h6
     refine tn Qb [0, 3, 6, 8, 9, 10, 20, 34] [6, 9, 10] (p0) ?_
     refine ck ((nth q (Int.toNat at_)).1 == (4 : Int)) (fun h7 => ?_) (fun h7 => ?_)
     ·
      refine Qe ?_
      refine mz [(34, .b ((nth q (Int.toNat at_)).1 == (4 : Int)))] [23] [] [] ?_
      refine jn [(8, .b (((Jn f ((nth q (Int.toNat at_)).2.2.2.1)).1 == (1 : Int)) && decide ((Jn f ((nth q (Int.toNat at_)).2.2.2.1)).2.1 < (nth q (Int.toNat at_)).2.2.2.2.2.1)))] [0, 8, 10, 20, 34] [] [10] ((Jn f ((nth q (Int.toNat at_)).2.2.2.1)).1 == (1 : Int)) (fun h8 => ?_) (fun h8 => ?_) ?_
      ·
       refine rn Qb [3, 6, 8, 9] [6, 9] (pt 2 h8 p0) ?_
       exact ⟨rfl, Qd (by rw [h8]; first | done | kernel_rfl)⟩
      ·
       refine rn Qb [3, 6, 8, 9] [6, 9] (pf 2 h8 p0) ?_
       exact ⟨rfl, Qd (by rw [h8]; first | done | kernel_rfl)⟩
      refine Qf ?_
      exact pb [] (Qn h4 (Qn h5 (Qn h6 (Q8 h7 (rfl)))))
     ·
      have h7d := Yb h7
      refine tu Qb [(47, .b ((nth q (Int.toNat at_)).1 == (5 : Int)))] [10, 23] [] [10] (p0) ?_
      refine ck ((nth q (Int.toNat at_)).1 == (5 : Int)) (fun h9 => ?_) (fun h9 => ?_)
      ·
       have h9d := eq_of_beq h9
       refine sn Qb [3, 6, 8, 9] [6, 9] (pc 5 (ih q ((nth q (Int.toNat at_)).2.1) f a_ hv (by have hz := PH hv ha hb h9; omega) (by have hz := PH hv ha hb h9; omega) (by have hz := PH hv ha hb h9; omega)) p0) ?_
       refine Qf ?_
       exact pb [] (Qn h4 (Qn h5 (Qn h6 (Qn h7 (Q8 h9 (rfl))))))
      ·
       have h9d := Yb h9
       refine sn Qb [0, 3, 6, 8, 9, 20, 56] [6, 9] (p0) ?_
       refine ck ((nth q (Int.toNat at_)).1 == (6 : Int)) (fun h10 => ?_) (fun h10 => ?_)
       ·
        have h10d := eq_of_beq h10
        refine Qe ?_
        refine mz [(56, .b ((nth q (Int.toNat at_)).1 == (6 : Int)))] [47] [] [] ?_
        refine jn [(8, .b ((J7 n_ q ((nth q (Int.toNat at_)).2.1) f a_) && (J7 n_ q ((nth q (Int.toNat at_)).2.2.1) f a_)))] [0, 8, 20, 56] [] [] (J7 n_ q ((nth q (Int.toNat at_)).2.1) f a_) (fun h11 => ?_) (fun h11 => ?_) ?_
        ·
         refine rn Qb [3, 6, 8, 9] [6, 9] (pc 5 (cb h11 (ih q ((nth q (Int.toNat at_)).2.1) f a_ hv (by have hz := BQ hv ha hb h10; omega) (by have hz := BQ hv ha hb h10; omega) (by have hz := BQ hv ha hb h10; omega))) (pc 12 (ih q ((nth q (Int.toNat at_)).2.2.1) f a_ hv (by have hz := PI hv ha hb h10; omega) (by have hz := PI hv ha hb h10; omega) (by have hz := PI hv ha hb h10; omega)) p0)) ?_
         exact ⟨rfl, Qd (by rw [h11]; first | done | kernel_rfl)⟩
        ·
         refine rn Qb [3, 6, 8, 9] [6, 9] (pc 5 (cb h11 (ih q ((nth q (Int.toNat at_)).2.1) f a_ hv (by have hz := BQ hv ha hb h10; omega) (by have hz := BQ hv ha hb h10; omega) (by have hz := BQ hv ha hb h10; omega))) p0) ?_
         exact ⟨rfl, Qd (by rw [h11]; first | done | kernel_rfl)⟩
        refine Qf ?_
        exact pb [] (Qn h4 (Qn h5 (Qn h6 (Qn h7 (Qn h9 (Q8 h10 (rfl)))))))
       ·
        have h10d := Yb h10
        refine tn Qb [0, 3, 6, 8, 9, 20, 72] [6, 9] (p0) ?_
        refine ck ((nth q (Int.toNat at_)).1 == (7 : Int)) (fun h12 => ?_) (fun h12 => ?_)
        ·
         have h12d := eq_of_beq h12
         refine Qe ?_
         refine mz [(72, .b ((nth q (Int.toNat at_)).1 == (7 : Int)))] [47] [] [] ?_
         refine jn [(8, .b ((J7 n_ q ((nth q (Int.toNat at_)).2.1) f a_) || (J7 n_ q ((nth q (Int.toNat at_)).2.2.1) f a_)))] [0, 8, 20, 72] [] [] (J7 n_ q ((nth q (Int.toNat at_)).2.1) f a_) (fun h13 => ?_) (fun h13 => ?_) ?_
         ·
          refine rn Qb [3, 6, 8, 9] [6, 9] (pc 5 (cb h13 (ih q ((nth q (Int.toNat at_)).2.1) f a_ hv (by have hz := DX hv ha hb h12; omega) (by have hz := DX hv ha hb h12; omega) (by have hz := DX hv ha hb h12; omega))) p0) ?_
          exact ⟨rfl, Qd (by rw [h13]; first | done | kernel_rfl)⟩
         ·
          refine rn Qb [3, 6, 8, 9] [6, 9] (pc 5 (cb h13 (ih q ((nth q (Int.toNat at_)).2.1) f a_ hv (by have hz := DX hv ha hb h12; omega) (by have hz := DX hv ha hb h12; omega) (by have hz := DX hv ha hb h12; omega))) (pc 12 (ih q ((nth q (Int.toNat at_)).2.2.1) f a_ hv (by have hz := SR hv ha hb h12; omega) (by have hz := SR hv ha hb h12; omega) (by have hz := SR hv ha hb h12; omega)) p0)) ?_
          exact ⟨rfl, Qd (by rw [h13]; first | done | kernel_rfl)⟩
         refine Qf ?_
         exact pb [] (Qn h4 (Qn h5 (Qn h6 (Qn h7 (Qn h9 (Qn h10 (Q8 h12 (rfl))))))))
        ·
         refine tu Qb [(88, .b ((nth q (Int.toNat at_)).1 == (8 : Int)))] [0, 20, 47] [] [] (p0) ?_
         refine ck ((nth q (Int.toNat at_)).1 == (8 : Int)) (fun h14 => ?_) (fun h14 => ?_)
         ·
          refine sN Qb Yn [3, 6, 8, 9] [6, 9] (pc 3 (Fh a_ ((nth q (Int.toNat at_)).2.2.2.1)) (pc 6 (Wa (Vu a_ ((nth q (Int.toNat at_)).2.2.2.1)) f.1) p0)) ?_
          refine Qf ?_
          exact pb [] (Qn h4 (Qn h5 (Qn h6 (Qn h7 (Qn h9 (Qn h10 (Qn h12 (Q8 h14 (rfl)))))))))
         ·
          refine Qj ?_
          refine Qe ?_
          refine jn [(8, .b ((f.2.2.2.1 != (0 : Int)) && (Xx (Vu a_ ((nth q (Int.toNat at_)).2.2.2.1)) f.2.2.2.1)))] [3, 6, 8, 9, 88] [] [6, 9] (f.2.2.2.1 != (0 : Int)) (fun h15 => ?_) (fun h15 => ?_) ?_
          ·
           refine rN Qb Yn [8] [] (pt 2 h15 (pc 7 (Fh a_ ((nth q (Int.toNat at_)).2.2.2.1)) (pc 10 (Wa (Vu a_ ((nth q (Int.toNat at_)).2.2.2.1)) f.2.2.2.1) p0))) ?_
           exact ⟨rfl, Qd (by rw [h15]; first | done | kernel_rfl)⟩
          ·
           refine rN Qb Yn [8] [] (pf 2 h15 p0) ?_
           exact ⟨rfl, Qd (by rw [h15]; first | done | kernel_rfl)⟩
          refine Qf ?_
          exact pb [] (Qn h4 (Qn h5 (Qn h6 (Qn h7 (Qn h9 (Qn h10 (Qn h12 (Qn h14 (rfl)))))))))
def Dh (q : (List X9)) (f : X4) (a_ : (List Qw)) : Bool := ((Yw q) && (J7 (List.length q) q ((q.length : Int) - 1) f a_))
theorem JK (q : (List X9)) (f : X4) (a_ : (List Qw)) : ACalls Tryz.prog 154 [.h q, .a [.i f.1, .i f.2.1, .b f.2.2.1, .i f.2.2.2.1, .h f.2.2.2.2], .h a_] (.b (Dh q f a_)) := by
 refine en Qb Tryz.func154 fun w0 F0 hG => ?_
 refine sn Qb [0, 2, 4, 6] [4] (p0) ?_
 refine Qe ?_
 refine mz [(4, .p 4 0), (6, .b false)] [1] [(4, [.i f.1, .i f.2.1, .b f.2.2.1, .i f.2.2.2.1, .h f.2.2.2.2])] [] ?_
 refine jn [(6, .b ((Yw q) && (J7 (List.length q) q ((q.length : Int) - 1) f a_)))] [0, 2, 4, 6] [] [4] (Yw q) (fun h1 => ?_) (fun h1 => ?_) ?_
 ·
  refine wT 0 0 .sh q (fun hw2 hl3 => ?_)
  refine rn Qb [6] [] (pc 1 (cb h1 (V0 q)) (pl 5 q (pe 6 (Jb (IntWalk.i64_in ((q.length : Int) - 1) (by omega))) (pc 9 (JJ (List.length q) q ((q.length : Int) - 1) f a_ (Nl h1) (by have := Tk (Nl h1); omega) (by omega) (by omega)) p0)))) ?_
  exact ⟨rfl, Qd (by rw [h1]; first | done | kernel_rfl)⟩
 ·
  refine rn Qb [6] [] (pc 1 (cb h1 (V0 q)) p0) ?_
  exact ⟨rfl, Qd (by rw [h1]; first | done | kernel_rfl)⟩
 refine Qf ?_
 exact pb [] (show Dh q f a_ = ((Yw q) && (J7 (List.length q) q ((q.length : Int) - 1) f a_)) from rfl)
def Ht (q : (List X9)) (a_ : (List Qw)) (_ : Nat) (a0 : X4) (s0 : (List Int)) : Rd ((List Int)) ((List Int)) ((List Int)) := (bif (Dh q a0 a_) then (.next (s0 ++ [a0.1])) else (.next s0))
def Cm (_ : Nat) (s0 : (List Int)) : (List Int) := s0
def Zm (s_ : Q5) (q : (List X9)) (a_ : (List Qw)) : (List Int) := (Out.on (Xm (Ht q a_) Cm s_.2.1 0 []) (fun y0 => y0))
theorem Rc (s_ : Q5) (q : (List X9)) (a_ : (List Qw)) : ACalls Tryz.prog 129 [.a [.h s_.1, .h s_.2.1, .i s_.2.2], .h q, .h a_] (.o 0 (Zm s_ q a_)) := by
 refine en Qb Tryz.func129 fun w0 F0 hG => ?_
 refine sn Qb [1, 2, 3, 6] [3] (p0) ?_
 refine tn Qb [1, 2, 3, 6, 7] [3] (p0) ?_
 refine Qe ?_
 refine tu Qb [(3, .p 3 0), (6, .e 0), (7, .one (.slc (.own true 576) 1 [])), (8, .i 0)] [0] [(3, [.h s_.1, .h s_.2.1, .i s_.2.2])] [] (p0) ?_
 refine wB 3 1 .sh s_.2.1 (fun hw1 hl2 => ?_)
 refine HQ (Ht q a_) Cm s_.2.1 [] (fun k0 s0 => [(7, .o 147204 s0), (8, .i ((k0 : Nat) : Int))]) [7, 8] (fun _ _ => []) [] (fun y0 => [(7, .o 147354 y0)]) [1, 2, 3, 7, 8] (fun _ => []) [3] (fun k0 s0 => List.length s0 ≤ k0) (Xy [(576, 147204)] (by kernel_rfl)) (by simp) (fun k0 s0 hk0 hI0 => ?_) (fun k0 s0 hk0 hI0 => ?_) (fun y0 hD0 => ?_)
 ·
  have hA0_0 := hI0.2
  obtain ⟨a0, hx0⟩ := Xk (l := s_.2.1) (i := k0) hk0
  refine Qe ?_
  refine su Qb [(14, .b true)] [] [] [] (pl 3 s_.2.1 (pe 4 (Qs (decide_eq_true (p := ((k0 : Nat) : Int) < (s_.2.1.length : Int)) (by omega))) p0)) ?_
  refine ckT ?_
  refine Qj ?_
  refine Qe ?_
  refine Qt ?_
  refine sn Qb [1, 2, 3, 6, 7, 8, 24] [3] (pn 4 hx0 (pc 7 (JK q a0 a_) p0)) ?_
  refine ck (Dh q a0 a_) (fun h3 => ?_) (fun h3 => ?_)
  ·
   refine wT 7 0 (.own true 147204) s0 (fun hw4 hl5 => ?_)
   refine qu Qb [(7, .one (.slc (.own true 2112) 1 ((eL s0) ++ [[.i a0.1]])))] [7, 14] [] [] (pn 4 hx0 (pa s0 [a0.1] p0)) ?_
   refine eqn [(7, .o 2112 (s0 ++ [a0.1]))] [7] [] [] (by rw [show ((eL s0) ++ [[.i a0.1]]) = (eL (s0 ++ [a0.1])) from Ky (rfl) (rfl)]; first | done | kernel_rfl) ?_
   refine rn Qb [1, 2, 3, 6, 7, 8] [3] (pe 1 (Jb (Qv k0 (by omega))) p0) ?_
   exact Exists.intro (s0 ++ [a0.1]) (And.intro (Xy [(2112, 147204)] (by kernel_rfl)) ⟨Qz hx0 (Q8 h3 (rfl)) hI0.1, by first | omega | (simp; omega) | simp⟩)
  ·
   refine Qj ?_
   refine qn Qb [1, 2, 3, 6, 7, 8] [3] (pe 1 (Jb (Qv k0 (by omega))) p0) ?_
   exact Exists.intro s0 (And.intro (Qd (by kernel_rfl)) ⟨Qz hx0 (Qn h3 (rfl)) hI0.1, by first | omega | (simp; omega) | simp⟩)
 ·
  have hA0_0 := hI0.2
  refine Qe ?_
  refine su Qb [(14, .b false)] [] [] [] (pl 3 s_.2.1 (pe 4 (Qs (decide_eq_false (p := ((k0 : Nat) : Int) < (s_.2.1.length : Int)) (by omega))) p0)) ?_
  refine ckF ?_
  refine Q3 ?_
  exact Exists.intro _ (And.intro (Xy [(147204, 147354)] (by kernel_rfl)) (Xl hk0 (rfl) hI0.1))
 ·
  refine sn Qb [6] [] (p0) ?_
  refine Qf ?_
  exact po0 [] (Wf hD0 (rfl))
end Go.Proofs.YtockoklfegpgeaaGreat
namespace Go.Proofs.YtockoklfegpgeaaGreat
open Go.RowKit
theorem PO (l : List Int) (x : Int) : K5 l x = Xx l x := by
  unfold K5 J0 H5 Xx
  have key : ∀ (l : List Int) (k : Nat), decide (((Xm (Jz x) V3 l k ()).on fun _ => -1) ≥ 0) = ((Xm (Wu x) Ah l k ()).on fun _ => false) := by
    intro l
    induction l with
    | nil => intro k; rfl
    | cons a l ih =>
      intro k
      by_cases h : x = a
      · subst h; simp [Xm, Jz, Wu, Out.on]
      · have e1 : (x == a) = false := beq_eq_false_iff_ne.2 h
        have e2 : (a == x) = false := beq_eq_false_iff_ne.2 (Ne.symm h)
        simp only [Xm, Jz, Wu, e1, e2, cond_false]
        exact ih (k + 1)
  exact key l 0
theorem TB (r : List Qw) (s : ByteArray) : Yi r s = Vu r s := rfl
theorem TC (f : X4) (s : ByteArray) : Ji f s = Jn f s := rfl
theorem Qav {n : X9} {k : Int} (h : Zk n k = true) : n.1 = 1 ∨ n.1 = 2 ∨ n.1 = 3 ∨ n.1 = 4 ∨ n.1 = 5 ∨ n.1 = 6 ∨ n.1 = 7 ∨ n.1 = 8 ∨ n.1 = 9 := by
  refine Classical.byContradiction fun hn => ?_
  simp only [not_or] at hn
  obtain ⟨h1, h2, h3, h4, h5, h6, h7, h8, h9⟩ := hn
  unfold Zk at h
  simp only [beq_eq_false_iff_ne.2 h1, beq_eq_false_iff_ne.2 h2, beq_eq_false_iff_ne.2 h3, beq_eq_false_iff_ne.2 h4, beq_eq_false_iff_ne.2 h5, beq_eq_false_iff_ne.2 h6, beq_eq_false_iff_ne.2 h7, beq_eq_false_iff_ne.2 h8, beq_eq_false_iff_ne.2 h9, cond_false] at h
  cases h
theorem CG {q : List X9} (hv : Q1 q = true) (f : X4) (r : List Qw) : ∀ (n : Nat) (k : Int), 0 ≤ k → k < (q.length : Int) → Yl n q k f r = J7 n q k f r
  | 0, _, _, _ => rfl
  | n + 1, k, h0, h1 => by
    have hn := HU hv (Ho (l := q) (i := Int.toNat k) (by omega))
    rw [Int.toNat_of_nonneg h0] at hn
    obtain ⟨hl, hr⟩ := Ea hv h0 h1
    unfold Yl J7
    have ih := CG hv f r n
    unfold V7
    simp only [TC, TB, PO]
    generalize nth q (Int.toNat k) = m at hn hl hr ⊢
    rcases Qav hn with h | h | h | h | h | h | h | h | h
    · simp [h]
    · simp [h]
    · simp [h]
    · rw [h]
      cases hz : ((Jn f m.2.2.2.1).1 == (1 : Int)) with
      | true => simp [bne, hz]
      | false => simp [bne, hz]
    · simp [h, ih _ (hl (by simp [h])).1 (by have := (hl (by simp [h])).2; omega)]
    · simp [h, ih _ (hl (by simp [h])).1 (by have := (hl (by simp [h])).2; omega), ih _ (hr (by simp [h])).1 (by have := (hr (by simp [h])).2; omega)]
    · simp [h, ih _ (hl (by simp [h])).1 (by have := (hl (by simp [h])).2; omega), ih _ (hr (by simp [h])).1 (by have := (hr (by simp [h])).2; omega)]
    · simp [h]
    · simp [h]
theorem EB (q : List X9) (f : X4) (r : List Qw) : V9 q f r = Dh q f r := by
  unfold V9 Dh
  rw [← NK]
  cases hv : Q1 q with
  | false => rfl
  | true => rw [CG hv f r _ _ (by have := Tk hv; omega) (by omega)]
theorem WH (s : Q5) (q : List X9) (r : List Qw) : Yt s q r = Zm s q r := by
  unfold Yt Zm
  rw [Ia (f := Ul q r) (g := Ht q r) (e := Cl) (e' := Cm) (fun i a s => by
    unfold Ul Ht
    rw [EB]) (fun _ _ => rfl)]
end Go.Proofs.YtockoklfegpgeaaGreat
namespace Go.Proofs.YtockoklfegpgeaaGreat
section
variable {φ : Type} (fs : List φ) (idOf : φ → Int)
def sel (p : φ → Bool) : List Int := (fs.filter p).map idOf
theorem Tz {p q : φ → Bool} : ∀ (l : List φ), (∀ f, f ∈ l → p f = true → q f = true) → (l.filter p).length ≤ (l.filter q).length ∧ ((l.filter q).length ≤ (l.filter p).length → l.filter p = l.filter q)
  | [], _ => ⟨Nat.le_refl _, fun _ => rfl⟩
  | f :: l, h => by
    obtain ⟨h1, h2⟩ := Tz l fun g hg => h g (List.mem_cons_of_mem _ hg)
    have h0 := h f (List.mem_cons_self ..)
    cases hp : p f with
    | true =>
      have hq := h0 hp
      simp only [List.filter_cons, hp, hq, if_true, List.length_cons]
      exact ⟨by omega, fun hl => by rw [h2 (by omega)]⟩
    | false =>
      cases hq : q f with
      | true =>
        simp only [List.filter_cons, hp, hq, if_true, List.length_cons, Bool.false_eq_true, if_false]
        exact ⟨by omega, fun hl => absurd hl (by omega)⟩
      | false =>
        simp only [List.filter_cons, hp, hq, Bool.false_eq_true, if_false]
        exact ⟨h1, h2⟩
theorem IN (p : φ → Bool) : (sel fs idOf p).length ≤ fs.length := by
  unfold sel; rw [List.length_map]; exact List.length_filter_le _ _
variable {fs idOf}
theorem NS {p q : φ → Bool} (h : ∀ f, f ∈ fs → p f = true → q f = true) (hn : sel fs idOf p ≠ sel fs idOf q) : (sel fs idOf p).length + 1 ≤ (sel fs idOf q).length := by
  obtain ⟨h1, h2⟩ := Tz fs h
  unfold sel at hn ⊢
  rw [List.length_map, List.length_map]
  refine Nat.lt_of_le_of_ne h1 fun e => hn ?_
  rw [h2 (by omega)]
theorem TD {p q : φ → Bool} (h : ∀ f, f ∈ fs → p f = true → q f = true) {x : Int} (hx : x ∈ sel fs idOf p) : x ∈ sel fs idOf q := by
  unfold sel at hx ⊢
  obtain ⟨f, hf, rfl⟩ := List.mem_map.1 hx
  obtain ⟨h1, h2⟩ := List.mem_filter.1 hf
  exact List.mem_map.2 ⟨f, List.mem_filter.2 ⟨h1, h f h1 h2⟩, rfl⟩
end
abbrev CD := ByteArray × List Int
def IP (out : List CD) (k : Nat) (ids : List Int) : List CD := out.set k ((nth out k).1, ids)
theorem Sg {out : List CD} {k : Nat} (x : CD) (hk : k < out.length) (j : Nat) : nth (out.set k x) j = if j = k then x else nth out j := by
  unfold nth
  simp only [List.getD_eq_getElem?_getD, List.getElem?_set]
  by_cases h : k = j
  · subst h; simp [hk]
  · simp [h, Ne.symm h]
theorem EC {out : List CD} {k : Nat} (ids : List Int) (hk : k < out.length) : (IP out k ids).map (·.1) = out.map (·.1) := by
  unfold IP
  rw [List.map_set]
  refine List.ext_getElem (by simp) fun i h1 h2 => ?_
  rw [List.getElem_set]
  split
  · rename_i h; subst h; simp [nth, List.getD, hk]
  · rfl
def T0 (B : Nat) (act : Nat → Bool) : Nat → List CD → Nat
  | _, [] => 0
  | k, r :: l => (bif act k then B - r.2.length else 0) + T0 B act (k + 1) l
theorem IQ (B : Nat) (act : Nat → Bool) : ∀ (l : List CD) (k : Nat), T0 B act k l ≤ l.length * B
  | [], k => by simp [T0]
  | r :: l, k => by
    have := IQ B act l (k + 1)
    simp only [T0, List.length_cons, Nat.add_mul, Nat.one_mul]
    cases act k with
    | true => simp only [cond_true]; omega
    | false => simp only [cond_false]; omega
theorem CH (B : Nat) (act : Nat → Bool) (x : CD) : ∀ (l : List CD) (k i : Nat), i < l.length → act (k + i) = true → (nth l i).2.length + 1 ≤ x.2.length → x.2.length ≤ B → T0 B act k (l.set i x) + 1 ≤ T0 B act k l
  | [], k, i, hi, _, _, _ => by simp at hi
  | r :: l, k, 0, _, ha, h1, h2 => by
    have e : nth (r :: l) 0 = r := rfl
    rw [e] at h1
    rw [Nat.add_zero] at ha
    simp only [List.set, T0, ha, cond_true]
    omega
  | r :: l, k, i + 1, hi, ha, h1, h2 => by
    have := CH B act x l (k + 1) i (by simpa using hi) (by rwa [show k + 1 + i = k + (i + 1) by omega]) h1 h2
    simp only [List.set, T0]
    omega
section
variable {φ : Type} {fs : List φ} {idOf : φ → Int} (m : Nat → List CD → φ → Bool) (act : Nat → Bool)
def LeC (a b : List CD) : Prop := ∀ j, (∀ x, x ∈ (nth a j).2 → x ∈ (nth b j).2) ∧ (act j = false → (nth a j).2 = (nth b j).2)
variable (fs idOf)
def Qbu (out : List CD) : Prop := ∀ k, k < out.length → act k = true → ∃ p : φ → Bool, (nth out k).2 = sel fs idOf p ∧ ∀ f, f ∈ fs → p f = true → m k out f = true
def NT (nm : List ByteArray) : Prop := ∀ a b : List CD, a.map (·.1) = nm → b.map (·.1) = nm → LeC act a b → ∀ k, k < nm.length → act k = true → ∀ f, f ∈ fs → m k a f = true → m k b f = true
def WI (s : List CD × Bool) (k : Nat) : List CD × Bool := bif act k then (if sel fs idOf (m k s.1) = (nth s.1 k).2 then s else (IP s.1 k (sel fs idOf (m k s.1)), true)) else s
def JL (ks : List Nat) (s : List CD × Bool) : List CD × Bool := ks.foldl (WI fs idOf m act) s
variable {fs idOf m act} {nm : List ByteArray}
structure StateC (fs : List φ) (idOf : φ → Int) (m : Nat → List CD → φ → Bool) (act : Nat → Bool) (nm : List ByteArray) (o out : List CD) : Prop where
  names : out.map (·.1) = nm
  good : Qbu fs idOf m act out
  rest : ∀ j, act j = false → nth out j = nth o j
theorem NU (hm : NT fs m act nm) {o : List CD} {s : List CD × Bool} (h : StateC fs idOf m act nm o s.1) {k : Nat} (hk : k < nm.length) :
    StateC fs idOf m act nm o (WI fs idOf m act s k).1 ∧ T0 fs.length act 0 (WI fs idOf m act s k).1 ≤ T0 fs.length act 0 s.1 ∧ ((WI fs idOf m act s k).2 = true → s.2 = true ∨ T0 fs.length act 0 (WI fs idOf m act s k).1 + 1 ≤ T0 fs.length act 0 s.1) := by
  unfold WI
  cases ha : act k with
  | false => exact ⟨h, Nat.le_refl _, .inl⟩
  | true =>
    simp only [cond_true]
    split
    · exact ⟨h, Nat.le_refl _, .inl⟩
    · rename_i hne
      have hlen : nm.length = s.1.length := by rw [← h.names, List.length_map]
      have hk' : k < s.1.length := by omega
      obtain ⟨p, hp1, hp2⟩ := h.good k hk' ha
      rw [hp1] at hne
      have hgrow := NS (idOf := idOf) hp2 (Ne.symm hne)
      have hnames : (IP s.1 k (sel fs idOf (m k s.1))).map (·.1) = nm := by rw [EC _ hk', h.names]
      have hle : LeC act s.1 (IP s.1 k (sel fs idOf (m k s.1))) := fun j => by
        unfold IP
        rw [Sg _ hk']
        by_cases hj : j = k
        · subst hj
          rw [if_pos rfl]
          exact ⟨fun x hx => TD hp2 (hp1 ▸ hx), fun hf => absurd ha (by simp [hf])⟩
        · rw [if_neg hj]
          exact ⟨fun _ hx => hx, fun _ => rfl⟩
      have hmono := hm _ _ h.names hnames hle
      have hr : T0 fs.length act 0 (IP s.1 k (sel fs idOf (m k s.1))) + 1 ≤ T0 fs.length act 0 s.1 :=
        CH _ _ _ _ 0 k hk' (by rw [Nat.zero_add]; exact ha) (by rw [hp1]; exact hgrow) (IN _ _ _)
      refine ⟨⟨hnames, fun j hj hja => ?_, fun j hj => ?_⟩, Nat.le_of_succ_le hr, fun _ => .inr hr⟩
      · have hj' : j < s.1.length := by unfold IP at hj; rwa [List.length_set] at hj
        by_cases e : j = k
        · subst e
          refine ⟨m j s.1, ?_, fun f hf hmf => hmono j (by omega) hja f hf hmf⟩
          unfold IP; rw [Sg _ hk', if_pos rfl]
        · obtain ⟨p', h1, h2⟩ := h.good j hj' hja
          refine ⟨p', ?_, fun f hf hpf => hmono j (by omega) hja f hf (h2 f hf hpf)⟩
          unfold IP; rw [Sg _ hk', if_neg e]; exact h1
      · have e : j ≠ k := fun e => absurd ha (by simp [← e, hj])
        unfold IP; rw [Sg _ hk', if_neg e]; exact h.rest j hj
theorem CI (hm : NT fs m act nm) {o : List CD} : ∀ (ks : List Nat) (s : List CD × Bool), (∀ k, k ∈ ks → k < nm.length) → StateC fs idOf m act nm o s.1 →
    StateC fs idOf m act nm o (JL fs idOf m act ks s).1 ∧ T0 fs.length act 0 (JL fs idOf m act ks s).1 ≤ T0 fs.length act 0 s.1 ∧ ((JL fs idOf m act ks s).2 = true → s.2 = true ∨ T0 fs.length act 0 (JL fs idOf m act ks s).1 + 1 ≤ T0 fs.length act 0 s.1)
  | [], s, _, h => ⟨h, Nat.le_refl _, .inl⟩
  | k :: ks, s, hks, h => by
    obtain ⟨h1, h2, h3⟩ := NU hm h (hks k (List.mem_cons_self ..))
    obtain ⟨g1, g2, g3⟩ := CI hm ks _ (fun j hj => hks j (List.mem_cons_of_mem _ hj)) h1
    refine ⟨g1, Nat.le_trans g2 h2, fun hc => ?_⟩
    rcases g3 hc with hc | hc
    · rcases h3 hc with hc | hc
      · exact .inl hc
      · exact .inr (Nat.le_trans (Nat.add_le_add_right g2 1) hc)
    · exact .inr (Nat.le_trans hc h2)
theorem Qb2 {R S T : Type} {F : S → Rd R S T} {out : S → List CD} {ch : S → Bool} {n : Nat} (hn : n = nm.length)
    (hF : ∀ s, ch s = true → ∃ s', F s = .next s' ∧ (out s', ch s') = JL fs idOf m act (List.range n) (out s, false))
    (hE : ∀ s, ch s = false → ∃ t, F s = .brk t)
    (hm : NT fs m act nm) {o : List CD} : ∀ (k : Nat) (s : S), StateC fs idOf m act nm o (out s) → T0 fs.length act 0 (out s) + (bif ch s then 2 else 1) ≤ k →
    ∃ s', StateC fs idOf m act nm o (out s') ∧ ch s' = false ∧ ∃ t, F s' = .brk t ∧ whl F k s = some (.brk t)
  | 0, s, _, hk => by cases hc : ch s <;> simp [hc] at hk
  | k + 1, s, h, hk => by
    cases hc : ch s with
    | false =>
      obtain ⟨t, ht⟩ := hE s hc
      exact ⟨s, h, hc, t, ht, by simp only [whl, ht]⟩
    | true =>
      rw [hc] at hk
      simp only [cond_true] at hk
      obtain ⟨s', h1, h2⟩ := hF s hc
      obtain ⟨g1, g2, g3⟩ := CI hm (o := o) (List.range n) (out s, false) (fun j hj => by rw [← hn]; exact List.mem_range.1 hj) h
      rw [← h2] at g1 g2 g3
      simp only [whl, h1]
      refine Qb2 hn hF hE hm k s' g1 ?_
      simp only [Bool.false_eq_true, false_or] at g3
      cases hc' : ch s' with
      | false => simp only [cond_false]; have : T0 fs.length act 0 (out s') ≤ T0 fs.length act 0 (out s) := g2; omega
      | true => simp only [cond_true]; have : T0 fs.length act 0 (out s') + 1 ≤ T0 fs.length act 0 (out s) := g3 hc'; omega
end
/-! ### a slice that is nil, handed on -/
open Go.RowKit in
def ArgLe (a b : AV) : Prop := ∀ (J : Inj) (w : World) (v : Value), AR J w v a → AR J w v b
theorem ArgLe.rfl (a : AV) : ArgLe a a := fun _ _ _ h => h
theorem ArgLe.nil (n : Nat) : ArgLe (.one (.slc .sh 0 [])) (.one (.slc .sh n [])) := fun J w v h => by
  have h' : VV J.F w v (.slc 0 []) := h
  show VV J.F w v (.slc n [])
  generalize hp : PV.slc 0 ([] : List (List PV)) = p at h'
  cases h' with
  | int | bool | str => cases hp
  | emp oa m hc => exact .emp oa n hc
  | @slc b off cap m cs l hx hcells hr hle hcap =>
    cases hp
    exact .emp _ n hcap.1
theorem AE {P : Program} {f : Nat} {r : AV} {args args' : List AV} (h : All2 ArgLe args args') (c : ACalls P f args' r) : ACalls P f args r := ⟨c.1, fun w hg F vals hF hall => c.2 w hg F vals hF (by
  clear c
  induction h generalizing vals with
  | nil => exact hall
  | cons h1 h2 ih =>
    cases hall with
    | cons g1 g2 => exact .cons (h1 _ _ _ g1) (ih _ g2))⟩
/-! ### a flat row of ours, handed back -/
theorem WJ {s : St} {t k n : Nat} {l : List (List PV)} (ht : get s.tm t = some (.one (.slc (.own false k) n l))) (hf : A0 l) : Weak s ⟨[(t, .one (.slc (.own true k) n l))], []⟩ := fun N w0 F0 J a w h =>
  ⟨J, { h with
    bo := fun k c hc => by simp [get] at hc
    bi := fun k k' c c' hc => by simp [get] at hc
    tm := fun t' v hv => by
      have h1 := h.tm t _ ht
      by_cases e : t' = t
      · subst e
        obtain rfl : AV.one (.slc (.own true k) n l) = v := by simpa [get] using hv
        exact KZ h1 hf
      · simp [get, Ne.symm e] at hv }⟩
theorem AF {P : Program} {N : Nat} {w0 : Base} {F0 : Nat → Prop} {Q : Exit → St → Prop} {s : St} {c : Code} (t : Nat) {k n : Nat} {l : List (List PV)} (ht : get s.tm t = some (.one (.slc (.own false k) n l))) (hf : A0 l) (h : AWP P N w0 F0 c Q ⟨[(t, .one (.slc (.own true k) n l))], []⟩) : AWP P N w0 F0 c Q s := G4 (WJ ht hf) h
end Go.Proofs.YtockoklfegpgeaaGreat
namespace Go.Proofs.YtockoklfegpgeaaGreat
open Go.RowKit
/-! ### each node but the last is named once -/
def Bl (n : X9) (c : Int) : Bool := ((n.2.1 == c) && (n.1 == 6 || n.1 == 7 || n.1 == 5)) || ((n.2.2.1 == c) && (n.1 == 6 || n.1 == 7))
theorem IR (c : Int) (k : Nat) (a : X9) (s : Int) (h0 : 0 ≤ s) (h1 : s ≤ 1000) : ∃ s', Jx c k a s = .next s' ∧ s + (bif Bl a c then 1 else 0) ≤ s' ∧ s' ≤ s + 2 := by
  have w1 : IntKind.i64.wrap (s + 1) = s + 1 := IntWalk.i64_in _ (by omega)
  have w2 : IntKind.i64.wrap (s + 1 + 1) = s + 1 + 1 := IntWalk.i64_in _ (by omega)
  unfold Jx Bl
  rw [w1, w2]
  cases (a.2.1 == c) <;> cases (a.2.2.1 == c) <;> cases (a.1 == 6) <;> cases (a.1 == 7) <;> cases (a.1 == 5) <;> exact ⟨_, rfl, by first | (simp; done) | (simp; omega) | omega, by omega⟩
theorem WK (c : Int) : ∀ (l : List X9) (k : Nat) (s : Int), 0 ≤ s → s + 2 * l.length ≤ 1000 → ∃ s', Xm (Jx c) W9 l k s = .brk s' ∧ s + (l.filter fun n => Bl n c).length ≤ s'
  | [], k, s, _, _ => ⟨s, rfl, by simp⟩
  | a :: l, k, s, h0, h1 => by
    rw [List.length_cons] at h1
    obtain ⟨s1, e1, g1, g2⟩ := IR c k a s h0 (by omega)
    have hp : 0 ≤ s1 := by cases hb : Bl a c <;> (rw [hb] at g1; simp at g1; omega)
    obtain ⟨s2, e2, g3⟩ := WK c l (k + 1) s1 hp (by omega)
    refine ⟨s2, by simp only [Xm, e1]; exact e2, ?_⟩
    rw [List.filter_cons]
    cases hb : Bl a c with
    | true => rw [hb] at g1; simp only [cond_true] at g1; simp only [if_true, List.length_cons]; omega
    | false => rw [hb] at g1; simp only [cond_false] at g1; simp only [Bool.false_eq_true, if_false]; omega
theorem Qaw {α : Type} {p : α → Bool} {l : List α} {i j : Nat} {a b : α} (hij : i < j) (hi : l[i]? = some a) (hj : l[j]? = some b) (ha : p a = true) (hb : p b = true) : 2 ≤ (l.filter p).length := by
  have e : l = l.take j ++ l.drop j := (List.take_append_drop j l).symm
  rw [e, List.filter_append, List.length_append]
  have h1 : 1 ≤ ((l.take j).filter p).length := List.length_pos_of_mem (a := a) (List.mem_filter.2 ⟨List.mem_of_getElem? (i := i) (by rw [List.getElem?_take, if_pos hij]; exact hi), ha⟩)
  have h2 : 1 ≤ ((l.drop j).filter p).length := List.length_pos_of_mem (a := b) (List.mem_filter.2 ⟨List.mem_of_getElem? (i := 0) (by rw [List.getElem?_drop]; exact hj), hb⟩)
  omega
theorem TE {q : List X9} (h : Q1 q = true) {i : Nat} (hi : i + 1 < q.length) : Jm q (i : Int) = 1 := by
  obtain ⟨⟨t, ht⟩, _⟩ := GS h
  have := Fs (fun k a t => by unfold Y7; generalize (_ || _ : Bool) = c; cases c <;> simp) ht i (nth q i) (Ho (by omega))
  unfold Y7 at this
  rw [Nat.zero_add] at this
  have hd : decide (((i : Nat) : Int) < ((q.length : Int) - 1)) = true := decide_eq_true (by omega)
  rw [hd, Bool.true_and] at this
  cases hn : (Jm q ((i : Nat) : Int) != (1 : Int)) with
  | false => exact We hn
  | true => rw [hn, Bool.or_true] at this; simp at this
theorem NV {q : List X9} (h : Q1 q = true) {c i j : Nat} (hc : c + 1 < q.length) (hij : i < j) (hj : j < q.length) (h1 : Bl (nth q i) (c : Int) = true) (h2 : Bl (nth q j) (c : Int) = true) : False := by
  have hr := TE h hc
  have hl := (Tk h).2
  obtain ⟨s, e, g⟩ := WK (c : Int) q 0 0 (by omega) (by omega)
  unfold Jm at hr
  rw [e] at hr
  have := Qaw (p := fun n => Bl n (c : Int)) hij (Ho (by omega)) (Ho hj) h1 h2
  simp only [Out.on] at hr
  omega
theorem IS {q : List X9} (h : Q1 q = true) {c i : Nat} (hi : i < q.length) (hr : Bl (nth q i) (c : Int) = true) : c < i := by
  obtain ⟨h1, h2⟩ := Ea h (k := (i : Int)) (by omega) (by omega)
  rw [Int.toNat_natCast] at h1 h2
  unfold Bl at hr
  simp only [Bool.or_eq_true, Bool.and_eq_true, beq_iff_eq] at hr
  rcases hr with ⟨e, hop⟩ | ⟨e, hop⟩
  · have := h1 (by omega); omega
  · have := h2 (by omega); omega
/-! ### below a negation -/
theorem JM {L : List Bool} {i : Nat} (x : Bool) (hi : i < L.length) (j : Nat) : nth (L.set i x) j = if j = i then x else nth L j := by
  unfold nth
  simp only [List.getD_eq_getElem?_getD, List.getElem?_set]
  by_cases h : i = j
  · subst h; simp [hi]
  · simp [h, Ne.symm h]
theorem NW {q : List X9} (h : Q1 q = true) {k : Nat} (hk : k < q.length) (s : List Bool) (hs : s.length = q.length) : ∃ s', Ze q k s = .next s' ∧ s'.length = q.length ∧
    (∀ j : Nat, Bl (nth q (q.length - 1 - k)) (j : Int) = false → nth s' j = nth s j) ∧
    (∀ j : Nat, Bl (nth q (q.length - 1 - k)) (j : Int) = true → nth s' j = (nth s (q.length - 1 - k) || ((nth q (q.length - 1 - k)).1 == 5))) := by
  have hdn : Int.toNat (dn ((q.length : Int) - 1) k) = q.length - 1 - k := by rw [HN]; omega
  obtain ⟨hl, hr⟩ := Ea h (k := ((q.length - 1 - k : Nat) : Int)) (by omega) (by omega)
  rw [Int.toNat_natCast] at hl hr
  have hlt : q.length - 1 - k < s.length := by omega
  unfold Ze
  rw [hdn]
  generalize q.length - 1 - k = i at hl hr hlt ⊢
  generalize nth q i = n at hl hr ⊢
  generalize (nth s i || (n.1 == 5)) = b
  have both : ∀ (e5 : (n.1 == (5 : Int)) = false), (n.1 = 6 ∨ n.1 = 7) → (List.set (List.set s (Int.toNat n.2.1) b) (Int.toNat n.2.2.1) b).length = q.length ∧ (∀ j : Nat, Bl n (j : Int) = false → nth (List.set (List.set s (Int.toNat n.2.1) b) (Int.toNat n.2.2.1) b) j = nth s j) ∧ (∀ j : Nat, Bl n (j : Int) = true → nth (List.set (List.set s (Int.toNat n.2.1) b) (Int.toNat n.2.2.1) b) j = b) := fun e5 h67 => by
    obtain ⟨g1, g2⟩ := hl (.inr h67)
    obtain ⟨g3, g4⟩ := hr h67
    have hop : (n.1 == 6 || n.1 == 7) = true := by rcases h67 with e | e <;> simp [e]
    have hlen : (List.set s (Int.toNat n.2.1) b).length = s.length := List.length_set ..
    refine ⟨by rw [List.length_set, hlen, hs], fun j hj => ?_, fun j hj => ?_⟩
    · simp only [Bl, hop, Bool.true_or, Bool.and_true, Bool.or_eq_false_iff, beq_eq_false_iff_ne, ne_eq] at hj
      rw [Gm _ (by omega), Gm _ (by omega)]
    · simp only [Bl, hop, Bool.true_or, Bool.and_true, Bool.or_eq_true, beq_iff_eq] at hj
      rw [JM _ (by omega), JM _ (by omega)]
      split
      · rfl
      · rw [if_pos (by omega)]
  by_cases h5 : n.1 = 5
  · obtain ⟨g1, g2⟩ := hl (.inl h5)
    simp only [h5, beq_self_eq_true, cond_true]
    refine ⟨_, rfl, by rw [List.length_set, hs], fun j hj => ?_, fun j hj => ?_⟩
    · have : n.2.1 ≠ (j : Int) := by simpa [Bl, h5] using hj
      exact Gm _ (by omega)
    · have : n.2.1 = (j : Int) := by simpa [Bl, h5] using hj
      rw [JM _ (by omega), if_pos (by omega)]
  · have e5 : (n.1 == (5 : Int)) = false := beq_eq_false_iff_ne.2 h5
    rw [e5, cond_false]
    by_cases h6 : n.1 = 6
    · simp only [h6, beq_self_eq_true, cond_true]
      exact ⟨_, rfl, both e5 (.inl h6)⟩
    · by_cases h7 : n.1 = 7
      · simp only [h7, beq_self_eq_true, cond_true]
        exact ⟨_, rfl, both e5 (.inr h7)⟩
      · have e6 : (n.1 == (6 : Int)) = false := beq_eq_false_iff_ne.2 h6
        have e7 : (n.1 == (7 : Int)) = false := beq_eq_false_iff_ne.2 h7
        rw [e6, e7, cond_false, cond_false]
        refine ⟨_, rfl, hs, fun _ _ => rfl, fun j hj => ?_⟩
        simp [Bl, e5, e6, e7] at hj
def IT (q : List X9) (k : Nat) (s : List Bool) : Prop := s.length = q.length ∧ ∀ i, q.length ≤ i + k → i < q.length → ∀ c : Nat, Bl (nth q i) (c : Int) = true → nth s c = (nth s i || ((nth q i).1 == 5))
theorem NX {q : List X9} (h : Q1 q = true) {k : Nat} (hk : k < q.length) {s : List Bool} (hs : IT q k s) : ∃ s', Ze q k s = .next s' ∧ IT q (k + 1) s' := by
  obtain ⟨s', h1, h2, h3, h4⟩ := NW h hk s hs.1
  have hself : nth s' (q.length - 1 - k) = nth s (q.length - 1 - k) := h3 _ (by
    cases hr : Bl (nth q (q.length - 1 - k)) ((q.length - 1 - k : Nat) : Int) with
    | false => rfl
    | true => have := IS h (by omega) hr; omega)
  refine ⟨s', h1, h2, fun i hi1 hi2 c hc => ?_⟩
  by_cases e : i = q.length - 1 - k
  · subst e
    rw [h4 c hc, hself]
  · have hci := IS h hi2 hc
    have n1 : Bl (nth q (q.length - 1 - k)) (c : Int) = false := by
      cases hr : Bl (nth q (q.length - 1 - k)) (c : Int) with
      | false => rfl
      | true => exact (NV h (c := c) (i := q.length - 1 - k) (j := i) (by omega) (by omega) hi2 hr hc).elim
    have n2 : Bl (nth q (q.length - 1 - k)) (i : Int) = false := by
      cases hr : Bl (nth q (q.length - 1 - k)) (i : Int) with
      | false => rfl
      | true => have := IS h (by omega) hr; omega
    rw [h3 c n1, h3 i n2]
    exact hs.2 i (by omega) hi2 c hc
theorem CJ {q : List X9} (h : Q1 q = true) : ∀ (n k : Nat) (s : List Bool), k + n = q.length → IT q k s → ∃ s', Vz (Ze q) W1 n k s = .brk s' ∧ IT q q.length s'
  | 0, k, s, hk, hs => ⟨s, rfl, by rw [show k = q.length by omega] at hs; exact hs⟩
  | n + 1, k, s, hk, hs => by
    obtain ⟨s1, h1, h2⟩ := NX h (by omega) hs
    obtain ⟨s2, h3, h4⟩ := CJ h n (k + 1) s1 (by omega) h2
    exact ⟨s2, by simp only [Vz, h1]; exact h3, h4⟩
theorem NY {q : List X9} (h : Q1 q = true) : IT q q.length (Xo q) := by
  unfold Xo
  obtain ⟨s, h1, h2⟩ := CJ h (List.length q) 0 (List.replicate (Int.toNat (q.length : Int)) false) (by omega) ⟨by simp, fun i h1 h2 => by omega⟩
  rw [h]
  simp only [Bool.not_true, cond_false, h1, Out.on]
  exact h2
theorem NZ {q : List X9} {i : Nat} (hi : i < (Xo q).length) (hn : nth (Xo q) i = true) (hd : J5 (nth q i) = true) : (nth q i).2.2.2.1 ∈ Xp q := by
  have key : ∀ (l : List Bool) (k : Nat) (s : List ByteArray), ∃ t, Xm (Vf q true) Ud l k s = .brk t ∧ (∀ x, x ∈ s → x ∈ t) ∧ ∀ j, l[j]? = some true → J5 (nth q (k + j)) = true → (nth q (k + j)).2.2.2.1 ∈ t := by
    intro l
    induction l with
    | nil => intro k s; exact ⟨s, rfl, fun _ h => h, fun j h => by simp at h⟩
    | cons a l ih =>
      intro k s
      simp only [Xm, Vf]
      cases hc : (J5 (nth q k) && (a == true)) with
      | true =>
        obtain ⟨t, h1, h2, h3⟩ := ih (k + 1) (s ++ [(nth q k).2.2.2.1])
        refine ⟨t, h1, fun x hx => h2 x (List.mem_append_left _ hx), fun j hj hnm => ?_⟩
        cases j with
        | zero => exact h2 _ (List.mem_append_right _ (by simp))
        | succ j =>
          have := h3 j (by simpa using hj) (by rwa [show k + 1 + j = k + (j + 1) by omega])
          rwa [show k + 1 + j = k + (j + 1) by omega] at this
      | false =>
        obtain ⟨t, h1, h2, h3⟩ := ih (k + 1) s
        refine ⟨t, h1, h2, fun j hj hnm => ?_⟩
        cases j with
        | zero =>
          obtain rfl : a = true := by simpa using hj
          rw [Nat.add_zero] at hnm
          rw [hnm] at hc; cases hc
        | succ j =>
          have := h3 j (by simpa using hj) (by rwa [show k + 1 + j = k + (j + 1) by omega])
          rwa [show k + 1 + j = k + (j + 1) by omega] at this
  unfold Xp Vs
  obtain ⟨t, h1, _, h3⟩ := key (Xo q) 0 []
  rw [h1]
  simp only [Out.on]
  have := h3 i (by rw [Ho hi, hn]) (by rwa [Nat.zero_add])
  rw [Nat.zero_add] at this
  exact ((Tp t).2 _).2 this
/-! ### what a node says -/
theorem Re (l : List Int) (x : Int) : K5 l x = true ↔ x ∈ l := by
  unfold K5 J0 H5
  have key : ∀ (l : List Int) (k : Nat), decide (((Xm (Jz x) V3 l k ()).on fun _ => -1) ≥ 0) = true ↔ x ∈ l := by
    intro l
    induction l with
    | nil => intro k; simp [Xm, Out.on, V3]
    | cons a l ih =>
      intro k
      by_cases h : x = a
      · subst h; simp [Xm, Jz, Out.on]
      · have e1 : (x == a) = false := beq_eq_false_iff_ne.2 h
        simp only [Xm, Jz, e1, cond_false]
        rw [ih (k + 1)]
        simp [h]
  exact key l 0
structure Seen (q : List X9) (a b : List Qw) : Prop where
  grow : ∀ nm x, x ∈ Yi a nm → x ∈ Yi b nm
  same : ∀ nm, nm ∈ Xp q → Yi a nm = Yi b nm
theorem YU {q : List X9} (hv : Q1 q = true) {a b : List Qw} (hs : Seen q a b) (f : X4) : ∀ (n : Nat) (k : Nat), k < n → k < q.length →
    (nth (Xo q) k = true → Yl n q (k : Int) f a = Yl n q (k : Int) f b) ∧ (Yl n q (k : Int) f a = true → Yl n q (k : Int) f b = true)
  | 0, _, h, _ => absurd h (by omega)
  | n + 1, k, hkn, hk => by
    obtain ⟨hl, hr⟩ := Ea hv (k := (k : Int)) (by omega) (by omega)
    rw [Int.toNat_natCast] at hl hr
    obtain ⟨hlen, hneg⟩ := NY hv
    have hneg := hneg k (by omega) hk
    have hop := Qav (HU hv (Ho hk))
    have hnm := NZ (q := q) (i := k) (by omega)
    have ih := YU hv hs f n
    unfold Yl
    rw [Int.toNat_natCast]
    generalize nth q k = m at hl hr hneg hop hnm ⊢
    have kid : ∀ c : Int, 0 ≤ c → c < (k : Int) → Bl m c = true → ((nth (Xo q) k || (m.1 == 5)) = true → Yl n q c f a = Yl n q c f b) ∧ (Yl n q c f a = true → Yl n q c f b = true) := fun c h0 h1 hrf => by
      obtain ⟨j, rfl⟩ : ∃ j : Nat, c = (j : Int) := ⟨Int.toNat c, by omega⟩
      obtain ⟨g1, g2⟩ := ih j (by omega) (by omega)
      exact ⟨fun hn => g1 ((hneg j hrf).trans hn), g2⟩
    rcases hop with h | h | h | h | h | h | h | h | h
    · simp [h]
    · simp [h]
    · simp [h]
    · simp [h]
    · obtain ⟨k1, k2⟩ := hl (.inl h)
      obtain ⟨g1, _⟩ := kid m.2.1 k1 k2 (by simp [Bl, h])
      have := g1 (by simp [h])
      simp [h, this]
    · obtain ⟨k1, k2⟩ := hl (.inr (.inl h))
      obtain ⟨k3, k4⟩ := hr (.inl h)
      obtain ⟨g1, g2⟩ := kid m.2.1 k1 k2 (by simp [Bl, h])
      obtain ⟨g3, g4⟩ := kid m.2.2.1 k3 k4 (by simp [Bl, h])
      refine ⟨fun hn => ?_, fun hm => ?_⟩
      · simp [h, g1 (by simp [hn]), g3 (by simp [hn])]
      · simp [h] at hm ⊢
        exact ⟨g2 hm.1, g4 hm.2⟩
    · obtain ⟨k1, k2⟩ := hl (.inr (.inr h))
      obtain ⟨k3, k4⟩ := hr (.inr h)
      obtain ⟨g1, g2⟩ := kid m.2.1 k1 k2 (by simp [Bl, h])
      obtain ⟨g3, g4⟩ := kid m.2.2.1 k3 k4 (by simp [Bl, h])
      refine ⟨fun hn => ?_, fun hm => ?_⟩
      · simp [h, g1 (by simp [hn]), g3 (by simp [hn])]
      · simp [h] at hm ⊢
        exact hm.imp g2 g4
    · refine ⟨fun hn => ?_, fun hm => ?_⟩
      · simp [h, hs.same _ (hnm hn (by simp [J5, h]))]
      · simp [h] at hm ⊢
        exact (Re _ _).2 (hs.grow _ _ ((Re _ _).1 hm))
    · refine ⟨fun hn => ?_, fun hm => ?_⟩
      · simp [h, hs.same _ (hnm hn (by simp [J5, h]))]
      · simp [h] at hm ⊢
        exact ⟨hm.1, (Re _ _).2 (hs.grow _ _ ((Re _ _).1 hm.2))⟩
theorem WL {q : List X9} {a b : List Qw} (hs : Seen q a b) (f : X4) (h : V9 q f a = true) : V9 q f b = true := by
  unfold V9 at h ⊢
  cases hv : Q1 q with
  | false => rw [hv] at h; cases h
  | true =>
    rw [hv, Bool.true_and] at h
    rw [Bool.true_and]
    have hl := Tk hv
    have e : ((q.length : Int) - 1) = ((q.length - 1 : Nat) : Int) := by omega
    rw [e] at h ⊢
    exact (YU hv hs f q.length (q.length - 1) (by omega) (by omega)).2 h
theorem ED (s : Q5) (q : List X9) (r : List Qw) : Yt s q r = sel s.2.1 (fun f => f.1) fun f => V9 q f r := by
  unfold Yt
  rw [Hz (f := Ul q r) (p := fun f => V9 q f r) (g := fun f => f.1) (fun _ _ _ => rfl)]
  rfl
/-! ### strata that hold -/
theorem T1 {d : List Y5} {L : List Int} (h : Qu d = (L, true)) : Jq d = true ∧ L.length = d.length ∧ Sat (J3 d) d.length L ∧ ∀ j, 0 ≤ nth L j := by
  unfold Qu at h
  cases hv : Jq d with
  | false => rw [hv] at h; simp at h
  | true =>
    rw [hv] at h
    simp only [Bool.not_true, cond_false] at h
    have h5 := Ff hv
    have hw := Gp (d := d) (f := Ui d) (e := Uj) (F := Vt d) (fun _ _ _ => rfl) (fun _ _ => rfl) (fun _ => rfl) (by omega) (d.length * d.length + 3) (List.replicate d.length 0) true (A7 _).1 (A7 _).2
    have hsome : (P5 (J3 d) d.length d.length (d.length * d.length + 3) (true, List.replicate d.length 0)).isSome = true := by
      have := D3 d h5
      rw [Int.toNat_natCast, hw, Option.isSome_map] at this
      exact this
    obtain ⟨r, hr⟩ := Option.isSome_iff_exists.1 hsome
    unfold E0 at h
    rw [Int.toNat_natCast, hw, hr] at h
    have hw' : ∀ i e, e ∈ J3 d i → e.2 ≤ 1 ∧ e.1 < d.length := fun i e he => ⟨(Lr d i e he).1, (Lr d i e he).2.1⟩
    obtain ⟨h1, _⟩ := Sc hw' _ 0 true r (fun e => by cases e) hr
    cases r with
    | none => simp [TY, Out.on] at h
    | some M =>
      have e : M = L := by simpa [TY, Out.on] using h
      subst e
      obtain ⟨hrest, hM⟩ := h1 M rfl
      rw [hM]
      exact ⟨rfl, Wh _ _ _, Ou (Wh _ _ _) hrest, fun j => H0 _ _ j _⟩
theorem IU {d : List Y5} {L : List Int} (h : Qu d = (L, true)) : ∀ j, nth L j ≤ (d.length : Int) := by
  obtain ⟨hv, hlen, _, _⟩ := T1 h
  have h5 := Ff hv
  unfold Qu at h
  rw [hv] at h
  simp only [Bool.not_true, cond_false] at h
  have hw := Gp (d := d) (f := Ui d) (e := Uj) (F := Vt d) (fun _ _ _ => rfl) (fun _ _ => rfl) (fun _ => rfl) (by omega) (d.length * d.length + 3) (List.replicate d.length 0) true (A7 _).1 (A7 _).2
  have hsome : (P5 (J3 d) d.length d.length (d.length * d.length + 3) (true, List.replicate d.length 0)).isSome = true := by
    have := D3 d h5
    rw [Int.toNat_natCast, hw, Option.isSome_map] at this
    exact this
  obtain ⟨r, hr⟩ := Option.isSome_iff_exists.1 hsome
  unfold E0 at h
  rw [Int.toNat_natCast, hw, hr] at h
  have hw' : ∀ i e, e ∈ J3 d i → e.2 ≤ 1 ∧ e.1 < d.length := fun i e he => ⟨(Lr d i e he).1, (Lr d i e he).2.1⟩
  obtain ⟨h1, _⟩ := Sc hw' _ 0 true r (fun e => by cases e) hr
  cases r with
  | none => simp [TY, Out.on] at h
  | some M =>
    have e : M = L := by simpa [TY, Out.on] using h
    subst e
    obtain ⟨hrest, hM⟩ := h1 M rfl
    intro j
    by_cases hj : j < d.length
    · rw [hM]; exact Int.le_of_lt (HY hw' hrest j hj)
    · have : nth M j = 0 := Tq (by omega)
      omega
theorem Lu {d : List Y5} {w : Int} {nm : ByteArray} : ∀ {l : List ByteArray}, nm ∈ l → 0 ≤ Xs d nm → (Int.toNat (Xs d nm), w) ∈ Kt d w l
  | x :: l, h, h0 => by
    simp only [Kt]
    rcases List.mem_cons.1 h with rfl | h
    · rw [if_pos h0]; exact List.mem_cons_self ..
    · split
      · exact List.mem_cons_of_mem _ (Lu h h0)
      · exact Lu h h0
theorem EE {d : List Y5} {L : List Int} (h : Qu d = (L, true)) {i : Nat} (hi : i < d.length) {nm : ByteArray} (hn : nm ∈ Xp (nth d i).2) (h0 : 0 ≤ Xs d nm) : nth L (Int.toNat (Xs d nm)) < nth L i := by
  obtain ⟨_, _, hs, _⟩ := T1 h
  have hm : (Int.toNat (Xs d nm), (1 : Int)) ∈ J3 d i := by
    unfold J3
    rw [if_pos hi]
    exact List.mem_append_right _ (Lu hn h0)
  have := (Bh.1 (hs i hi)).2 _ hm
  simp only at this
  omega
end Go.Proofs.YtockoklfegpgeaaGreat
namespace Go.Proofs.YtockoklfegpgeaaGreat
open Go.RowKit
theorem IV (nm : ByteArray) : ∀ (d : List Y5) (o : List Qw) (k : Nat), o.map (·.1) = d.map (·.1) →
    (Xm (X0 nm) Yv d k () = .brk () ∧ Xm (Ku nm) V8 o k () = .brk ()) ∨
    ∃ i : Nat, i < d.length ∧ Xm (X0 nm) Yv d k () = .ret (((k + i : Nat)) : Int) ∧ Xm (Ku nm) V8 o k () = .ret (nth o i).2
  | [], [], _, _ => .inl ⟨rfl, rfl⟩
  | [], _ :: _, _, h => by simp at h
  | _ :: _, [], _, h => by simp at h
  | a :: d, b :: o, k, h => by
    simp only [List.map_cons, List.cons.injEq] at h
    obtain ⟨h1, h2⟩ := h
    simp only [Xm, X0, Ku, Bj, h1]
    cases (a.1.toList == nm.toList) with
    | true => exact .inr ⟨0, by simp, rfl, rfl⟩
    | false =>
      simp only [cond_false]
      rcases IV nm d o (k + 1) h2 with h | ⟨i, hi, h3, h4⟩
      · exact .inl h
      · exact .inr ⟨i + 1, by simpa using hi, by rw [h3, show k + 1 + i = k + (i + 1) by omega], h4⟩
theorem T2 {d : List Y5} {o : List Qw} (h : o.map (·.1) = d.map (·.1)) (nm : ByteArray) : (Xs d nm < 0 ∧ Yi o nm = []) ∨ (0 ≤ Xs d nm ∧ Int.toNat (Xs d nm) < d.length ∧ Yi o nm = (nth o (Int.toNat (Xs d nm))).2) := by
  unfold Xs Jf Yi
  rcases IV nm d o 0 h with ⟨h1, h2⟩ | ⟨i, hi, h1, h2⟩
  · rw [h1, h2]
    refine .inl ⟨?_, ?_⟩
    · show (-1 : Int) < 0; omega
    · rfl
  · rw [h1, h2]
    simp only [Out.on, Nat.zero_add, Int.toNat_natCast]
    exact .inr ⟨by omega, hi, trivial⟩
abbrev JN (d : List Y5) (k : Nat) (o : List Qw) (f : X4) : Bool := V9 (nth d k).2 f o
theorem TF {d : List Y5} {L : List Int} (h : Qu d = (L, true)) (fs : List X4) {act : Nat → Bool} {level : Int} (ha : ∀ k, act k = true → nth L k = level) : NT fs (JN d) act (d.map (·.1)) := by
  intro a b hna hnb hle k hk hact f _ hm
  rw [List.length_map] at hk
  refine WL (⟨fun nm x hx => ?_, fun nm hn => ?_⟩ : Seen (nth d k).2 a b) f hm
  · rcases T2 hna nm with ⟨h1, h2⟩ | ⟨h1, h2, h3⟩
    · rw [h2] at hx; simp at hx
    · rcases T2 hnb nm with ⟨g1, _⟩ | ⟨_, _, g3⟩
      · omega
      · rw [h3] at hx
        rw [g3]
        exact (hle _).1 x hx
  · rcases T2 hna nm with ⟨h1, h2⟩ | ⟨h1, h2, h3⟩
    · rcases T2 hnb nm with ⟨_, g2⟩ | ⟨g1, _, _⟩
      · rw [h2, g2]
      · omega
    · rcases T2 hnb nm with ⟨g1, _⟩ | ⟨_, _, g3⟩
      · omega
      · rw [h3, g3]
        refine (hle _).2 ?_
        have hlt := EE h hk hn h1
        cases hp : act (Int.toNat (Xs d nm)) with
        | false => rfl
        | true => have := ha _ hp; have := ha _ hact; omega
structure EvS (d : List Y5) (L : List Int) (on : Nat → Bool) (fs : List X4) (k : Int) (o : List Qw) : Prop where
  names : o.map (·.1) = d.map (·.1)
  none : ∀ j, k ≤ nth L j → on j = true → (nth o j).2 = []
  some_ : ∀ j, j < d.length → on j = true → ∃ p : X4 → Bool, (nth o j).2 = sel fs (fun f => f.1) p
def UT (L : List Int) (on : Nat → Bool) (k : Int) (j : Nat) : Bool := (nth L j == k) && on j
theorem IW {d : List Y5} {L : List Int} {on : Nat → Bool} {fs : List X4} {k : Int} {o : List Qw} (h : EvS d L on fs k o) : StateC fs (fun f : X4 => f.1) (JN d) (UT L on k) (d.map (·.1)) o o :=
  ⟨h.names, fun j _ hj => ⟨fun _ => false, by
    unfold UT at hj
    simp only [Bool.and_eq_true, beq_iff_eq] at hj
    rw [h.none j (by omega) hj.2]; simp [sel], fun f _ hf => by cases hf⟩, fun _ _ => rfl⟩
theorem OA {d : List Y5} {L : List Int} {on : Nat → Bool} {k : Int} {o o' : List Qw} {fs : List X4} (h : EvS d L on fs k o) (h' : StateC fs (fun f : X4 => f.1) (JN d) (UT L on k) (d.map (·.1)) o o') : EvS d L on fs (k + 1) o' :=
  ⟨h'.names, fun j hj hon => by
    rw [h'.rest j (by unfold UT; rw [Bool.and_eq_false_iff]; exact .inl (beq_eq_false_iff_ne.2 (by omega)))]
    exact h.none j (by omega) hon, fun j hj hon => by
    cases ha : UT L on k j with
    | false => rw [h'.rest j ha]; exact h.some_ j hj hon
    | true =>
      have hlen : o'.length = d.length := by have := congrArg List.length h'.names; simpa using this
      obtain ⟨p, hp, _⟩ := h'.good j (by omega) ha
      exact ⟨p, hp⟩⟩
theorem Eh {d : List Y5} {L : List Int} {on : Nat → Bool} {fs : List X4} {k : Int} {o : List Qw} (h : EvS d L on fs k o) : List.length o = List.length d := by have := congrArg List.length h.names; simpa using this
theorem CK (a b : List Int) : V6 a b = decide (a = b) := by
  by_cases h : a.length = b.length
  · exact IM a b h
  · have hb : ((a.length : Int) != (b.length : Int)) = true := by simpa using fun e : (a.length : Int) = (b.length : Int) => h (by omega)
    unfold V6
    rw [hb, decide_eq_false (fun e => h (congrArg List.length e))]
    rfl
def OB (s : Q5) (d : List Y5) (L : List Int) (on : Nat → Bool) (lv : Int) {R T : Type} (f : Nat → Y5 → List Qw × Bool → Rd R (List Qw × Bool) T) : Prop :=
  ∀ k a o c, d[k]? = some a → f k a (o, c) = bif UT L on lv k then (bif !(decide (Yt s a.2 o = (nth o k).2)) then .next (List.set o k ((nth o k).1, Yt s a.2 o), true) else .next (o, c)) else .next (o, c)
theorem JO {R : Type} {s : Q5} {d : List Y5} {L : List Int} {on : Nat → Bool} {lv : Int} {f : Nat → Y5 → List Qw × Bool → Rd R (List Qw × Bool) (List Qw × Bool)} {e : Nat → List Qw × Bool → List Qw × Bool}
    (hf : OB s d L on lv f) (he : ∀ k s, e k s = s) : ∀ (l : List Y5) (k : Nat) (o : List Qw) (c : Bool), d.drop k = l → Xm f e l k (o, c) = .brk (JL s.2.1 (fun f : X4 => f.1) (JN d) (UT L on lv) (List.range' k l.length) (o, c))
  | [], k, o, c, _ => by simp [Xm, JL, he]
  | a :: l, k, o, c, hl => by
    have hk : d[k]? = some a := by
      have := congrArg (·[0]?) hl
      simpa using this
    have ha : nth d k = a := Lh hk
    have hrest : d.drop (k + 1) = l := by rw [← List.drop_drop, hl]; rfl
    have hp : JL s.2.1 (fun f : X4 => f.1) (JN d) (UT L on lv) (List.range' k (a :: l).length) (o, c) = JL s.2.1 (fun f : X4 => f.1) (JN d) (UT L on lv) (List.range' (k + 1) l.length) (WI s.2.1 (fun f : X4 => f.1) (JN d) (UT L on lv) (o, c) k) := by
      rw [List.length_cons, List.range'_succ]; rfl
    have hsel : sel s.2.1 (fun f : X4 => f.1) (JN d k o) = Yt s a.2 o := by rw [ED, ← ha]
    rw [hp]
    simp only [Xm, hf k a o c hk]
    unfold WI
    cases UT L on lv k with
    | false => simp only [cond_false]; exact JO hf he l (k + 1) o c hrest
    | true =>
      simp only [cond_true, hsel]
      by_cases hq : Yt s a.2 o = (nth o k).2
      · rw [decide_eq_true hq, if_pos hq]; exact JO hf he l (k + 1) o c hrest
      · rw [decide_eq_false hq, if_neg hq]; exact JO hf he l (k + 1) _ true hrest
theorem PP {R' : Type} {s : Q5} {d : List Y5} {L : List Int} {on : Nat → Bool} {lv : Int} {f : Nat → Y5 → List Qw × Bool → Rd (Rd R' (List Qw × Int × Bool) (List Qw × Int)) (List Qw × Bool) (List Qw × Bool)} {e : Nat → List Qw × Bool → List Qw × Bool} {F : List Qw × Int × Bool → Rd R' (List Qw × Int × Bool) (List Qw × Int)}
    (hf : OB s d L on lv f) (he : ∀ k s, e k s = s) (hF : ∀ x, F x = bif x.2.2 then (Out.on (Xm f e d 0 (x.1, false)) fun y => .next (y.1, IntKind.i64.wrap (x.2.1 + 1), y.2)) else .brk (x.1, x.2.1))
    (hS : Qu d = (L, true)) {o : List Qw} (h : EvS d L on s.2.1 lv o) (p : Int) :
    ∃ o' p', whl F (List.length d * List.length s.2.1 + 2) (o, p, true) = some (.brk (o', p')) ∧ EvS d L on s.2.1 (lv + 1) o' := by
  have hlen : o.length = d.length := by have := congrArg List.length h.names; simpa using this
  have hroom := IQ s.2.1.length (UT L on lv) o 0
  rw [hlen] at hroom
  obtain ⟨s', h1, hc, t, h2, h3⟩ := Qb2 (fs := s.2.1) (idOf := fun f : X4 => f.1) (m := JN d) (act := UT L on lv) (nm := d.map (·.1)) (F := F) (out := fun x => x.1) (ch := fun x => x.2.2) (n := d.length) (by simp)
    (fun x hx => ⟨_, by rw [hF, hx, cond_true, JO hf he d 0 x.1 false rfl]; rfl, by rw [List.range_eq_range']⟩)
    (fun x hx => ⟨_, by rw [hF, hx, cond_false]⟩) (TF hS s.2.1 fun k hk => by unfold UT at hk; simp only [Bool.and_eq_true, beq_iff_eq] at hk; exact hk.1) (o := o) (List.length d * List.length s.2.1 + 2) (o, p, true) (IW h) (by simp only [cond_true]; omega)
  have hc' : s'.2.2 = false := hc
  have hb : F s' = .brk (s'.1, s'.2.1) := by rw [hF, hc']; rfl
  rw [hb] at h2
  cases h2
  exact ⟨s'.1, s'.2.1, h3, OA h h1⟩
theorem Si {R T : Type} {d : List Y5} {L : List Int} {on : Nat → Bool} {fs : List X4} {g : Y5 → List Int} {f : Nat → Y5 → List Qw → Rd R (List Qw) T} {e : Nat → List Qw → T} (hf : ∀ k a s, f k a s = .next (s ++ [(a.1, g a)])) (hg : ∀ j, j < d.length → on j = true → g (nth d j) = []) :
    Xm f e d 0 [] = .brk (e d.length (d.map fun a => (a.1, g a))) ∧ EvS d L on fs 0 (d.map fun a => (a.1, g a)) := by
  refine ⟨by rw [Ib (g := fun a => ((a.1, g a) : Qw)) hf]; simp, ?_, fun j _ hj => ?_, fun j hj hon => ?_⟩
  · rw [List.map_map]; rfl
  · by_cases hjl : j < d.length
    · have : nth (d.map fun a => ((a.1, g a) : Qw)) j = ((nth d j).1, g (nth d j)) := by simp [nth, List.getD, hjl]
      rw [this]; exact hg j hjl hj
    · have : nth (d.map fun a => ((a.1, g a) : Qw)) j = default := by simp [nth, List.getD, hjl]
      rw [this]; rfl
  · have : nth (d.map fun a => ((a.1, g a) : Qw)) j = ((nth d j).1, g (nth d j)) := by simp [nth, List.getD, hj]
    exact ⟨fun _ => false, by rw [this, hg j hj hon]; simp [sel]⟩
theorem Fu {d : List Y5} (h : ((Qu d)).2 = true) : List.length ((Qu d)).1 = List.length d ∧ List.length d ≤ 5 ∧ ∀ x, x ∈ ((Qu d)).1 → 0 ≤ x ∧ x ≤ 5 := by
  have hS : Qu d = ((Qu d).1, true) := Prod.ext rfl h
  obtain ⟨hv, hlen, hs, h0⟩ := T1 hS
  have h5 := Ff hv
  refine ⟨hlen, h5, fun x hx => ?_⟩
  obtain ⟨i, hi, rfl⟩ := JB hx
  refine ⟨h0 i, ?_⟩
  have hb := IU hS i
  omega
open GoE (enc wide)
def Fi (_ : Nat) (a0 : Y5) (s0 : (List ByteArray)) : Rd ((List ByteArray)) ((List ByteArray)) ((List ByteArray)) := (.next (s0 ++ [a0.1]))
def Fj (_ : Nat) (s0 : (List ByteArray)) : (List ByteArray) := s0
def Y1 (d : (List Y5)) : (List ByteArray) := (Out.on (Xm Fi Fj d 0 []) (fun y0 => y0))
theorem QV (d : (List Y5)) : ACalls Tryz.prog 110 [.h d] (.o 0 (Y1 d)) := by
 refine en Qb Tryz.func110 fun w0 F0 hG => ?_
 refine sn Qb [0, 2] [] (p0) ?_
 refine tn Qb [0, 2, 3] [] (p0) ?_
 refine Qe ?_
 refine tu Qb [(2, .e 0), (3, .one (.slc (.own true 384) 1 [])), (7, .h d), (8, .i (d.length : Int)), (9, .i 0)] [0] [] [] (pl 1 d p0) ?_
 refine wT 7 0 .sh d (fun hw1 hl2 => ?_)
 refine BM Fi Fj d [] (fun k0 s0 => [(3, .o 147201 s0), (9, .i ((k0 : Nat) : Int))]) [3, 9] (fun y0 => [(3, .o 147351 y0)]) [3, 7, 8, 9] (fun k0 s0 => List.length s0 ≤ k0) (Xy [(384, 147201)] (by kernel_rfl)) (by simp) (fun k0 s0 hk0 hI0 => ?_) (fun k0 s0 hk0 hI0 => ?_) (fun y0 hD0 => ?_)
 ·
  have hA0_0 := hI0.2
  obtain ⟨a0, hx0⟩ := Xk (l := d) (i := k0) hk0
  refine sn Qb [2, 3, 7, 8, 9, 10] [] (pe 0 (Qs (decide_eq_true (p := ((k0 : Nat) : Int) < (d.length : Int)) (by omega))) p0) ?_
  refine Qe ?_
  refine ckT ?_
  refine Qj ?_
  refine Qe ?_
  refine Qt ?_
  refine tn Qb [2, 3, 5, 7, 8, 9] [5] (pn 0 hx0 p0) ?_
  refine wT 3 0 (.own true 147201) s0 (fun hw3 hl4 => ?_)
  refine qu Qb [(3, .one (.slc (.own true 1088) 1 ((eL s0) ++ [[.s a0.1]])))] [3] [] [] (pa s0 [a0.1] p0) ?_
  refine eqn [(3, .o 1088 (s0 ++ [a0.1]))] [3] [] [] (by rw [show ((eL s0) ++ [[.s a0.1]]) = (eL (s0 ++ [a0.1])) from Ky (rfl) (rfl)]; first | done | kernel_rfl) ?_
  refine rn Qb [2, 3, 7, 8, 9] [] (pe 0 (Jb (Qv k0 (by omega))) p0) ?_
  exact Exists.intro (s0 ++ [a0.1]) (And.intro (Xy [(1088, 147201)] (by kernel_rfl)) ⟨Qz hx0 (rfl) hI0.1, by first | omega | (simp; omega) | simp⟩)
 ·
  have hA0_0 := hI0.2
  refine sn Qb [2, 3, 7, 8, 9, 10] [] (pe 0 (Qs (decide_eq_false (p := ((k0 : Nat) : Int) < (d.length : Int)) (by omega))) p0) ?_
  refine Qe ?_
  refine ckF ?_
  refine Q3 ?_
  exact Exists.intro _ (And.intro (Xy [(147201, 147351)] (by kernel_rfl)) (Xl hk0 (rfl) hI0.1))
 ·
  refine sn Qb [2] [] (p0) ?_
  refine Qf ?_
  exact po0 [] (Wf hD0 (rfl))
def Vx (v : ByteArray) (k0 : Nat) (a0 : ByteArray) (_ : Unit) : Rd (Int) (Unit) (Unit) := (bif (v.toList == a0.toList) then (.ret ((k0 : Nat) : Int)) else (.next ()))
def Um (_ : Nat) (_ : Unit) : Unit := ()
def Hu (s_ : (List ByteArray)) (v : ByteArray) : Int := (Out.on (Xm (Vx v) Um s_ 0 ()) (fun _ => -1))
theorem Mr (s_ : (List ByteArray)) (v : ByteArray) : ACalls Tryz.prog 166 [.h s_, .s v] (.i (Hu s_ v)) := by
 refine en Qb Tryz.func166 fun w0 F0 hG => ?_
 refine sn Qb [0, 1, 4] [] (p0) ?_
 refine Qe ?_
 refine tn Qb [0, 1, 4, 7, 8] [] (pl 1 s_ p0) ?_
 refine mz [(4, .i 0), (7, .i (s_.length : Int)), (8, .i 0)] [] [] [] ?_
 refine wT 0 0 .sh s_ (fun hw1 hl2 => ?_)
 refine Mq (Vx v) Um s_ () (fun k0 _ => [(8, .i ((k0 : Nat) : Int))]) [8] (fun _ => []) [0, 1, 7, 8] (Qd (by kernel_rfl)) (fun k0 s0 hk0 hI0 => ?_) (fun k0 s0 hk0 hI0 => ?_) (fun y0 hD0 => ?_)
 ·
  obtain ⟨a0, hx0⟩ := Xk (l := s_) (i := k0) hk0
  refine sn Qb [0, 1, 4, 7, 8, 9] [] (pe 0 (Qs (decide_eq_true (p := ((k0 : Nat) : Int) < (s_.length : Int)) (by omega))) p0) ?_
  refine Qe ?_
  refine ckT ?_
  refine Qj ?_
  refine Qe ?_
  refine Qt ?_
  refine tn Qb [0, 1, 4, 5, 7, 8] [] (p0) ?_
  refine tu Qb [(5, .i ((k0 : Nat) : Int)), (16, .b (v.toList == a0.toList))] [] [] [] (pn 3 hx0 p0) ?_
  refine ck (v.toList == a0.toList) (fun h3 => ?_) (fun h3 => ?_)
  ·
   refine sn Qb [0, 1, 4, 7, 8] [] (p0) ?_
   refine Qf ?_
   have hr4 : (Xm (Vx v) Um s_ 0 ()) = .ret ((k0 : Nat) : Int) := Z1 hx0 (Q8 h3 (rfl)) hI0
   exact pi [] (Gu hr4)
  ·
   refine Qj ?_
   refine rn Qb [0, 1, 4, 7, 8] [] (pe 0 (Jb (Qv k0 (by omega))) p0) ?_
   exact Exists.intro _ (And.intro (Qd (by kernel_rfl)) (Qz hx0 (Qn h3 (rfl)) hI0))
 ·
  refine sn Qb [0, 1, 4, 7, 8, 9] [] (pe 0 (Qs (decide_eq_false (p := ((k0 : Nat) : Int) < (s_.length : Int)) (by omega))) p0) ?_
  refine Qe ?_
  refine ckF ?_
  refine Q3 ?_
  exact Exists.intro _ (And.intro (Qd (by kernel_rfl)) (Xl hk0 (rfl) hI0))
 ·
  refine sn Qb [4] [] (p0) ?_
  refine Qf ?_
  exact pi [] (Wf hD0 (rfl))
def Xa (s_ : (List ByteArray)) (v : ByteArray) : Bool := decide ((Hu s_ v) ≥ (0 : Int))
theorem Cn (s_ : (List ByteArray)) (v : ByteArray) : ACalls Tryz.prog 138 [.h s_, .s v] (.b (Xa s_ v)) := by
 refine en Qb Tryz.func138 fun w0 F0 hG => ?_
 refine sn Qb [0, 1, 4] [] (p0) ?_
 refine tn Qb [4] [] (pc 2 (Mr s_ v) p0) ?_
 refine Qf ?_
 exact pb [] (show Xa s_ v = decide ((Hu s_ v) ≥ (0 : Int)) from rfl)
def Ue (x : (List Int)) (k0 : Nat) (s0 : Int) : Rd (Int) (Int) (Int) := (.next (max s0 (nth x (k0 + 1))))
def A8 (_ : Nat) (s0 : Int) : Int := s0
def Eu (x : (List Int)) : Int := (Out.on (Vz (Ue x) A8 (x.length - 1) 0 (nth x 0)) (fun y0 => y0))
theorem T3 (x : (List Int)) (hp : 0 < x.length) : ACalls Tryz.prog 167 [.h x] (.i (Eu x)) := by
 refine en Qb Tryz.func167 fun w0 F0 hG => ?_
 refine sn Qb [0, 2] [] (p0) ?_
 refine Qe ?_
 refine tn Qb [0, 2, 7] [] (pl 1 x (pe 2 (show .b (decide ((x.length : Int) < (1 : Int))) = .b false from Qs (decide_eq_false (by omega))) p0)) ?_
 refine ckF ?_
 refine Qj ?_
 refine wT 0 0 .sh x (fun hw2 hl3 => ?_)
 have hx1 := ng x 0
 refine tu Qb [(2, .i 0), (3, .i (nth x 0))] [] [] [] (pg 1 0 hx1 p0) ?_
 refine Qe ?_
 refine sn Qb [0, 2, 3, 4] [] (p0) ?_
 refine mz [(4, .i 1)] [] [] [] ?_
 refine Qal (Ue x) A8 (x.length - 1) (nth x 0) (fun k0 s0 => [(3, .i s0), (4, .i ((k0 + 1 : Nat) : Int))]) [3, 4] (fun y0 => [(3, .i y0)]) [0, 3, 4] (Qd (by kernel_rfl)) (fun k0 s0 hk0 hI0 => ?_) (fun k0 s0 hk0 hI0 => ?_) (fun y0 hD0 => ?_)
 ·
  refine Qe ?_
  refine sn Qb [0, 2, 3, 4, 15] [] (pl 2 x (pe 3 (Qs (decide_eq_true (p := ((k0 + 1 : Nat) : Int) < (x.length : Int)) (by omega))) p0)) ?_
  refine ckT ?_
  refine Qj ?_
  refine Qe ?_
  refine Qt ?_
  have hx4 := ng x (k0 + 1)
  refine qn Qb [0, 2, 3, 4] [] (pg 3 ((k0 + 1 : Nat) : Int) hx4 p0) ?_
  refine qu Qb [(3, .i (max s0 (nth x (k0 + 1)))), (4, .i ((k0 + 2 : Nat) : Int))] [3, 4] [] [] (pe 1 (show .i (IntKind.i64.wrap (((k0 + 1 : Nat) : Int) + 1)) = .i ((k0 + 2 : Nat) : Int) from Jb ((IntWalk.i64_in _ (by omega)).trans (by omega))) p0) ?_
  exact Exists.intro _ (And.intro (Qd (by kernel_rfl)) (K3 hk0 (rfl) hI0))
 ·
  refine Qe ?_
  refine sn Qb [0, 2, 3, 4, 15] [] (pl 2 x (pe 3 (Qs (decide_eq_false (p := ((k0 + 1 : Nat) : Int) < (x.length : Int)) (by omega))) p0)) ?_
  refine ckF ?_
  refine Q3 ?_
  exact Exists.intro _ (And.intro (Qd (by kernel_rfl)) (A5 hk0 (rfl) hI0))
 ·
  refine sn Qb [2] [] (p0) ?_
  refine Qf ?_
  exact pi [] (Wf hD0 (rfl))
def Km (d : (List Y5)) : Int := (bif ((!(((Qu d)).2)) || (((((Qu d)).1).length : Int) == (0 : Int))) then -1 else (Eu (((Qu d)).1)))
theorem Iv (d : (List Y5)) : ACalls Tryz.prog 139 [.h d] (.i (Km d)) := by
 refine en Qb Tryz.func139 fun w0 F0 hG => ?_
 refine sn Qb [0, 2] [] (p0) ?_
 refine tn Qb [2, 3, 4] [] (pc 1 (Rv d) p0) ?_
 refine Qe ?_
 refine Qe ?_
 refine mz [(2, .i 0), (3, .o 448 (((Qu d)).1)), (4, .b (((Qu d)).2))] [0] [] [] ?_
 refine jn [(16, .b ((!(((Qu d)).2)) || (((((Qu d)).1).length : Int) == (0 : Int))))] [4] [] [] (!(((Qu d)).2)) (fun h1 => ?_) (fun h1 => ?_) ?_
 ·
  have h1n : (((Qu d)).2) = false := Wz h1
  refine rn Qb [2, 3, 16] [] (pf 0 h1n (pe 1 (show .b (!false) = .b true from rfl) p0)) ?_
  exact ⟨rfl, Qd (by rw [h1]; first | done | kernel_rfl)⟩
 ·
  have h1n : (((Qu d)).2) = true := Je h1
  refine rn Qb [2, 3, 16] [] (pt 0 h1n (pe 1 (show .b (!true) = .b false from rfl) (pl 4 (((Qu d)).1) p0))) ?_
  exact ⟨rfl, Qd (by rw [h1]; first | done | kernel_rfl)⟩
 refine ck ((!(((Qu d)).2)) || (((((Qu d)).1).length : Int) == (0 : Int))) (fun h2 => ?_) (fun h2 => ?_)
 ·
  refine sn Qb [2, 3] [] (p0) ?_
  refine Qf ?_
  exact pi [] (Q8 h2 (rfl))
 ·
  have h2l : ((!(((Qu d)).2))) = false := Pq h2
  have h2ln : (((Qu d)).2) = true := Je h2l
  have h2r : ((((((Qu d)).1).length : Int) == (0 : Int))) = false := I0 h2
  have h2rd := Yb h2r
  refine Qj ?_
  refine sn Qb [2] [] (pc 1 (T3 (((Qu d)).1) (by first | omega | (simp_all; omega))) p0) ?_
  refine Qf ?_
  exact pi [] (Qn h2 (rfl))
def Un (s2_ : (List Int)) (k0 : Nat) (a0 : Int) (_ : Unit) : Rd (Bool) (Unit) (Unit) := (bif (a0 != (nth s2_ k0)) then (.ret false) else (.next ()))
def Hv (_ : Nat) (_ : Unit) : Unit := ()
def Va (s1_ : (List Int)) (s2_ : (List Int)) : Bool := (bif ((s1_.length : Int) != (s2_.length : Int)) then false else (Out.on (Xm (Un s2_) Hv s1_ 0 ()) (fun _ => true)))
theorem Rf (s1_ : (List Int)) (s2_ : (List Int)) : ACalls Tryz.prog 141 [.h s1_, .h s2_] (.b (Va s1_ s2_)) := by
 refine en Qb Tryz.func141 fun w0 F0 hG => ?_
 refine sn Qb [0, 1, 4] [] (p0) ?_
 refine Qe ?_
 refine tn Qb [0, 1, 4, 10] [] (pl 1 s1_ (pl 3 s2_ p0)) ?_
 refine ck ((s1_.length : Int) != (s2_.length : Int)) (fun h1 => ?_) (fun h1 => ?_)
 ·
  refine tu Qb [(4, .b false)] [] [] [] (p0) ?_
  refine Qf ?_
  exact pb [] (Q8 h1 (rfl))
 ·
  have h1d := We h1
  refine Qj ?_
  refine Qe ?_
  refine tu Qb [(4, .b false), (12, .i (s1_.length : Int)), (13, .i 0)] [] [] [] (pl 1 s1_ p0) ?_
  refine wT 0 0 .sh s1_ (fun hw2 hl3 => ?_)
  refine Mq (Un s2_) Hv s1_ () (fun k0 _ => [(13, .i ((k0 : Nat) : Int))]) [13] (fun _ => []) [0, 1, 12, 13] (Qd (by kernel_rfl)) (fun k0 s0 hk0 hI0 => ?_) (fun k0 s0 hk0 hI0 => ?_) (fun y0 hD0 => ?_)
  ·
   obtain ⟨a0, hx0⟩ := Xk (l := s1_) (i := k0) hk0
   refine su Qb [(14, .b true)] [] [] [] (pe 0 (Qs (decide_eq_true (p := ((k0 : Nat) : Int) < (s1_.length : Int)) (by omega))) p0) ?_
   refine Qe ?_
   refine ckT ?_
   refine Qj ?_
   refine Qe ?_
   refine Qt ?_
   refine sn Qb [0, 1, 4, 5, 12, 13] [] (p0) ?_
   refine wT 1 0 .sh s2_ (fun hw5 hl6 => ?_)
   have hx4 := ng s2_ k0
   refine tN Qb Yn [0, 1, 4, 12, 13, 24] [] (pn 2 hx0 (pn 6 hx4 p0)) ?_
   refine ck (a0 != (nth s2_ k0)) (fun h7 => ?_) (fun h7 => ?_)
   ·
    refine tu Qb [] [14] [] [] (p0) ?_
    refine Qf ?_
    have hr8 : (Xm (Un s2_) Hv s1_ 0 ()) = .ret false := Z1 hx0 (Q8 h7 (rfl)) hI0
    exact pb [] (Qn h1 (Gu hr8))
   ·
    have h7d := We h7
    refine Qj ?_
    refine qu Qb [(13, .i ((k0 + 1 : Nat) : Int))] [13, 14] [] [] (pe 0 (Jb (Qv k0 (by omega))) p0) ?_
    exact Exists.intro _ (And.intro (Qd (by kernel_rfl)) (Qz hx0 (Qn h7 (rfl)) hI0))
  ·
   refine sn Qb [0, 1, 4, 12, 13, 14] [] (pe 0 (Qs (decide_eq_false (p := ((k0 : Nat) : Int) < (s1_.length : Int)) (by omega))) p0) ?_
   refine Qe ?_
   refine ckF ?_
   refine Q3 ?_
   exact Exists.intro _ (And.intro (Qd (by kernel_rfl)) (Xl hk0 (rfl) hI0))
  ·
   refine sn Qb [4] [] (p0) ?_
   refine Qf ?_
   exact pb [] (Qn h1 (Wf hD0 (rfl)))
def Js (r : (List Qw)) (names : (List ByteArray)) (_ : Nat) (a0 : Y5) (s0 : (List Qw)) : Rd ((List Qw) × Int × Bool) ((List Qw)) ((List Qw)) := (bif (!(Xa names a0.1)) then (.next (s0 ++ [(a0.1, (Yi r a0.1))])) else (.next (s0 ++ [((a0.1, []) : Qw)])))
def Kv (_ : Nat) (s0 : (List Qw)) : (List Qw) := s0
def Vg (s_ : Q5) (d : (List Y5)) (names : (List ByteArray)) (k1 : Nat) (k3 : Nat) (a3 : Y5) (s3 : (List Qw) × Bool) : Rd (Rd (Rd ((List Qw) × Int × Bool) ((List Qw) × Int) ((List Qw) × Int)) ((List Qw) × Int × Bool) ((List Qw) × Int)) ((List Qw) × Bool) ((List Qw) × Bool) := (bif (((nth (((Qu d)).1) k3) != ((k1 : Nat) : Int)) || (!(Xa names a3.1))) then (.next (s3.1, s3.2)) else (bif (!(Va (Yt s_ a3.2 s3.1) ((nth s3.1 k3).2))) then (.next (List.set s3.1 k3 ((nth s3.1 k3).1, (Yt s_ a3.2 s3.1)), true)) else (.next (s3.1, s3.2))))
def A9 (_ : Nat) (s3 : (List Qw) × Bool) : (List Qw) × Bool := (s3.1, s3.2)
def Kw (s_ : Q5) (d : (List Y5)) (names : (List ByteArray)) (k1 : Nat) (s2 : (List Qw) × Int × Bool) : Rd (Rd ((List Qw) × Int × Bool) ((List Qw) × Int) ((List Qw) × Int)) ((List Qw) × Int × Bool) ((List Qw) × Int) := (bif s2.2.2 then (Out.on (Xm (Vg s_ d names k1) A9 d 0 (s2.1, false)) (fun y3 => (.next (y3.1, IntKind.i64.wrap (s2.2.1 + 1), y3.2)))) else (.brk (s2.1, s2.2.1)))
def Vh (s_ : Q5) (d : (List Y5)) (names : (List ByteArray)) (k1 : Nat) (s1 : (List Qw) × Int) : Rd ((List Qw) × Int × Bool) ((List Qw) × Int) ((List Qw) × Int) := (Out.on (E0 (Kw s_ d names k1) (List.length d * List.length s_.2.1 + 2) (s1.1, s1.2, true)) (fun y2 => (.next (y2.1, y2.2))))
def Ba (_ : Nat) (s1 : (List Qw) × Int) : (List Qw) × Int := (s1.1, s1.2)
def Zd (s_ : Q5) (d : (List Y5)) (r : (List Qw)) (names : (List ByteArray)) : (List Qw) × Int × Bool := (bif ((!(((Qu d)).2)) || (!(Xq s_))) then ([], 0, false) else (Out.on (Xm (Js r names) Kv d 0 []) (fun y0 => (Out.on (Vz (Vh s_ d names) Ba (Int.toNat ((Km d) + 1)) 0 (y0, 0)) (fun y1 => (y1.1, y1.2, true))))))
theorem PQ {B : Int} {x : List Int} (hx : ∀ a, a ∈ x → a ≤ B) (hB : 0 ≤ B) : ∀ (n k : Nat) (s : Int), s ≤ B → ∃ t, Vz (Ue x) A8 n k s = .brk t ∧ t ≤ B
  | 0, k, s, h => ⟨s, rfl, h⟩
  | n + 1, k, s, h => by
    obtain ⟨t, h1, h2⟩ := PQ hx hB n (k + 1) (max s (nth x (k + 1))) (by
      by_cases hk : k + 1 < x.length
      · have := hx _ (HX hk); omega
      · rw [Tq (by omega)]; omega)
    exact ⟨t, by simp only [Vz, Ue]; exact h1, h2⟩
theorem O1 {d : List Y5} (h : ((Qu d)).2 = true) : List.length ((Qu d)).1 = List.length d ∧ List.length d ≤ 5 ∧ Km d ≤ 5 := by
 obtain ⟨h1, h2, h3⟩ := Fu h
 refine ⟨h1, h2, ?_⟩
 unfold Km
 rw [h]
 simp only [Bool.not_true, Bool.false_or]
 cases hl : (((((Qu d)).1).length : Int) == (0 : Int)) with
 | true => simp only [cond_true]; omega
 | false =>
  simp only [cond_false]
  have hp : 0 < (((Qu d)).1).length := by have := Yb hl; omega
  unfold Eu
  obtain ⟨t, e, ht⟩ := PQ (B := 5) (x := ((Qu d)).1) (fun a ha => (h3 a ha).2) (by omega) ((((Qu d)).1).length - 1) 0 (nth ((Qu d)).1 0) (h3 _ (HX hp)).2
  rw [e]; exact ht
theorem PR (b : List Int) : ∀ (l : List Int) (k : Nat), l.length = (b.drop k).length → Out.on (Xm (Un b) Hv l k ()) (fun _ => true) = decide (l = b.drop k)
  | [], k, h => by
    have : b.drop k = [] := List.eq_nil_of_length_eq_zero (by rw [← h]; rfl)
    rw [this]; rfl
  | a :: l, k, h => by
    have hk : k < b.length := by simp only [List.length_cons, List.length_drop] at h; omega
    have hd : b.drop k = nth b k :: b.drop (k + 1) := by
      rw [List.drop_eq_getElem_cons hk, show nth b k = b[k] by simp [nth, List.getD, hk]]
    rw [hd] at h ⊢
    simp only [Xm, Un]
    by_cases e : a = nth b k
    · rw [show (a != nth b k) = false by simp [e], cond_false, PR b l (k + 1) (by simpa using h)]
      simp [e]
    · rw [show (a != nth b k) = true by simp [e], cond_true]
      simp [e, Out.on]
theorem Qax (a b : List Int) (h : a.length = b.length) : Va a b = decide (a = b) := by
 unfold Va
 rw [show ((a.length : Int) != (b.length : Int)) = false by simp [h], cond_false, PR b a 0 (by simpa using h), List.drop_zero]
theorem IX (a b : List Int) : Va a b = decide (a = b) := by
  by_cases h : a.length = b.length
  · exact Qax a b h
  · have hb : ((a.length : Int) != (b.length : Int)) = true := by simpa using fun e : (a.length : Int) = (b.length : Int) => h (by omega)
    unfold Va
    rw [hb, decide_eq_false (fun e => h (congrArg List.length e))]
    rfl
def onD (d : List Y5) (names : List ByteArray) (j : Nat) : Bool := Xa names (nth d j).1
theorem QW (s_ : Q5) (d : List Y5) (names : List ByteArray) (k1 : Nat) : OB s_ d (Qu d).1 (onD d names) (k1 : Int) (Vg s_ d names k1) := by
 intro k a o c hk
 have ha : nth d k = a := Lh hk
 unfold Vg UT onD
 rw [ha, IX]
 simp only [bne]
 cases (nth (Qu d).1 k == (k1 : Int)) <;> cases Xa names a.1 <;> rfl
section
variable {s_ : Q5} {d : List Y5} {names : List ByteArray} {k1 : Nat} {o : List Qw} {p : Int}
theorem Ev (hS : ((Qu d)).2 = true) (h : EvS d ((Qu d)).1 (onD d names) s_.2.1 (k1 : Int) o) : ∃ o' p', whl (Kw s_ d names k1) (List.length d * List.length s_.2.1 + 2) (o, p, true) = some (.brk (o', p')) ∧ EvS d ((Qu d)).1 (onD d names) s_.2.1 ((k1 : Int) + 1) o' :=
 PP (f := Vg s_ d names k1) (e := A9) (QW s_ d names k1) (fun _ _ => rfl) (fun _ => rfl) (Prod.ext rfl hS) h p
theorem AG (hS : ((Qu d)).2 = true) (h : EvS d ((Qu d)).1 (onD d names) s_.2.1 (((k1 : Nat)) : Int) o) : (whl (Kw s_ d names k1) (List.length d * List.length s_.2.1 + 2) (o, p, true)).isSome = true := by
 obtain ⟨o', p', h1, _⟩ := Ev (p := p) hS h
 rw [h1]; rfl
theorem Dq {y : List Qw × Int} (hS : ((Qu d)).2 = true) (h : EvS d ((Qu d)).1 (onD d names) s_.2.1 (((k1 : Nat)) : Int) o) (hy : E0 (Kw s_ d names k1) (List.length d * List.length s_.2.1 + 2) (o, p, true) = .brk y) : EvS d ((Qu d)).1 (onD d names) s_.2.1 ((((k1 + 1) : Nat)) : Int) y.1 := by
 obtain ⟨o', p', h1, h2⟩ := Ev (p := p) hS h
 unfold E0 at hy
 rw [h1] at hy
 have e : (o', p') = y := by simpa using hy
 rw [← e, Int.natCast_add]; exact h2
def M1 (r : List Qw) (names : List ByteArray) (a : Y5) : List Int := bif (!(Xa names a.1)) then (Yi r a.1) else []
theorem Vy {r : List Qw} (hy : Xm (Js r names) Kv d 0 [] = .brk o) : EvS d ((Qu d)).1 (onD d names) s_.2.1 (((0 : Nat)) : Int) o := by
 obtain ⟨h1, h2⟩ := Si (L := ((Qu d)).1) (on := onD d names) (fs := s_.2.1) (g := M1 r names) (f := Js r names) (e := Kv) (d := d) (fun k a s => by
  unfold Js M1
  cases Xa names a.1 <;> rfl) (fun j _ hj => by unfold onD at hj; unfold M1; rw [hj]; rfl)
 rw [h1] at hy
 have e : (d.map fun a => ((a.1, M1 r names a) : Qw)) = o := Out.brk.inj hy
 rw [← e]; exact h2
end
theorem T4 (s_ : Q5) (d : (List Y5)) (r : (List Qw)) (names : (List ByteArray)) : ACalls Tryz.prog 109 [.a [.h s_.1, .h s_.2.1, .i s_.2.2], .h d, .h r, .h names] (.tup [(false, [.o 0 (((Zd s_ d r names)).1)]), (false, [.i (((Zd s_ d r names)).2.1)]), (false, [.b (((Zd s_ d r names)).2.2)])]) := by
 refine en Qb Tryz.func109 fun w0 F0 hG => ?_
 refine sn Qb [1, 2, 3, 4, 8, 9, 10] [4] (p0) ?_
 refine tn Qb [1, 2, 3, 4, 8, 9, 10, 11, 12] [4] (pc 1 (Rv d) p0) ?_
 refine Qe ?_
 refine Qe ?_
 refine mz [(4, .p 4 0), (8, .e 0), (9, .i 0), (10, .b false), (11, .o 1600 (((Qu d)).1)), (12, .b (((Qu d)).2))] [0] [(4, [.h s_.1, .h s_.2.1, .i s_.2.2])] [] ?_
 refine jn [(34, .b ((!(((Qu d)).2)) || (!(Xq s_))))] [12] [] [] (!(((Qu d)).2)) (fun h1 => ?_) (fun h1 => ?_) ?_
 ·
  have h1n : (((Qu d)).2) = false := Wz h1
  refine ru Qb [(34, .b true)] [12] [] [] (pf 0 h1n (pe 1 (show .b (!false) = .b true from rfl) p0)) ?_
  exact ⟨rfl, Qd (by rw [h1]; first | done | kernel_rfl)⟩
 ·
  have h1n : (((Qu d)).2) = true := Je h1
  have h1nsf := O1 h1n
  refine rn Qb [1, 2, 3, 4, 8, 9, 10, 11, 34] [4] (pt 0 h1n (pe 1 (show .b (!true) = .b false from rfl) (pc 4 (Ci s_) p0))) ?_
  exact ⟨rfl, Qd (by rw [h1]; first | done | kernel_rfl)⟩
 refine ck ((!(((Qu d)).2)) || (!(Xq s_))) (fun h2 => ?_) (fun h2 => ?_)
 ·
  refine su Qb [] [34] [] [] (p0) ?_
  refine opn [(false, 8, 0, true, 384000, 2)] ?_
  refine Qf ?_
  exact pz [] (show Zd s_ d r names = _ from Q8 h2 (rfl)) (fun z => .tup [(false, [.o 0 z.1]), (false, [.i z.2.1]), (false, [.b z.2.2])])
 ·
  have h2l : ((!(((Qu d)).2))) = false := Pq h2
  have h2ln : (((Qu d)).2) = true := Je h2l
  have h2lnsf := O1 h2ln
  have h2r : ((!(Xq s_))) = false := I0 h2
  have h2rn : (Xq s_) = true := Je h2r
  refine Qj ?_
  refine sn Qb [1, 2, 3, 4, 8, 9, 10, 11, 13] [4] (p0) ?_
  refine Qe ?_
  refine tn Qb [1, 2, 3, 4, 8, 9, 10, 11, 13, 36, 37, 38] [4] (pl 1 d p0) ?_
  refine mz [(13, .one (.slc (.own true 2240) 2 [])), (36, .h d), (37, .i (d.length : Int)), (38, .i 0)] [34] [] [] ?_
  refine wT 1 0 .sh d (fun hw3 hl4 => ?_)
  refine BM (Js r names) Kv d [] (fun k0 s0 => [(13, .o 147208 s0), (38, .i ((k0 : Nat) : Int))]) [13, 38] (fun y0 => [(13, .o 147358 y0)]) [2, 13, 36, 37, 38] (fun k0 s0 => List.length s0 ≤ k0) (Xy [(2240, 147208)] (by kernel_rfl)) (by simp) (fun k0 s0 hk0 hI0 => ?_) (fun k0 s0 hk0 hI0 => ?_) (fun y0 hD0 => ?_)
  ·
   have hA0_0 := hI0.2
   obtain ⟨a0, hx0⟩ := Xk (l := d) (i := k0) hk0
   refine su Qb [(39, .b true)] [] [] [] (pe 0 (Qs (decide_eq_true (p := ((k0 : Nat) : Int) < (d.length : Int)) (by omega))) p0) ?_
   refine Qe ?_
   refine ckT ?_
   refine Qj ?_
   refine Qe ?_
   refine Qt ?_
   refine su Qb [(15, .p 15 0)] [39] [(15, [.s a0.1, .h a0.2])] [] (pn 0 hx0 p0) ?_
   refine su Qb [(16, .p 16 0)] [] [(16, [.s a0.1, .e 1])] [] (p0) ?_
   refine Qe ?_
   refine su Qb [(49, .b (!(Xa names a0.1)))] [] [] [] (pc 3 (Cn names a0.1) p0) ?_
   refine ck (!(Xa names a0.1)) (fun h5 => ?_) (fun h5 => ?_)
   ·
    have h5n : (Xa names a0.1) = false := Wz h5
    refine rn Qb [1, 2, 3, 4, 8, 9, 10, 11, 13, 16, 36, 37, 38] [4, 16] (pc 3 (Ck r a0.1) p0) ?_
    refine wT 13 0 (.own true 147208) s0 (fun hw6 hl7 => ?_)
    refine qu Qb [(13, .one (.slc (.own true 3712) 2 ((eL s0) ++ [[.s a0.1, .h (Yi r a0.1)]])))] [13, 15, 16, 49] [] [15, 16] (pa s0 [(a0.1, (Yi r a0.1))] p0) ?_
    refine eqn [(13, .o 3712 (s0 ++ [(a0.1, (Yi r a0.1))]))] [13] [] [] (by rw [show ((eL s0) ++ [[.s a0.1, .h (Yi r a0.1)]]) = (eL (s0 ++ [(a0.1, (Yi r a0.1))])) from Ky (rfl) (rfl)]; first | done | kernel_rfl) ?_
    refine ru Qb [(38, .i ((k0 + 1 : Nat) : Int))] [38] [] [] (pe 0 (Jb (Qv k0 (by omega))) p0) ?_
    exact Exists.intro (s0 ++ [(a0.1, (Yi r a0.1))]) (And.intro (Xy [(3712, 147208)] (by kernel_rfl)) ⟨Qz hx0 (Q8 h5 (rfl)) hI0.1, by first | omega | (simp; omega) | simp⟩)
   ·
    have h5n : (Xa names a0.1) = true := Je h5
    refine Qj ?_
    refine wT 13 0 (.own true 147208) s0 (fun hw8 hl9 => ?_)
    refine ru Qb [(13, .one (.slc (.own true 3712) 2 ((eL s0) ++ [[.s a0.1, .slc 1 []]])))] [13, 15, 16, 49] [] [15, 16] (pa s0 [((a0.1, []) : Qw)] p0) ?_
    refine eqn [(13, .o 3712 (s0 ++ [((a0.1, []) : Qw)]))] [13] [] [] (by rw [show ((eL s0) ++ [[.s a0.1, .slc 1 []]]) = (eL (s0 ++ [((a0.1, []) : Qw)])) from Ky (rfl) (rfl)]; first | done | kernel_rfl) ?_
    refine ru Qb [(38, .i ((k0 + 1 : Nat) : Int))] [38] [] [] (pe 0 (Jb (Qv k0 (by omega))) p0) ?_
    exact Exists.intro (s0 ++ [((a0.1, []) : Qw)]) (And.intro (Xy [(3712, 147208)] (by kernel_rfl)) ⟨Qz hx0 (Qn h5 (rfl)) hI0.1, by first | omega | (simp; omega) | simp⟩)
  ·
   have hA0_0 := hI0.2
   refine su Qb [(39, .b false)] [] [] [] (pe 0 (Qs (decide_eq_false (p := ((k0 : Nat) : Int) < (d.length : Int)) (by omega))) p0) ?_
   refine Qe ?_
   refine ckF ?_
   refine Q3 ?_
   exact Exists.intro _ (And.intro (Xy [(147208, 147358)] (by kernel_rfl)) (Xl hk0 (rfl) hI0.1))
  ·
   refine su Qb [(17, .i 0)] [] [] [] (p0) ?_
   refine Qe ?_
   refine su Qb [(18, .i 0)] [] [] [] (p0) ?_
   refine SM (Vh s_ d names) Ba (Int.toNat ((Km d) + 1)) (y0, 0) (fun k1 s1 => [(13, .o 147358 s1.1), (17, .i s1.2), (18, .i ((k1 : Nat) : Int))]) [13, 17, 18] (fun _ _ => []) [] (fun y1 => [(13, .o 147358 y1.1), (17, .i y1.2)]) [1, 3, 4, 11, 13, 17, 18] (fun _ => []) [4] (fun k1 s1 => EvS d ((Qu d)).1 (onD d names) s_.2.1 (((k1 : Nat)) : Int) s1.1 ∧ List.length s1.1 = List.length d) (Qd (by kernel_rfl)) ⟨(by first | exact Vy hD0 | exact Vy hD0.1 | exact Eh (fs := s_.2.1) (Vy hD0) | exact Eh (fs := s_.2.1) (Vy hD0.1)), (by first | exact Vy hD0 | exact Vy hD0.1 | exact Eh (fs := s_.2.1) (Vy hD0) | exact Eh (fs := s_.2.1) (Vy hD0.1))⟩ (fun k1 s1 hk1 hI1 => ?_) (fun k1 s1 hk1 hI1 => ?_) (fun y1 hD1 => ?_)
   ·
    have hA1_0 := hI1.2.1
    have hA1_1 := hI1.2.2
    refine Qe ?_
    refine su Qb [(63, .b true)] [] [] [] (pc 2 (Iv d) (pe 3 (Qs (decide_eq_true (p := ((k1 : Nat) : Int) ≤ (Km d)) (by omega))) p0)) ?_
    refine ckT ?_
    refine Qj ?_
    refine Qe ?_
    refine Qt ?_
    refine su Qb [(19, .b true)] [63] [] [] (p0) ?_
    refine blw (fun (s2 : (List Qw) × Int × Bool) => [(13, .o 147358 s2.1), (17, .i s2.2.1), (19, .b s2.2.2)]) [13, 17, 19] (fun s2 => []) [] (fun (y2 : (List Qw) × Int) => [(13, .o 147358 y2.1), (17, .i y2.2)]) [13, 17, 19] (fun y2 => []) [] (fun (k2 : Nat) (s2 : (List Qw) × Int × Bool) => whl (Kw s_ d names k1) k2 s2 = some (E0 (Kw s_ d names k1) (List.length d * List.length s_.2.1 + 2) (s1.1, s1.2, true)) ∧ List.length s2.1 = List.length d) (fun (y2 : (List Qw) × Int) => (E0 (Kw s_ d names k1) (List.length d * List.length s_.2.1 + 2) (s1.1, s1.2, true)) = .brk y2) (List.length d * List.length s_.2.1 + 2) (s1.1, s1.2, true) (Qd (by kernel_rfl)) ⟨Ca (AG (by assumption) (by assumption)), (by assumption)⟩ (fun _ h => Dn h.1) (fun k2 s2 hI2 => ?_) (fun y2 hD2 => ?_)
    ·
     have hA2_0 := hI2.2
     refine Qe ?_
     refine su Qb [(66, .b s2.2.2)] [] [] [] (p0) ?_
     refine ck s2.2.2 (fun h10 => ?_) (fun h10 => ?_)
     ·
      refine Qj ?_
      refine Qt ?_
      refine su Qb [(19, .b false)] [19, 66] [] [] (p0) ?_
      refine sn Qb [1, 3, 4, 8, 9, 10, 11, 13, 17, 18, 19] [4] (p0) ?_
      refine tn Qb [1, 3, 4, 8, 9, 10, 11, 13, 17, 18, 19, 69, 70, 71] [4] (pl 1 d p0) ?_
      refine mz [(17, .i (IntKind.i64.wrap (s2.2.1 + 1))), (69, .h d), (70, .i (d.length : Int)), (71, .i 0)] [17] [] [] ?_
      refine PG (Vg s_ d names k1) A9 d (s2.1, false) (fun k3 s3 => [(13, .o 147358 s3.1), (19, .b s3.2), (71, .i ((k3 : Nat) : Int))]) [13, 19, 71] (fun y3 => [(13, .o 147358 y3.1), (19, .b y3.2)]) [13, 19, 69, 70, 71] (fun _ s3 => List.length s3.1 = List.length s2.1) (fun y3 => List.length y3.1 = List.length s2.1) (Qd (by kernel_rfl)) (by simp) (fun k3 s3 hk3 hI3 => ?_) (fun k3 s3 hk3 hI3 => ?_) (fun y3 hD3 => ?_)
      ·
       have hA3_0 := hI3.2
       obtain ⟨a3, hx3⟩ := Xk (l := d) (i := k3) hk3
       refine su Qb [(72, .b true)] [] [] [] (pe 0 (Qs (decide_eq_true (p := ((k3 : Nat) : Int) < (d.length : Int)) (by omega))) p0) ?_
       refine Qe ?_
       refine ckT ?_
       refine Qj ?_
       refine Qe ?_
       refine Qt ?_
       refine sn Qb [1, 3, 4, 8, 9, 10, 11, 13, 17, 18, 19, 20, 21, 69, 70, 71] [4, 21] (pn 1 hx3 p0) ?_
       refine Qe ?_
       refine Qe ?_
       refine mz [(20, .i ((k3 : Nat) : Int)), (21, .p 21 0)] [72] [(21, [.s a3.1, .h a3.2])] [] ?_
       refine jn [(88, .b (((nth (((Qu d)).1) k3) != ((k1 : Nat) : Int)) || (!(Xa names a3.1))))] [] [] [] ((nth (((Qu d)).1) k3) != ((k1 : Nat) : Int)) (fun h11 => ?_) (fun h11 => ?_) ?_
       ·
        have h11d := Ll h11
        refine wT 11 0 (.own true 1600) (((Qu d)).1) (fun hw13 hl14 => ?_)
        have hx12 := ng (((Qu d)).1) k3
        refine ru Qb [(88, .b true)] [] [] [] (pN 2 hx12 (pt 5 h11 p0)) ?_
        exact ⟨rfl, Qd (by rw [h11]; first | done | kernel_rfl)⟩
       ·
        have h11d := We h11
        refine wT 11 0 (.own true 1600) (((Qu d)).1) (fun hw16 hl17 => ?_)
        have hx15 := ng (((Qu d)).1) k3
        refine ru Qb [(88, .b (!(Xa names a3.1)))] [] [] [] (pN 2 hx15 (pf 5 h11 (pc 10 (Cn names a3.1) p0))) ?_
        exact ⟨rfl, Qd (by rw [h11]; first | done | kernel_rfl)⟩
       refine ck (((nth (((Qu d)).1) k3) != ((k1 : Nat) : Int)) || (!(Xa names a3.1))) (fun h18 => ?_) (fun h18 => ?_)
       ·
        refine Q3 ?_
        refine rn Qb [1, 3, 4, 8, 9, 10, 11, 13, 17, 18, 19, 69, 70, 71] [4] (pe 0 (Jb (Qv k3 (by omega))) p0) ?_
        exact Exists.intro (s3.1, s3.2) (And.intro (Qd (by kernel_rfl)) ⟨Qz hx3 (Q8 h18 (rfl)) hI3.1, (by first | omega | (simp only [List.length_set]; omega))⟩)
       ·
        have h18l : (((nth (((Qu d)).1) k3) != ((k1 : Nat) : Int))) = false := Pq h18
        have h18ld := We h18l
        have h18r : ((!(Xa names a3.1))) = false := I0 h18
        have h18rn : (Xa names a3.1) = true := Je h18r
        refine Qj ?_
        refine su Qb [(22, .o 5952 (Yt s_ a3.2 s3.1))] [21, 88] [] [21] (pc 4 (Rb s_ a3.2 s3.1) p0) ?_
        refine wT 13 0 (.own true 147358) s3.1 (fun hw20 hl21 => ?_)
        have hx19 := ng s3.1 k3
        refine sn Qb [1, 3, 4, 8, 9, 10, 11, 13, 17, 18, 19, 20, 22, 69, 70, 71, 101] [4] (pN 3 hx19 (pc 6 (Rf (Yt s_ a3.2 s3.1) ((nth s3.1 k3).2)) p0)) ?_
        refine ck (!(Va (Yt s_ a3.2 s3.1) ((nth s3.1 k3).2))) (fun h22 => ?_) (fun h22 => ?_)
        ·
         have h22n : (Va (Yt s_ a3.2 s3.1) ((nth s3.1 k3).2)) = false := Wz h22
         refine tu Qb [(13, .one (.slc (.own true 147358) 2 (setRow (eL s3.1) k3 1 [.h (Yt s_ a3.2 s3.1)])))] [13, 20, 22] [] [] (pN 3 hx19 p0) ?_
         refine eqn [(13, .o 147358 (List.set s3.1 k3 ((nth s3.1 k3).1, (Yt s_ a3.2 s3.1))))] [13] [] [] (by rw [Z0 (y := ((nth s3.1 k3).1, (Yt s_ a3.2 s3.1))) hx19 rfl]; first | done | kernel_rfl) ?_
         refine ru Qb [(19, .b true)] [19] [] [] (p0) ?_
         refine ru Qb [(71, .i ((k3 + 1 : Nat) : Int))] [71] [] [] (pe 0 (Jb (Qv k3 (by omega))) p0) ?_
         exact Exists.intro (List.set s3.1 k3 ((nth s3.1 k3).1, (Yt s_ a3.2 s3.1)), true) (And.intro (Qd (by kernel_rfl)) ⟨Qz hx3 (Qn h18 (Q8 h22 (rfl))) hI3.1, (by first | omega | (simp only [List.length_set]; omega))⟩)
        ·
         have h22n : (Va (Yt s_ a3.2 s3.1) ((nth s3.1 k3).2)) = true := Je h22
         refine Qj ?_
         refine qu Qb [(71, .i ((k3 + 1 : Nat) : Int))] [20, 22, 71] [] [] (pe 0 (Jb (Qv k3 (by omega))) p0) ?_
         exact Exists.intro (s3.1, s3.2) (And.intro (Qd (by kernel_rfl)) ⟨Qz hx3 (Qn h18 (Qn h22 (rfl))) hI3.1, (by first | omega | (simp only [List.length_set]; omega))⟩)
      ·
       have hA3_0 := hI3.2
       refine su Qb [(72, .b false)] [] [] [] (pe 0 (Qs (decide_eq_false (p := ((k3 : Nat) : Int) < (d.length : Int)) (by omega))) p0) ?_
       refine Qe ?_
       refine ckF ?_
       refine Q3 ?_
       exact Exists.intro (s3.1, s3.2) (And.intro (Qd (by kernel_rfl)) ⟨Xl hk3 (rfl) hI3.1, by first | omega | (simp only [List.length_set]; omega)⟩)
      ·
       have hD3_0 := hD3.2
       exact Exists.intro (y3.1, IntKind.i64.wrap (s2.2.1 + 1), y3.2) (And.intro (Qd (by kernel_rfl)) ⟨wn hI2.1 (Q8 h10 (Wf hD3.1 (rfl))), (by first | omega | (simp only [List.length_set]; omega))⟩)
     ·
      refine Q3 ?_
      exact Exists.intro _ (And.intro (Qd (by kernel_rfl)) (wb hI2.1 (Qn h10 (rfl))))
    ·
     refine rn Qb [1, 3, 4, 8, 9, 10, 11, 13, 17, 18] [4] (pe 1 (Jb (Qv k1 (by omega))) p0) ?_
     exact Exists.intro (y2.1, y2.2) (And.intro (Qd (by kernel_rfl)) ⟨K3 hk1 (Wf hD2 (rfl)) hI1.1, (by first | exact Dq (by assumption) (by assumption) (by assumption) | exact Eh (fs := s_.2.1) (Dq (by assumption) (by assumption) (by assumption))), (by first | exact Dq (by assumption) (by assumption) (by assumption) | exact Eh (fs := s_.2.1) (Dq (by assumption) (by assumption) (by assumption)))⟩)
   ·
    have hA1_0 := hI1.2.1
    have hA1_1 := hI1.2.2
    refine Qe ?_
    refine su Qb [(63, .b false)] [] [] [] (pc 2 (Iv d) (pe 3 (Qs (decide_eq_false (p := ((k1 : Nat) : Int) ≤ (Km d)) (by omega))) p0)) ?_
    refine ckF ?_
    refine Q3 ?_
    exact Exists.intro _ (And.intro (Qd (by kernel_rfl)) (A5 hk1 (rfl) hI1.1))
   ·
    refine sn Qb [8, 9, 10] [] (p0) ?_
    refine Qf ?_
    exact pz [] (show Zd s_ d r names = _ from Qn h2 (Wf hD0 (Wf hD1 (rfl)))) (fun z => .tup [(false, [.o 0 z.1]), (false, [.i z.2.1]), (false, [.b z.2.2])])
def Jw (s_ : Q5) (d : (List Y5)) : (List Qw) × Bool := (((Zd s_ d [] (Y1 d))).1, ((Zd s_ d [] (Y1 d))).2.2)
theorem QY (s_ : Q5) (d : (List Y5)) : ACalls Tryz.prog 86 [.a [.h s_.1, .h s_.2.1, .i s_.2.2], .h d] (.tup [(false, [.o 0 (((Jw s_ d)).1)]), (false, [.b (((Jw s_ d)).2)])]) := by
 refine en Qb Tryz.func86 fun w0 F0 hG => ?_
 refine sn Qb [1, 2, 4, 5] [2] (p0) ?_
 refine tN Qb Yn [4, 5, 6, 8] [] (pc 3 (QV d) (pc 4 (AE (.cons (ArgLe.rfl _) ( .cons (ArgLe.rfl _) ( .cons (ArgLe.nil 2) ( .cons (ArgLe.rfl _) (.nil))))) (T4 s_ d [] (Y1 d))) p0)) ?_
 refine tu Qb [(4, .o 896 (((Zd s_ d [] (Y1 d))).1)), (5, .b (((Zd s_ d [] (Y1 d))).2.2))] [0, 1] [] [] (p0) ?_
 refine Qf ?_
 exact pz [] (show Jw s_ d = (((Zd s_ d [] (Y1 d))).1, ((Zd s_ d [] (Y1 d))).2.2) from rfl) (fun z => .tup [(false, [.o 0 z.1]), (false, [.b z.2])])
def Wv (_ : Nat) (a0 : Int) (s0 : Int) : Rd (Int) (Int) (Int) := (bif decide (a0 > s0) then (.next a0) else (.next s0))
def Ai (_ : Nat) (s0 : Int) : Int := s0
def Vv (d : (List Y5)) : Int := (Out.on (Xm Wv Ai (((Xu d)).1) 0 (-1)) (fun y0 => y0))
theorem Iw (d : (List Y5)) : ACalls Tryz.prog 128 [.h d] (.i (Vv d)) := by
 refine en Qb Tryz.func128 fun w0 F0 hG => ?_
 refine sn Qb [0, 2] [] (p0) ?_
 refine tn Qb [2, 3] [] (pc 1 (Lt d) p0) ?_
 refine tu Qb [(2, .i 0), (3, .o 576 (((Xu d)).1)), (5, .i (-1))] [0] [] [] (p0) ?_
 refine Qe ?_
 refine sn Qb [2, 3, 5, 6] [] (p0) ?_
 refine mz [(6, .i 0)] [] [] [] ?_
 refine wT 3 0 (.own true 576) (((Xu d)).1) (fun hw1 hl2 => ?_)
 refine Mq Wv Ai (((Xu d)).1) (-1) (fun k0 s0 => [(5, .i s0), (6, .i ((k0 : Nat) : Int))]) [5, 6] (fun y0 => [(5, .i y0)]) [3, 5, 6] (Qd (by kernel_rfl)) (fun k0 s0 hk0 hI0 => ?_) (fun k0 s0 hk0 hI0 => ?_) (fun y0 hD0 => ?_)
 ·
  obtain ⟨a0, hx0⟩ := Xk (l := ((Xu d)).1) (i := k0) hk0
  refine Qe ?_
  refine sn Qb [2, 3, 5, 6, 15] [] (pl 2 (((Xu d)).1) (pe 3 (Qs (decide_eq_true (p := ((k0 : Nat) : Int) < ((((Xu d)).1).length : Int)) (by omega))) p0)) ?_
  refine ckT ?_
  refine Qj ?_
  refine Qe ?_
  refine Qt ?_
  refine tn Qb [2, 3, 5, 6, 23] [] (pN 2 hx0 p0) ?_
  refine ck (decide (a0 > s0)) (fun h3 => ?_) (fun h3 => ?_)
  ·
   have h3d := of_decide_eq_true h3
   refine qu Qb [(5, .i a0)] [5] [] [] (pN 2 hx0 p0) ?_
   refine rn Qb [2, 3, 5, 6] [] (pe 1 (Jb (Qv k0 (by omega))) p0) ?_
   exact Exists.intro _ (And.intro (Qd (by kernel_rfl)) (Qz hx0 (Q8 h3 (rfl)) hI0))
  ·
   have h3d := of_decide_eq_false h3
   refine Qj ?_
   refine qu Qb [(6, .i ((k0 + 1 : Nat) : Int))] [6] [] [] (pe 1 (Jb (Qv k0 (by omega))) p0) ?_
   exact Exists.intro _ (And.intro (Qd (by kernel_rfl)) (Qz hx0 (Qn h3 (rfl)) hI0))
 ·
  refine Qe ?_
  refine sn Qb [2, 3, 5, 6, 15] [] (pl 2 (((Xu d)).1) (pe 3 (Qs (decide_eq_false (p := ((k0 : Nat) : Int) < ((((Xu d)).1).length : Int)) (by omega))) p0)) ?_
  refine ckF ?_
  refine Q3 ?_
  exact Exists.intro _ (And.intro (Qd (by kernel_rfl)) (Xl hk0 (rfl) hI0))
 ·
  refine sn Qb [2] [] (p0) ?_
  refine Qf ?_
  exact pi [] (Wf hD0 (rfl))
def Aj (_ : Nat) (a0 : Y5) (s0 : (List Qw)) : Rd ((List Qw) × Int × Bool) ((List Qw)) ((List Qw)) := (.next (s0 ++ [((a0.1, []) : Qw)]))
def Co (_ : Nat) (s0 : (List Qw)) : (List Qw) := s0
def Uo (s_ : Q5) (d : (List Y5)) (k1 : Nat) (k3 : Nat) (a3 : Y5) (s3 : (List Qw) × Bool) : Rd (Rd (Rd ((List Qw) × Int × Bool) ((List Qw) × Int) ((List Qw) × Int)) ((List Qw) × Int × Bool) ((List Qw) × Int)) ((List Qw) × Bool) ((List Qw) × Bool) := (bif ((nth (((Xu d)).1) k3) != ((k1 : Nat) : Int)) then (.next (s3.1, s3.2)) else (bif (!(V6 (Zm s_ a3.2 s3.1) ((nth s3.1 k3).2))) then (.next (List.set s3.1 k3 ((nth s3.1 k3).1, (Zm s_ a3.2 s3.1)), true)) else (.next (s3.1, s3.2))))
def Ew (_ : Nat) (s3 : (List Qw) × Bool) : (List Qw) × Bool := (s3.1, s3.2)
def Wn (s_ : Q5) (d : (List Y5)) (k1 : Nat) (s2 : (List Qw) × Int × Bool) : Rd (Rd ((List Qw) × Int × Bool) ((List Qw) × Int) ((List Qw) × Int)) ((List Qw) × Int × Bool) ((List Qw) × Int) := (bif s2.2.2 then (Out.on (Xm (Uo s_ d k1) Ew d 0 (s2.1, false)) (fun y3 => (.next (y3.1, IntKind.i64.wrap (s2.2.1 + 1), y3.2)))) else (.brk (s2.1, s2.2.1)))
def Ex (s_ : Q5) (d : (List Y5)) (k1 : Nat) (s1 : (List Qw) × Int) : Rd ((List Qw) × Int × Bool) ((List Qw) × Int) ((List Qw) × Int) := (Out.on (E0 (Wn s_ d k1) (List.length d * List.length s_.2.1 + 2) (s1.1, s1.2, true)) (fun y2 => (.next (y2.1, y2.2))))
def O2 (_ : Nat) (s1 : (List Qw) × Int) : (List Qw) × Int := (s1.1, s1.2)
def Ww (s_ : Q5) (d : (List Y5)) : (List Qw) × Int × Bool := (bif ((!(((Xu d)).2)) || (!(Xh s_))) then ([], 0, false) else (Out.on (Xm Aj Co d 0 []) (fun y0 => (Out.on (Vz (Ex s_ d) O2 (Int.toNat ((Vv d) + 1)) 0 (y0, 0)) (fun y1 => (y1.1, y1.2, true))))))
theorem AH {B : Int} : ∀ (x : List Int) (k : Nat) (s : Int), (∀ a, a ∈ x → a ≤ B) → s ≤ B → ∃ t, Xm Wv Ai x k s = .brk t ∧ t ≤ B
 | [], k, s, _, h => ⟨s, rfl, h⟩
 | a :: x, k, s, hx, h => by
  simp only [Xm, Wv]
  cases hc : decide (a > s) with
  | true => exact AH x (k + 1) a (fun b hb => hx b (List.mem_cons_of_mem _ hb)) (hx a (List.mem_cons_self ..))
  | false => exact AH x (k + 1) s (fun b hb => hx b (List.mem_cons_of_mem _ hb)) h
theorem O3 {d : List Y5} (h : ((Xu d)).2 = true) : List.length ((Xu d)).1 = List.length d ∧ List.length d ≤ 5 ∧ Vv d ≤ 5 := by
 have h' := h
 rw [H4] at h'
 obtain ⟨h1, h2, h3⟩ := Fu h'
 unfold Vv
 rw [H4]
 obtain ⟨t, e, ht⟩ := AH (B := 5) ((Qu d)).1 0 (-1) (fun a ha => (h3 a ha).2) (by omega)
 refine ⟨h1, h2, ?_⟩
 rw [e]; exact ht
theorem AI (s_ : Q5) (d : List Y5) (k1 : Nat) : OB s_ d (Qu d).1 (fun _ => true) (k1 : Int) (Uo s_ d k1) := by
 intro k a o c hk
 unfold Uo UT
 rw [CK, H4, ← WH]
 simp only [bne]
 cases (nth (Qu d).1 k == (k1 : Int)) <;> rfl
section
variable {s_ : Q5} {d : List Y5} {k1 : Nat} {o : List Qw} {p : Int}
theorem YV (hS : ((Xu d)).2 = true) (h : EvS d ((Xu d)).1 (fun _ => true) s_.2.1 (k1 : Int) o) : ∃ o' p', whl (Wn s_ d k1) (List.length d * List.length s_.2.1 + 2) (o, p, true) = some (.brk (o', p')) ∧ EvS d ((Xu d)).1 (fun _ => true) s_.2.1 ((k1 : Int) + 1) o' := by
 rw [H4] at hS h ⊢
 exact PP (f := Uo s_ d k1) (e := Ew) (AI s_ d k1) (fun _ _ => rfl) (fun _ => rfl) (Prod.ext rfl hS) h p
theorem OD (hS : ((Xu d)).2 = true) (h : EvS d ((Xu d)).1 (fun _ => true) s_.2.1 (((k1 : Nat)) : Int) o) : (whl (Wn s_ d k1) (List.length d * List.length s_.2.1 + 2) (o, p, true)).isSome = true := by
 obtain ⟨o', p', h1, _⟩ := YV (p := p) hS h
 rw [h1]; rfl
theorem Ij {y : List Qw × Int} (hS : ((Xu d)).2 = true) (h : EvS d ((Xu d)).1 (fun _ => true) s_.2.1 (((k1 : Nat)) : Int) o) (hy : E0 (Wn s_ d k1) (List.length d * List.length s_.2.1 + 2) (o, p, true) = .brk y) : EvS d ((Xu d)).1 (fun _ => true) s_.2.1 ((((k1 + 1) : Nat)) : Int) y.1 := by
 obtain ⟨o', p', h1, h2⟩ := YV (p := p) hS h
 unfold E0 at hy
 rw [h1] at hy
 have e : (o', p') = y := by simpa using hy
 rw [← e, Int.natCast_add]; exact h2
theorem U8 (hy : Xm Aj Co d 0 [] = .brk o) : EvS d ((Xu d)).1 (fun _ => true) s_.2.1 (((0 : Nat)) : Int) o := by
 obtain ⟨h1, h2⟩ := Si (L := ((Xu d)).1) (on := fun _ => true) (fs := s_.2.1) (g := fun _ => []) (f := Aj) (e := Co) (d := d) (fun k a s => rfl) (fun j _ hj => rfl)
 rw [h1] at hy
 have e : (d.map fun a => ((a.1, ([] : List Int)) : Qw)) = o := Out.brk.inj hy
 rw [← e]; exact h2
end
theorem WM (s_ : Q5) (d : (List Y5)) : ACalls Tryz.prog 94 [.a [.h s_.1, .h s_.2.1, .i s_.2.2], .h d] (.tup [(false, [.o 0 (((Ww s_ d)).1)]), (false, [.i (((Ww s_ d)).2.1)]), (false, [.b (((Ww s_ d)).2.2)])]) := by
 refine en Qb Tryz.func94 fun w0 F0 hG => ?_
 refine sn Qb [1, 2, 4, 5, 6] [2] (p0) ?_
 refine tn Qb [1, 2, 4, 5, 6, 7, 8] [2] (pc 1 (Lt d) p0) ?_
 refine Qe ?_
 refine Qe ?_
 refine mz [(2, .p 2 0), (4, .e 0), (5, .i 0), (6, .b false), (7, .o 1152 (((Xu d)).1)), (8, .b (((Xu d)).2))] [0] [(2, [.h s_.1, .h s_.2.1, .i s_.2.2])] [] ?_
 refine jn [(27, .b ((!(((Xu d)).2)) || (!(Xh s_))))] [8] [] [] (!(((Xu d)).2)) (fun h1 => ?_) (fun h1 => ?_) ?_
 ·
  have h1n : (((Xu d)).2) = false := Wz h1
  refine ru Qb [(27, .b true)] [8] [] [] (pf 0 h1n (pe 1 (show .b (!false) = .b true from rfl) p0)) ?_
  exact ⟨rfl, Qd (by rw [h1]; first | done | kernel_rfl)⟩
 ·
  have h1n : (((Xu d)).2) = true := Je h1
  have h1nsf := O3 h1n
  refine rn Qb [1, 2, 4, 5, 6, 7, 27] [2] (pt 0 h1n (pe 1 (show .b (!true) = .b false from rfl) (pc 4 (K9 s_) p0))) ?_
  exact ⟨rfl, Qd (by rw [h1]; first | done | kernel_rfl)⟩
 refine ck ((!(((Xu d)).2)) || (!(Xh s_))) (fun h2 => ?_) (fun h2 => ?_)
 ·
  refine sn Qb [1, 2, 4, 5, 6, 7] [2] (p0) ?_
  refine Qf ?_
  exact pz [] (show Ww s_ d = _ from Q8 h2 (rfl)) (fun z => .tup [(false, [.o 0 z.1]), (false, [.i z.2.1]), (false, [.b z.2.2])])
 ·
  have h2l : ((!(((Xu d)).2))) = false := Pq h2
  have h2ln : (((Xu d)).2) = true := Je h2l
  have h2lnsf := O3 h2ln
  have h2r : ((!(Xh s_))) = false := I0 h2
  have h2rn : (Xh s_) = true := Je h2r
  refine Qj ?_
  refine sn Qb [1, 2, 4, 5, 6, 7, 9] [2] (p0) ?_
  refine Qe ?_
  refine tn Qb [1, 2, 4, 5, 6, 7, 9, 10] [2] (p0) ?_
  refine mz [(9, .one (.slc (.own true 1856) 2 [])), (10, .i 0)] [27] [] [] ?_
  refine wT 1 0 .sh d (fun hw3 hl4 => ?_)
  refine BM Aj Co d [] (fun k0 s0 => [(9, .o 147206 s0), (10, .i ((k0 : Nat) : Int))]) [9, 10] (fun y0 => [(9, .o 147356 y0)]) [9, 10] (fun k0 s0 => List.length s0 ≤ k0) (Xy [(1856, 147206)] (by kernel_rfl)) (by simp) (fun k0 s0 hk0 hI0 => ?_) (fun k0 s0 hk0 hI0 => ?_) (fun y0 hD0 => ?_)
  ·
   have hA0_0 := hI0.2
   obtain ⟨a0, hx0⟩ := Xk (l := d) (i := k0) hk0
   refine Qe ?_
   refine su Qb [(33, .b true)] [] [] [] (pl 2 d (pe 3 (Qs (decide_eq_true (p := ((k0 : Nat) : Int) < (d.length : Int)) (by omega))) p0)) ?_
   refine ckT ?_
   refine Qj ?_
   refine Qe ?_
   refine Qt ?_
   refine wT 9 0 (.own true 147206) s0 (fun hw5 hl6 => ?_)
   refine ru Qb [(9, .one (.slc (.own true 2880) 2 ((eL s0) ++ [[.s a0.1, .slc 1 []]])))] [9, 33] [] [] (pn 3 hx0 (pa s0 [((a0.1, []) : Qw)] p0)) ?_
   refine eqn [(9, .o 2880 (s0 ++ [((a0.1, []) : Qw)]))] [9] [] [] (by rw [show ((eL s0) ++ [[.s a0.1, .slc 1 []]]) = (eL (s0 ++ [((a0.1, []) : Qw)])) from Ky (rfl) (rfl)]; first | done | kernel_rfl) ?_
   refine rn Qb [1, 2, 4, 5, 6, 7, 9, 10] [2] (pe 1 (Jb (Qv k0 (by omega))) p0) ?_
   exact Exists.intro (s0 ++ [((a0.1, []) : Qw)]) (And.intro (Xy [(2880, 147206)] (by kernel_rfl)) ⟨Qz hx0 (rfl) hI0.1, by first | omega | (simp; omega) | simp⟩)
  ·
   have hA0_0 := hI0.2
   refine Qe ?_
   refine su Qb [(33, .b false)] [] [] [] (pl 2 d (pe 3 (Qs (decide_eq_false (p := ((k0 : Nat) : Int) < (d.length : Int)) (by omega))) p0)) ?_
   refine ckF ?_
   refine Q3 ?_
   exact Exists.intro _ (And.intro (Xy [(147206, 147356)] (by kernel_rfl)) (Xl hk0 (rfl) hI0.1))
  ·
   refine su Qb [(11, .i 0)] [] [] [] (p0) ?_
   refine Qe ?_
   refine su Qb [(12, .i 0)] [] [] [] (p0) ?_
   refine SM (Ex s_ d) O2 (Int.toNat ((Vv d) + 1)) (y0, 0) (fun k1 s1 => [(9, .o 147356 s1.1), (11, .i s1.2), (12, .i ((k1 : Nat) : Int))]) [9, 11, 12] (fun _ _ => []) [] (fun y1 => [(9, .o 147356 y1.1), (11, .i y1.2)]) [1, 2, 7, 9, 11, 12] (fun _ => []) [2] (fun k1 s1 => EvS d ((Xu d)).1 (fun _ => true) s_.2.1 (((k1 : Nat)) : Int) s1.1 ∧ List.length s1.1 = List.length d) (Qd (by kernel_rfl)) ⟨(by first | exact U8 hD0 | exact U8 hD0.1 | exact Eh (fs := s_.2.1) (U8 hD0) | exact Eh (fs := s_.2.1) (U8 hD0.1)), (by first | exact U8 hD0 | exact U8 hD0.1 | exact Eh (fs := s_.2.1) (U8 hD0) | exact Eh (fs := s_.2.1) (U8 hD0.1))⟩ (fun k1 s1 hk1 hI1 => ?_) (fun k1 s1 hk1 hI1 => ?_) (fun y1 hD1 => ?_)
   ·
    have hA1_0 := hI1.2.1
    have hA1_1 := hI1.2.2
    refine Qe ?_
    refine su Qb [(49, .b true)] [] [] [] (pc 2 (Iw d) (pe 3 (Qs (decide_eq_true (p := ((k1 : Nat) : Int) ≤ (Vv d)) (by omega))) p0)) ?_
    refine ckT ?_
    refine Qj ?_
    refine Qe ?_
    refine Qt ?_
    refine su Qb [(13, .b true)] [49] [] [] (p0) ?_
    refine blw (fun (s2 : (List Qw) × Int × Bool) => [(9, .o 147356 s2.1), (11, .i s2.2.1), (13, .b s2.2.2)]) [9, 11, 13] (fun s2 => []) [] (fun (y2 : (List Qw) × Int) => [(9, .o 147356 y2.1), (11, .i y2.2)]) [9, 11, 13] (fun y2 => []) [] (fun (k2 : Nat) (s2 : (List Qw) × Int × Bool) => whl (Wn s_ d k1) k2 s2 = some (E0 (Wn s_ d k1) (List.length d * List.length s_.2.1 + 2) (s1.1, s1.2, true)) ∧ List.length s2.1 = List.length d) (fun (y2 : (List Qw) × Int) => (E0 (Wn s_ d k1) (List.length d * List.length s_.2.1 + 2) (s1.1, s1.2, true)) = .brk y2) (List.length d * List.length s_.2.1 + 2) (s1.1, s1.2, true) (Qd (by kernel_rfl)) ⟨Ca (OD (by assumption) (by assumption)), (by assumption)⟩ (fun _ h => Dn h.1) (fun k2 s2 hI2 => ?_) (fun y2 hD2 => ?_)
    ·
     have hA2_0 := hI2.2
     refine Qe ?_
     refine su Qb [(52, .b s2.2.2)] [] [] [] (p0) ?_
     refine ck s2.2.2 (fun h7 => ?_) (fun h7 => ?_)
     ·
      refine Qj ?_
      refine Qt ?_
      refine su Qb [(13, .b false)] [13, 52] [] [] (p0) ?_
      refine sn Qb [1, 2, 4, 5, 6, 7, 9, 11, 12, 13] [2] (p0) ?_
      refine tn Qb [1, 2, 4, 5, 6, 7, 9, 11, 12, 13, 14] [2] (p0) ?_
      refine mz [(11, .i (IntKind.i64.wrap (s2.2.1 + 1))), (14, .i 0)] [11] [] [] ?_
      refine PG (Uo s_ d k1) Ew d (s2.1, false) (fun k3 s3 => [(9, .o 147356 s3.1), (13, .b s3.2), (14, .i ((k3 : Nat) : Int))]) [9, 13, 14] (fun y3 => [(9, .o 147356 y3.1), (13, .b y3.2)]) [9, 13, 14] (fun _ s3 => List.length s3.1 = List.length s2.1) (fun y3 => List.length y3.1 = List.length s2.1) (Qd (by kernel_rfl)) (by simp) (fun k3 s3 hk3 hI3 => ?_) (fun k3 s3 hk3 hI3 => ?_) (fun y3 hD3 => ?_)
      ·
       have hA3_0 := hI3.2
       obtain ⟨a3, hx3⟩ := Xk (l := d) (i := k3) hk3
       refine Qe ?_
       refine su Qb [(58, .b true)] [] [] [] (pl 2 d (pe 3 (Qs (decide_eq_true (p := ((k3 : Nat) : Int) < (d.length : Int)) (by omega))) p0)) ?_
       refine ckT ?_
       refine Qj ?_
       refine Qe ?_
       refine Qt ?_
       refine Qe ?_
       refine wT 7 0 (.own true 1152) (((Xu d)).1) (fun hw9 hl10 => ?_)
       have hx8 := ng (((Xu d)).1) k3
       refine sn Qb [1, 2, 4, 5, 6, 7, 9, 11, 12, 13, 14, 66] [2] (pN 2 hx8 p0) ?_
       refine ck ((nth (((Xu d)).1) k3) != ((k1 : Nat) : Int)) (fun h11 => ?_) (fun h11 => ?_)
       ·
        have h11d := Ll h11
        refine Q3 ?_
        refine qn Qb [1, 2, 4, 5, 6, 7, 9, 11, 12, 13, 14] [2] (pe 1 (Jb (Qv k3 (by omega))) p0) ?_
        exact Exists.intro (s3.1, s3.2) (And.intro (Qd (by kernel_rfl)) ⟨Qz hx3 (Q8 h11 (rfl)) hI3.1, (by first | omega | (simp only [List.length_set]; omega))⟩)
       ·
        have h11d := We h11
        refine Qj ?_
        refine tN Qb Yn [1, 2, 4, 5, 6, 7, 9, 11, 12, 13, 14, 15] [2] (pn 3 hx3 (pc 7 (Rc s_ a3.2 s3.1) p0)) ?_
        refine wT 9 0 (.own true 147356) s3.1 (fun hw13 hl14 => ?_)
        have hx12 := ng s3.1 k3
        refine tu Qb [(15, .o 4736 (Zm s_ a3.2 s3.1)), (82, .b (!(V6 (Zm s_ a3.2 s3.1) ((nth s3.1 k3).2))))] [58] [] [] (pN 3 hx12 (pc 6 (O0 (Zm s_ a3.2 s3.1) ((nth s3.1 k3).2)) p0)) ?_
        refine ck (!(V6 (Zm s_ a3.2 s3.1) ((nth s3.1 k3).2))) (fun h15 => ?_) (fun h15 => ?_)
        ·
         have h15n : (V6 (Zm s_ a3.2 s3.1) ((nth s3.1 k3).2)) = false := Wz h15
         refine su Qb [(9, .one (.slc (.own true 147356) 2 (setRow (eL s3.1) k3 1 [.h (Zm s_ a3.2 s3.1)])))] [9, 15, 82] [] [] (pN 3 hx12 p0) ?_
         refine eqn [(9, .o 147356 (List.set s3.1 k3 ((nth s3.1 k3).1, (Zm s_ a3.2 s3.1))))] [9] [] [] (by rw [Z0 (y := ((nth s3.1 k3).1, (Zm s_ a3.2 s3.1))) hx12 rfl]; first | done | kernel_rfl) ?_
         refine ru Qb [(13, .b true)] [13] [] [] (p0) ?_
         refine rn Qb [1, 2, 4, 5, 6, 7, 9, 11, 12, 13, 14] [2] (pe 1 (Jb (Qv k3 (by omega))) p0) ?_
         exact Exists.intro (List.set s3.1 k3 ((nth s3.1 k3).1, (Zm s_ a3.2 s3.1)), true) (And.intro (Qd (by kernel_rfl)) ⟨Qz hx3 (Qn h11 (Q8 h15 (rfl))) hI3.1, (by first | omega | (simp only [List.length_set]; omega))⟩)
        ·
         have h15n : (V6 (Zm s_ a3.2 s3.1) ((nth s3.1 k3).2)) = true := Je h15
         refine Qj ?_
         refine rn Qb [1, 2, 4, 5, 6, 7, 9, 11, 12, 13, 14] [2] (pe 1 (Jb (Qv k3 (by omega))) p0) ?_
         exact Exists.intro (s3.1, s3.2) (And.intro (Qd (by kernel_rfl)) ⟨Qz hx3 (Qn h11 (Qn h15 (rfl))) hI3.1, (by first | omega | (simp only [List.length_set]; omega))⟩)
      ·
       have hA3_0 := hI3.2
       refine Qe ?_
       refine su Qb [(58, .b false)] [] [] [] (pl 2 d (pe 3 (Qs (decide_eq_false (p := ((k3 : Nat) : Int) < (d.length : Int)) (by omega))) p0)) ?_
       refine ckF ?_
       refine Q3 ?_
       exact Exists.intro (s3.1, s3.2) (And.intro (Qd (by kernel_rfl)) ⟨Xl hk3 (rfl) hI3.1, by first | omega | (simp only [List.length_set]; omega)⟩)
      ·
       have hD3_0 := hD3.2
       exact Exists.intro (y3.1, IntKind.i64.wrap (s2.2.1 + 1), y3.2) (And.intro (Qd (by kernel_rfl)) ⟨wn hI2.1 (Q8 h7 (Wf hD3.1 (rfl))), (by first | omega | (simp only [List.length_set]; omega))⟩)
     ·
      refine Q3 ?_
      exact Exists.intro _ (And.intro (Qd (by kernel_rfl)) (wb hI2.1 (Qn h7 (rfl))))
    ·
     refine rn Qb [1, 2, 4, 5, 6, 7, 9, 11, 12] [2] (pe 1 (Jb (Qv k1 (by omega))) p0) ?_
     exact Exists.intro (y2.1, y2.2) (And.intro (Qd (by kernel_rfl)) ⟨K3 hk1 (Wf hD2 (rfl)) hI1.1, (by first | exact Ij (by assumption) (by assumption) (by assumption) | exact Eh (fs := s_.2.1) (Ij (by assumption) (by assumption) (by assumption))), (by first | exact Ij (by assumption) (by assumption) (by assumption) | exact Eh (fs := s_.2.1) (Ij (by assumption) (by assumption) (by assumption)))⟩)
   ·
    have hA1_0 := hI1.2.1
    have hA1_1 := hI1.2.2
    refine Qe ?_
    refine su Qb [(49, .b false)] [] [] [] (pc 2 (Iw d) (pe 3 (Qs (decide_eq_false (p := ((k1 : Nat) : Int) ≤ (Vv d)) (by omega))) p0)) ?_
    refine ckF ?_
    refine Q3 ?_
    exact Exists.intro _ (And.intro (Qd (by kernel_rfl)) (A5 hk1 (rfl) hI1.1))
   ·
    refine sn Qb [4, 5, 6] [] (p0) ?_
    refine Qf ?_
    exact pz [] (show Ww s_ d = _ from Qn h2 (Wf hD0 (Wf hD1 (rfl)))) (fun z => .tup [(false, [.o 0 z.1]), (false, [.i z.2.1]), (false, [.b z.2.2])])
def H6 (s_ : Q5) (d : (List Y5)) : (List Qw) × Bool := (((Ww s_ d)).1, ((Ww s_ d)).2.2)
theorem QZ (s_ : Q5) (d : (List Y5)) : ACalls Tryz.prog 71 [.a [.h s_.1, .h s_.2.1, .i s_.2.2], .h d] (.tup [(false, [.o 0 (((H6 s_ d)).1)]), (false, [.b (((H6 s_ d)).2)])]) := by
 refine en Qb Tryz.func71 fun w0 F0 hG => ?_
 refine sn Qb [1, 2, 4, 5] [2] (p0) ?_
 refine tn Qb [4, 5, 6, 8] [] (pc 2 (WM s_ d) p0) ?_
 refine tu Qb [(4, .o 768 (((Ww s_ d)).1)), (5, .b (((Ww s_ d)).2.2))] [0, 1] [] [] (p0) ?_
 refine Qf ?_
 exact pz [] (show H6 s_ d = (((Ww s_ d)).1, ((Ww s_ d)).2.2) from rfl) (fun z => .tup [(false, [.o 0 z.1]), (false, [.b z.2])])
end Go.Proofs.YtockoklfegpgeaaGreat
namespace Go.Proofs.YtockoklfegpgeaaGreat
open Go.RowKit
theorem WN (v : ByteArray) (l : List ByteArray) : Xa l v = true ↔ v ∈ l := by
  unfold Xa Hu
  have key : ∀ (l : List ByteArray) (k : Nat), (0 : Int) ≤ ((Xm (Vx v) Um l k ()).on fun _ => -1) ↔ v ∈ l := by
    intro l
    induction l with
    | nil => intro k; simp [Xm, Out.on]
    | cons a l ih =>
      intro k
      simp only [Xm, Vx]
      have hab : (v.toList == a.toList) = decide (v = a) := YQ
      cases hc : (v.toList == a.toList) with
      | true =>
        obtain rfl : v = a := by rw [hc] at hab; exact of_decide_eq_true hab.symm
        simp [Out.on]
      | false =>
        have h : v ≠ a := by rw [hc] at hab; exact of_decide_eq_false hab.symm
        simp only [cond_false]
        refine (ih (k + 1)).trans ?_
        simp [h]
  exact decide_eq_true_iff.trans (key l 0)
theorem AJ (d : List Y5) : Y1 d = d.map (·.1) := by
  unfold Y1
  rw [Ib (f := Fi) (g := fun a : Y5 => a.1) (fun _ _ _ => rfl)]
  simp [Out.on, Fj]
theorem Lw {d : List Y5} {i : Nat} {a : Y5} (h : d[i]? = some a) : Xa (Y1 d) a.1 = true := by
  rw [WN, AJ]
  exact List.mem_map.2 ⟨a, List.mem_of_getElem? h, rfl⟩
/-! ### the greatest stratum -/
theorem CL (x : List Int) : ∀ (n k : Nat) (s : Int), k + 1 + n = x.length → Vz (Ue x) A8 n k s = .brk ((x.drop (k + 1)).foldl max s)
  | 0, k, s, h => by rw [List.drop_eq_nil_of_le (by omega)]; rfl
  | n + 1, k, s, h => by
    have hg : x[k + 1]? = some (nth x (k + 1)) := Ho (by omega)
    rw [ZW hg]
    simp only [Vz, Ue, List.foldl_cons]
    exact CL x n (k + 1) _ (by omega)
theorem T5 : ∀ (x : List Int) (k : Nat) (s : Int), Xm Wv Ai x k s = .brk (x.foldl max s)
  | [], k, s => rfl
  | a :: x, k, s => by
    simp only [Xm, Wv, List.foldl_cons]
    by_cases h : a > s
    · rw [decide_eq_true h, cond_true, show max s a = a by omega]; exact T5 x (k + 1) a
    · rw [decide_eq_false h, cond_false, show max s a = s by omega]; exact T5 x (k + 1) s
theorem JP (d : List Y5) : Vv d = Km d := by
  unfold Vv Km
  rw [H4, T5]
  simp only [Out.on]
  cases hs : (Qu d).2 with
  | false =>
    have : (Qu d).1 = [] := by
      unfold Qu at hs ⊢
      cases hv : Jq d with
      | false => rfl
      | true =>
        rw [hv] at hs
        simp only [Bool.not_true, cond_false] at hs ⊢
        have h5 := Ff hv
        have hw := Gp (d := d) (f := Ui d) (e := Uj) (F := Vt d) (fun _ _ _ => rfl) (fun _ _ => rfl) (fun _ => rfl) (by omega) (d.length * d.length + 3) (List.replicate d.length 0) true (A7 _).1 (A7 _).2
        have hsome : (P5 (J3 d) d.length d.length (d.length * d.length + 3) (true, List.replicate d.length 0)).isSome = true := by
          have := D3 d h5
          rw [Int.toNat_natCast, hw, Option.isSome_map] at this
          exact this
        obtain ⟨r, hr⟩ := Option.isSome_iff_exists.1 hsome
        unfold E0 at hs ⊢
        rw [Int.toNat_natCast, hw, hr] at hs ⊢
        cases r with
        | none => rfl
        | some M => simp [TY, Out.on] at hs
    rw [this]; rfl
  | true =>
    obtain ⟨h1, h2, h3⟩ := Fu hs
    simp only [Bool.not_true, Bool.false_or]
    generalize (Qu d).1 = x at h3
    cases x with
    | nil => rfl
    | cons a x =>
      have h0 := (h3 a (List.mem_cons_self ..)).1
      have e : ((((a :: x).length : Nat) : Int) == (0 : Int)) = false := by
        rw [beq_eq_false_iff_ne, List.length_cons]; omega
      rw [e, cond_false]
      unfold Eu
      rw [CL _ _ _ _ (by simp; omega)]
      simp only [Out.on, List.foldl_cons, Nat.zero_add, List.drop_succ_cons, List.drop_zero]
      have e2 : nth (a :: x) 0 = a := rfl
      rw [show max (-1) a = a by omega, e2]
/-! ### the evaluation -/
theorem Qay (s : Q5) (d : List Y5) (k1 k : Nat) (a : Y5) (t : List Qw × Bool) (h : d[k]? = some a) : Uo s d k1 k a t = Vg s d (Y1 d) k1 k a t := by
  unfold Uo Vg
  rw [Lw h, H4, ← WH, CK, IX]
  simp
theorem Qaz (s : Q5) (d : List Y5) (k1 : Nat) : Wn s d k1 = Kw s d (Y1 d) k1 := by
  funext t
  unfold Wn Kw
  rw [E3 (f := Uo s d k1) (g := Vg s d (Y1 d) k1) (e := Ew) (e' := A9) (fun _ _ => rfl) d 0 _ (fun i a t h => by rw [Nat.zero_add]; exact Qay s d k1 i a t h)]
theorem Qa0 (s : Q5) (d : List Y5) : Ww s d = Zd s d [] (Y1 d) := by
  unfold Ww Zd
  rw [H4, JF, JP]
  rw [E3 (f := Aj) (g := Js [] (Y1 d)) (e := Co) (e' := Kv) (fun _ _ => rfl) d 0 _ (fun i a t h => by unfold Aj Js; rw [Lw h]; rfl)]
  congr 1
  congr 1
  funext y
  rw [show Ex s d = Vh s d (Y1 d) from by funext k t; unfold Ex Vh; rw [Qaz]]
  rfl
theorem AK (s : Q5) (d : List Y5) : H6 s d = Jw s d := by
  unfold H6 Jw
  rw [Qa0]
theorem WO {s : Q5} {d : List Y5} {names : List ByteArray} {r : List Qw} (h : (Zd s d r names).2.2 = true) : List.length d ≤ 5 ∧ Xq s = true ∧ (Zd s d r names).1.map (·.1) = d.map (·.1) ∧ ∀ j, j < d.length → onD d names j = true → ∃ p : X4 → Bool, (nth (Zd s d r names).1 j).2 = sel s.2.1 (fun f => f.1) p := by
  unfold Zd at h ⊢
  cases hc : ((!(((Qu d)).2)) || (!(Xq s))) with
  | true => rw [hc] at h; simp at h
  | false =>
    have hs : ((Qu d)).2 = true := Je (Pq hc)
    have hv : Xq s = true := Je (I0 hc)
    simp only [cond_false]
    obtain ⟨h1, h2⟩ := Si (L := ((Qu d)).1) (on := onD d names) (fs := s.2.1) (g := M1 r names) (f := Js r names) (e := Kv) (d := d) (fun k a s => by
      unfold Js M1
      cases Xa names a.1 <;> rfl) (fun j _ hj => by unfold onD at hj; unfold M1; rw [hj]; rfl)
    rw [h1]
    have key : ∀ (n k : Nat) (o : List Qw) (p : Int), EvS d ((Qu d)).1 (onD d names) s.2.1 (((k : Nat)) : Int) o → ∃ o' p', Vz (Vh s d names) Ba n k (o, p) = .brk (o', p') ∧ EvS d ((Qu d)).1 (onD d names) s.2.1 (((k + n : Nat)) : Int) o' := by
      intro n
      induction n with
      | zero => intro k o p ho; exact ⟨o, p, rfl, ho⟩
      | succ n ih =>
        intro k o p ho
        obtain ⟨o1, p1, g1, g2⟩ := Ev (p := p) hs ho
        obtain ⟨o2, p2, g3, g4⟩ := ih (k + 1) o1 p1 (by rw [Int.natCast_add]; exact g2)
        refine ⟨o2, p2, ?_, by rw [show k + (n + 1) = k + 1 + n by omega]; exact g4⟩
        simp only [Vz]
        unfold Vh E0
        rw [g1]
        exact g3
    obtain ⟨o, p, g1, g2⟩ := key (Int.toNat (Km d + 1)) 0 _ 0 h2
    simp only [Out.on, Kv]
    rw [g1]
    exact ⟨(Fu hs).2.1, hv, g2.names, fun j hj hon => g2.some_ j hj hon⟩
theorem T6 {s : Q5} {d : List Y5} (h : (Jw s d).2 = true) : List.length d ≤ 5 ∧ Xq s = true ∧ (Jw s d).1.map (·.1) = d.map (·.1) ∧ ∀ x, x ∈ (Jw s d).1 → ∃ p : X4 → Bool, x.2 = sel s.2.1 (fun f => f.1) p := by
  unfold Jw at h ⊢
  obtain ⟨h1, h2, h3, h4⟩ := WO h
  refine ⟨h1, h2, h3, fun x hx => ?_⟩
  obtain ⟨i, hi⟩ := List.getElem?_of_mem hx
  have hlen : (Zd s d [] (Y1 d)).1.length = d.length := by have := congrArg List.length h3; simpa using this
  have hi' : i < (Zd s d [] (Y1 d)).1.length := (List.getElem?_eq_some_iff.1 hi).1
  have hil : i < d.length := by omega
  have := h4 i hil (by unfold onD; exact Lw (Ho hil))
  rw [Lh hi] at this
  exact this
theorem T7 {s : Q5} {d : List Y5} (h : (Jw s d).2 = false) : (Jw s d).1 = [] := by
  unfold Jw at h ⊢
  unfold Zd at h ⊢
  cases hc : ((!(((Qu d)).2)) || (!(Xq s))) with
  | true => rfl
  | false =>
    exfalso
    have hs : ((Qu d)).2 = true := Je (Pq hc)
    rw [hc] at h
    simp only [cond_false] at h
    obtain ⟨h1, h2⟩ := Si (L := ((Qu d)).1) (on := onD d (Y1 d)) (fs := s.2.1) (g := M1 [] (Y1 d)) (f := Js [] (Y1 d)) (e := Kv) (d := d) (fun k a s => by
      unfold Js M1
      cases Xa (Y1 d) a.1 <;> rfl) (fun j _ hj => by unfold onD at hj; unfold M1; rw [hj]; rfl)
    rw [h1] at h
    have key : ∀ (n k : Nat) (o : List Qw) (p : Int), EvS d ((Qu d)).1 (onD d (Y1 d)) s.2.1 (((k : Nat)) : Int) o → ∃ y, Vz (Vh s d (Y1 d)) Ba n k (o, p) = .brk y := by
      intro n
      induction n with
      | zero => intro k o p ho; exact ⟨_, rfl⟩
      | succ n ih =>
        intro k o p ho
        obtain ⟨o1, p1, g1, g2⟩ := Ev (p := p) hs ho
        obtain ⟨y, g3⟩ := ih (k + 1) o1 p1 (by rw [Int.natCast_add]; exact g2)
        refine ⟨y, ?_⟩
        simp only [Vz]
        unfold Vh E0
        rw [g1]
        exact g3
    obtain ⟨y, g1⟩ := key (Int.toNat (Km d + 1)) 0 _ 0 h2
    simp only [Out.on, Kv] at h
    rw [g1] at h
    cases h
end Go.Proofs.YtockoklfegpgeaaGreat
namespace Go.Proofs.YtockoklfegpgeaaGreat
open Go.RowKit
def YW (G : Nat → Prop) (L : List Nat) : Inj := ⟨G, fun k => if k = 63 then L else [], fun _ => 0⟩
theorem OE {P : Program} {tt : List (Nat × TI)} (htt : Fm P tt = true) {f : Nat} {fn : Func} {c : Code} (hf : P.funcs[f]? = some fn) (hb : fn.body = some c) (hok : C9 P f) {n : Nat} {l l' : List (List PV)} {args : List AV}
    (hn : args.length + 1 ≤ fn.ntmps) (hk : ∀ x, x ∈ args → ∀ c, c ∈ x.cells → c.key = none ∧ c.bkeys = []) {t : Nat} (hr : fn.results.toList = [.tmp t])
    (h : ∀ w0 F0, GoodAt P w0 → AWP P fn.ntmps w0 F0 c (fun e s => (e = .ret ∨ e = .normal) ∧ ∃ k, get s.tm t = some (.one (.slc (.own false k) n l'))) (QT (.one (.slc (.own false 63) n l) :: args))) : ATake P f n l args true false l' := by
  refine ⟨hok, fun w F G L v vals hgood hFG hGF hGs hnd hLG hrow hargs => calls_of_wp hf hb ?_⟩
  have hlen := hargs.length
  have hGF := hGF rfl
  have hL0 : (YW G L).L 63 = L := by show (if 63 = 63 then L else []) = L; simp
  refine wp_mono (h ⟨w, fun b => b ∈ L, none⟩ G hgood (YW G L) _ w ?_) ?_
  · have hLk : ∀ k b, b ∈ (YW G L).L k → k = 63 ∧ b ∈ L := fun k b hm => by
      have hm : b ∈ (if k = 63 then L else []) := hm
      split at hm
      · rename_i e; exact ⟨e, hm⟩
      · simp at hm
    refine { below := Base.Keeps.refl _, nodef := rfl, size := ?_, fl := fun b hb => ⟨hGs b hb, .inl hb⟩, f0 := fun b hb => hb, nd := fun k => ?_, lo := fun k b hb => ⟨.inr (hLk k b hb).2, hLG b (hLk k b hb).2⟩, dj := fun k k' b hb hb' => (hLk k b hb).1.trans (hLk k' b hb').1.symm, bo := fun k c hc => by simp [QT, get] at hc, nb := .inl rfl, cb := (fun b hb => by cases hb), bi := fun k k' c c' hc => by simp [QT, get] at hc, tm := fun t v' hv => ?_ }
    · simp; omega
    · show (if k = 63 then L else [] : List Nat).Nodup
      split
      · exact hnd
      · exact List.nodup_nil
    · obtain ⟨_, ht⟩ := Ld hv
      have hall : All2 (AR (YW G L) w) (v :: vals) (.one (.slc (.own false 63) n l) :: args) := by
        refine .cons ?_ ?_
        · show OwnTop G ((YW G L).L 63) w v n l
          rw [hL0]
          exact OwnTop.keep hrow (fun b hb => ⟨hFG b hb, rfl⟩) fun _ _ => rfl
        · have key : ∀ {vs : List Value} {ys : List AV}, All2 (AR (Rz G) w) vs ys → (∀ x, x ∈ ys → ∀ c, c ∈ x.cells → c.key = none ∧ c.bkeys = []) → All2 (AR (YW G L) w) vs ys := by
            intro vs ys ha
            induction ha with
            | nil => intro _; exact .nil
            | cons h1 _ ih =>
              intro hx
              refine .cons (h1.keep fun c hc => ?_) (ih fun x hm => hx x (List.mem_cons_of_mem _ hm))
              obtain ⟨e1, e2⟩ := hx _ (List.mem_cons_self ..) c hc
              exact ⟨fun b hb => ⟨hb, rfl⟩, (fun k hk => by rw [e1] at hk; cases hk), (fun k hk => by rw [e2] at hk; simp at hk)⟩
          exact key hargs hk
      obtain ⟨u, hu, hr⟩ := hall.get' ht
      have hlt : t < (v :: vals).length := (List.getElem?_eq_some_iff.1 hu).1
      have : ((v :: vals).toArray ++ Array.replicate (fn.ntmps - (v :: vals).toArray.size) undef).getD t undef = u := by
        rw [Array.getD_eq_getD_getElem?, Array.getElem?_append_left (by simpa using hlt)]
        simp at hu ⊢
        rw [hu]; rfl
      rw [this]
      exact hr
  · rintro e a' w' ⟨J', s', hR, he, k, hkk⟩
    have hres : ∃ u, (results fn a'.tmps).run P w' = .ok u w' ∧ AR J' w' u (.one (.slc (.own false k) n l')) := by
      obtain ⟨us, hrun, hall⟩ := N9 (P := P) htt hR (rs := [.tmp t]) (vs := [.one (.slc (.own false k) n l')]) (by simp [VE, hkk])
      rw [← hr] at hrun
      have hm : (fn.results.mapM (N8 a'.tmps)).run P w' = .ok us.toArray w' := by
        rw [Array.mapM_eq_mapM_toList]
        simp [hrun]
      have hgen : (results fn a'.tmps).run P w' = .ok (if h : us.toArray.size = 1 then us.toArray[0] else .tuple us.toArray) w' := by
        rw [Mf]
        simp only [Sem.run_bind, hm, Result.andThen_ok, Sem.run_pure]
      cases hall with
      | cons h1 h2 =>
        cases h2
        exact ⟨_, by rw [hgen]; simp, h1⟩
    obtain ⟨u, h1, h2⟩ := hres
    have hT : Qa9 F L w n false l' (.returned u) w' := by
      refine ⟨u, rfl, fun m hm hmL => ⟨hR.below.os, hR.below.tape, hR.below.output, hR.below.size, fun j hj => hR.below.block j (by show j < w.heap.size; omega) fun hx => by have := hmL j hx; omega⟩, fun b hb hn => hR.below.block b hb hn, J'.L k, hR.nd k, fun b hb => ?_, ?_⟩
      · obtain ⟨h3, h4, _⟩ := hR.lo k b hb
        exact ⟨h4, h3⟩
      · have h2 : OwnTop J'.F (J'.L k) w' u n l' := h2
        refine OwnTop.keep h2 (fun b hb => ⟨?_, rfl⟩) fun _ _ => rfl
        obtain ⟨h3, h4⟩ := hR.fl b hb
        rcases h4 with h4 | h4 | h4
        · exact .inl (hGF b h4)
        · exact .inr ⟨.inl h4, h3, fun hm => (hR.lo k b hm).2.2 hb⟩
        · exact .inr ⟨.inr h4, h3, fun hm => (hR.lo k b hm).2.2 hb⟩
    rcases he with rfl | rfl
    · exact ⟨hR.nodef, u, h1, hT⟩
    · exact ⟨hR.nodef, u, h1, hT⟩
end Go.Proofs.YtockoklfegpgeaaGreat
namespace Go.Proofs.YtockoklfegpgeaaGreat
open Go.RowKit
theorem D4 {a : Act} {t u : Nat} {v : Value} (ht : t < a.tmps.size) : (a.put (some t) v).tmps.getD u undef = if u = t then v else a.tmps.getD u undef := by
  simp only [Act.put, Array.getD_eq_getD_getElem?, Array.getElem?_setIfInBounds]
  by_cases h : u = t
  · subst h; simp [ht]
  · simp [h, Ne.symm h]
theorem EF {a b : Nat} : Nat.beq a b = false ↔ ¬ a = b := by
  cases h : Nat.beq a b with
  | true => simp [Nat.eq_of_beq_eq_true h]
  | false => simp; exact Nat.ne_of_beq_eq_false h
theorem OF {a : Act} {t : Nat} {v : Value} (h : a.tmps.getD t undef = v) (ht : t < a.tmps.size) : a.put (some t) v = a := by
  have e : a.tmps.setIfInBounds t v = a.tmps := by
    apply Array.ext
    · simp
    · intro i h1 h2
      rw [Array.getElem_setIfInBounds]
      split
      · rename_i e; subst e; rw [← h, Array.getD_eq_getD_getElem?, Array.getElem?_eq_getElem ht]; rfl
      · rfl
  show ({ a with tmps := a.tmps.setIfInBounds t v } : Act) = a
  rw [e]
theorem CM : ∀ {vs : List Value} {cs : List C}, Wy vs cs = true → ∃ ps : List PV, ps.length = vs.length ∧ ∀ (X : Nat → Prop) (w : World), VC X w vs ps
  | [], [], _ => ⟨[], rfl, fun _ _ => .nil⟩
  | [], _ :: _, h => by simp [Wy] at h
  | _ :: _, [], h => by simp [Wy] at h
  | v :: vs, c :: cs, h => by
    simp only [Wy, Bool.and_eq_true] at h
    obtain ⟨ps, h1, h2⟩ := CM h.2
    have hz := h.1
    unfold Sn at hz
    split at hz
    · rename_i k _ _ _
      simp only [Bool.and_eq_true, decide_eq_true_eq] at hz
      obtain ⟨⟨rfl, rfl⟩, rfl⟩ := hz
      exact ⟨.int k 0 :: ps, by simp [h1], fun X w => .cons (.int (by cases k <;> simp [InR, IntKind.min, IntKind.max, IntKind.bits, IntKind.signed])) (h2 X w)⟩
    · rename_i b _
      exact ⟨.bool b :: ps, by simp [h1], fun X w => .cons (.bool b) (h2 X w)⟩
    · rename_i s _
      have hs : s.size = 0 := by simp only [Bool.and_eq_true] at hz; exact Nat.eq_of_beq_eq_true hz.1
      exact ⟨.str s :: ps, by simp [h1], fun X w => .cons (.str (by rw [hs]; exact Nat.zero_le _)) (h2 X w)⟩
    · rename_i n
      exact ⟨.slc n [] :: ps, by simp [h1], fun X w => .cons (.emp none n (Nat.zero_le _)) (h2 X w)⟩
    · cases hz
theorem CN {X : Nat → Prop} {w : World} {n : Nat} {vs : List Value} {ps : List PV} (h : VC X w vs ps) (hn : ps.length = n) : ∀ m, VR X w n (List.replicate m vs).flatten (List.replicate m ps)
  | 0 => .nil n
  | m + 1 => by
    rw [List.replicate_succ, List.replicate_succ, List.flatten_cons]
    exact .cons h hn (CN h hn m)
theorem EG {z : Array Value} {m : Nat} : (Builtin.zeroCells z m).toList = (List.replicate m z.toList).flatten := by
  have key : ∀ (l : List Value) (m : Nat), (List.range (m * l.length)).map (fun i => l[i % l.length]!) = (List.replicate m l).flatten := by
    intro l m
    induction m with
    | zero => simp
    | succ m ih =>
      rw [Nat.succ_mul, List.range_add, List.map_append, ih, List.replicate_succ', List.flatten_append]
      congr 1
      simp only [List.map_map, List.flatten_cons, List.flatten_nil, List.append_nil]
      apply List.ext_getElem
      · simp
      · intro i h1 h2
        simp only [List.length_map, List.length_range] at h1
        simp [Nat.mul_add_mod_self_right, Nat.mod_eq_of_lt h1, h2]
  rw [← key z.toList m]
  unfold Builtin.zeroCells
  rw [Array.toList_map, Array.toList_range]
  apply List.map_congr_left
  intro i _
  simp only [Array.length_toList, getElem!_def, Array.getElem?_toList]
theorem OG {vs : List Value} {cs : List C} (h : Wy vs cs = true) : ∀ v, v ∈ vs → v.oneCell' = true := by
  induction vs generalizing cs with
  | nil => intro v hv; simp at hv
  | cons v vs ih =>
    cases cs with
    | nil => simp [Wy] at h
    | cons c cs =>
      simp only [Wy, Bool.and_eq_true] at h
      intro u hu
      rcases List.mem_cons.1 hu with rfl | hu
      · have hz := h.1
        unfold Sn at hz
        split at hz <;> first | rfl | cases hz
      · exact ih h.2 u hu
section
variable {P : Program} {N : Nat} {w0 : Base} {F0 : Nat → Prop} {J : Inj} {a : Act} {w : World} {s : St} {Q : Exit → St → Prop}
theorem Rel.aside (h : Rel N w0 F0 J a w s) {d : Nat} (hd : d < N) (hn : get s.tm d = none) (v : Value) : Rel N w0 F0 J (a.put (some d) v) w s :=
  (h.pure (some d) (fun d' e => by cases e; exact hd) (.one .dead) v (fun _ => trivial)).less (fun t x hx => by
    show get (ins d _ s.tm) t = some x
    rw [M9, if_neg (fun e => by subst e; rw [hn] at hx; cases hx)]
    exact hx) (fun _ _ h => h)
theorem IY {tt : List (Nat × TI)} (htt : Fm P tt = true) {sty ety z1 : Nat} {z2 : List C} {z3 : List LK} {ti : TI} (g1 : get tt sty = some ⟨.sli ety, z1, z2, z3⟩) (g2 : get tt ety = some ti)
    {g cap m i n : Nat} {cur : Array Value} {e : TypeId} (hn : ti.size = n) (hg : w.heap[g]? = some (.cells cur e (0, 0))) (hs : cur.size = cap * n) (hi : i < m) (hm : m ≤ cap) (ty : TypeId) :
    ∃ zs : List Value, ∃ ps : List PV, zs.length = n ∧ ps.length = n ∧ (∀ (X : Nat → Prop) (w : World), VC X w zs ps) ∧
      (Builtin.clear_ #[sty] ty #[.slice (some ⟨g, i * n, none⟩) (m - i) (cap - i)]).run P w = .ok (.tuple #[]) (w.setRow g (cur.toList.take (i * n) ++ (List.replicate (m - i) zs).flatten ++ cur.toList.drop (i * n + (m - i) * n)).toArray) := by
  obtain ⟨inf, z, hI, hsz, _, hz, hzs, hzo⟩ := (Zh htt g2).info
  obtain ⟨ps, p1, p2⟩ := CM hzo
  have hu := (Zh htt g1).sli
  have hzl : z.cells.toList.length = n := by simpa [hn] using hzs
  refine ⟨z.cells.toList, ps, hzl, by rw [p1, hzl], p2, ?_⟩
  obtain ⟨q, hq⟩ : ∃ q, m - i = q + 1 := ⟨m - i - 1, by omega⟩
  have hfl : ((List.replicate (m - i) z.cells.toList).flatten).length = (m - i) * n := by
    rw [List.length_flatten, List.map_replicate, hzl]; simp
  have h3 : i * n + (m - i) * n ≤ cap * n := by rw [← Nat.add_mul]; exact Nat.mul_le_mul_right n (by omega)
  have hst := run_storeCells_at P g (i * n) e ((List.replicate (m - i) z.cells.toList).flatten) 0 cur w hg (by rw [hfl, hs]; simpa using h3) (fun v hv => by
    obtain ⟨l, hl, hv⟩ := List.mem_flatten.1 hv
    rw [List.eq_of_mem_replicate hl] at hv
    exact OG hzo v hv)
  simp only [Nat.add_zero, hfl] at hst
  rw [hq] at hst ⊢
  simp [Builtin.clear_, run_underlying hu, zeroValue, Wp hI, hz, EG, hst]
theorem IZ {tt : List (Nat × TI)} (htt : Fm P tt = true) {id : Nat} {ops : Array Oper} {t0 t5 d1 d2 d3 sty ety z1 : Nat} {z2 : List C} {z3 : List LK} {ti : TI} {y1 y2 y3 y4 : TypeId} {q1 q2 q3 q4 : String} {f1 f2 f3 f4 : Array Edge}
    (hops : ops = #[⟨some d1, .move (.tmp t0), y1, q1, f1, none⟩, ⟨some d2, .move (.tmp t5), y2, q2, f2, none⟩, ⟨some d3, .slice sty (.tmp d1) (some (.tmp d2)) none none, y3, q3, f3, none⟩, ⟨none, .call { callee := .builtin .clear, args := #[.tmp d3], argTypes := #[sty] }, y4, q4, f4, none⟩])
    (hN : (Nat.blt d1 N && Nat.blt d2 N && Nat.blt d3 N && Nat.blt t0 N && !(Nat.beq d1 t0) && !(Nat.beq d1 t5) && !(Nat.beq d2 t0) && !(Nat.beq d2 t5) && !(Nat.beq d3 t0) && !(Nat.beq d3 t5) && !(Nat.beq d1 d2) && !(Nat.beq t0 t5)) = true)
    (g1 : get tt sty = some ⟨.sli ety, z1, z2, z3⟩) (g2 : get tt ety = some ti) {k n : Nat} {l : List (List PV)} (hk : get s.tm t0 = some (.one (.slc (.own false k) n l))) (hn : ti.size = n) {i : Int} (hi : get s.tm t5 = some (.one (.int .i64 i))) (h0 : 0 ≤ i) (hl : i < l.length)
    (hQ : ∀ l', l'.length = l.length → l'.take i.toNat = l.take i.toNat → Q .normal ⟨[(t0, .one (.slc (.own false (64 * t0)) n l')), (t5, .one (.int .i64 i))], []⟩) : AWP P N w0 F0 (.region id ops false) Q s := fun J a w hr => by
  simp only [Bool.and_eq_true, Nat.blt_eq, Bool.not_eq_true', EF] at hN
  obtain ⟨⟨⟨⟨⟨⟨⟨⟨⟨⟨⟨m1, m2⟩, m3⟩, m0⟩, n1⟩, n2⟩, n3⟩, n4⟩, n5⟩, n6⟩, n7⟩, n8⟩ := hN
  obtain ⟨j, rfl⟩ : ∃ j : Nat, i = (j : Int) := ⟨i.toNat, by omega⟩
  have hj : j < l.length := by omega
  have e0 : CR J w (a.tmps.getD t0 undef) (.slc (.own false k) n l) := hr.tm t0 _ hk
  have e5 : CR J w (a.tmps.getD t5 undef) (.int .i64 (j : Int)) := hr.tm t5 _ hi
  obtain ⟨e5, _⟩ := e5
  rcases (show OwnTop J.F (J.L k) w _ n l from e0) with ⟨e, _⟩ | ⟨g, cap, cur, e, hL, e0, hg, hs, hvr, hlc, hcap⟩
  · rw [e] at hj; simp at hj
  obtain ⟨zs, ps, hzl, hpl, hzv, hrun⟩ := IY (P := P) (w := w) htt g1 g2 hn hg hs hj hlc y4
  have hu := (Zh htt g1).sli
  have hsz := Bz (P := P) (Zh htt g2) w
  rw [hn] at hsz
  have hr5 : Rel N w0 F0 J a w ⟨[(t5, .one (.int .i64 (j : Int)))], []⟩ := hr.less (fun t v hv => by
    simp only [get] at hv
    split at hv
    · rename_i e; subst e; rw [hi]; exact hv
    · cases hv) (fun k c hc => by cases hc)
  have no : ∀ d, ¬ d = t5 → get (⟨[(t5, .one (.int .i64 (j : Int)))], []⟩ : St).tm d = none := fun d hd => by
    show (if t5 = d then _ else _) = none
    rw [if_neg (fun e => hd e.symm)]; rfl
  have s0 := hr.size
  have hr1 := (hr5.aside m1 (no _ n2) (.slice (some ⟨g, 0, none⟩) l.length cap)).aside m2 (no _ n4) (.int .i64 (j : Int))
  have hr3 := hr1.aside m3 (no _ n6) (.slice (some ⟨g, 0 + j * n, none⟩) (l.length - j) (cap - j))
  subst hops
  refine wp_region ?_
  show wpOps P _ (QX N w0 F0 Q) [0, 1, 2, 3] a w
  rw [wpOps_cons]; unfold wpOp
  simp only [List.getElem?_toArray, List.getElem?_cons_zero]
  rw [if_pos (by simp [Region.wanted])]
  refine .inl (Wc (v := .slice (some ⟨g, 0, none⟩) l.length cap) (w' := w) (by simp [execOp, e0, Act.eval]) ?_)
  rw [wpOps_cons]; unfold wpOp
  simp only [List.getElem?_toArray, List.getElem?_cons_succ, List.getElem?_cons_zero]
  rw [if_pos (by simp [Region.wanted])]
  have e5' : (a.put (some d1) (.slice (some ⟨g, 0, none⟩) l.length cap)).tmps.getD t5 undef = .int .i64 (j : Int) := (D4 (by omega)).trans ((if_neg (fun e => n2 e.symm)).trans e5)
  refine .inl (Wc (v := .int .i64 (j : Int)) (w' := w) (by simp [execOp, e5', Act.eval]) ?_)
  rw [wpOps_cons]; unfold wpOp
  simp only [List.getElem?_toArray, List.getElem?_cons_succ, List.getElem?_cons_zero]
  rw [if_pos (by simp [Region.wanted])]
  have hs1 : (a.put (some d1) (.slice (some ⟨g, 0, none⟩) l.length cap)).tmps.size = N := by simp [Act.put, s0]
  have ea : ((a.put (some d1) (.slice (some ⟨g, 0, none⟩) l.length cap)).put (some d2) (.int .i64 (j : Int))).eval (.tmp d1) = .slice (some ⟨g, 0, none⟩) l.length cap := (D4 (by omega)).trans ((if_neg n7).trans ((D4 (by omega)).trans (if_pos rfl)))
  have eb : ((a.put (some d1) (.slice (some ⟨g, 0, none⟩) l.length cap)).put (some d2) (.int .i64 (j : Int))).eval (.tmp d2) = .int .i64 (j : Int) := (D4 (by omega)).trans (if_pos rfl)
  have hsb : (Instr.sliceBounds true l.length cap (some (.int .i64 (j : Int))) none none).run P w = .ok (j, l.length, cap) w := by
    have e4 : ∀ c, (Instr.sliceBound (.int .i64 (j : Int)) l.length c).run P w = .ok j w := fun c => by
      have := Mc (P := P) (w := w) (k := .i64) (lo := (j : Int)) (code := c) (y := l.length) (by omega) (by omega)
      simpa using this
    unfold Instr.sliceBounds
    simp only [Sem.run_bind, Sem.run_pure, Result.andThen_ok]
    simp [e4]
  refine .inl (Wc (v := .slice (some ⟨g, 0 + j * n, none⟩) (l.length - j) (cap - j)) (w' := w) (by
    have hca : cap ≠ j := by omega
    simp [execOp, ea, eb, Instr.sliceAt, run_underlying hu, Instr.slice, hsb, hsz, hca, Addr.add_lit]) ?_)
  rw [wpOps_cons]; unfold wpOp
  simp only [List.getElem?_toArray, List.getElem?_cons_succ, List.getElem?_cons_zero]
  rw [if_pos (by simp [Region.wanted])]
  generalize ha2 : ((a.put (some d1) (.slice (some ⟨g, 0, none⟩) l.length cap)).put (some d2) (.int .i64 (j : Int))) = a2 at *
  have s2 : a2.tmps.size = N := hr1.size
  have ec : (a2.put (some d3) (.slice (some ⟨g, 0 + j * n, none⟩) (l.length - j) (cap - j))).eval (.tmp d3) = .slice (some ⟨g, j * n, none⟩) (l.length - j) (cap - j) := (D4 (by omega)).trans ((if_pos rfl).trans (by simp))
  have ec := ec
  simp only [Nat.zero_add] at ec
  refine .inl (Wc (v := .tuple #[]) (w' := w.setRow g (cur.toList.take (j * n) ++ (List.replicate (l.length - j) zs).flatten ++ cur.toList.drop (j * n + (l.length - j) * n)).toArray) (by
    simp [execOp, resolve, invoke, builtin, ec, hrun]) ?_)
  generalize ha3 : a2.put (some d3) (.slice (some ⟨g, 0 + j * n, none⟩) (l.length - j) (cap - j)) = a3 at *
  show QX N w0 F0 Q .normal a3 _
  have e03 : a3.tmps.getD t0 undef = .slice (some ⟨g, 0, none⟩) l.length cap := by
    rw [← ha3]
    refine (D4 (by omega)).trans ((if_neg (fun e => n5 e.symm)).trans ?_)
    rw [← ha2]
    exact (D4 (by omega)).trans ((if_neg (fun e => n3 e.symm)).trans ((D4 (by omega)).trans ((if_neg (fun e => n1 e.symm)).trans e0)))
  have hgk : g ∈ J.L k := by rw [hL]; exact List.mem_cons_self
  have hgF : ¬ J.F g := (hr.lo k g hgk).2.2
  generalize hw' : w.setRow g (cur.toList.take (j * n) ++ (List.replicate (l.length - j) zs).flatten ++ cur.toList.drop (j * n + (l.length - j) * n)).toArray = w'
  have hgw : w'.heap[g]? = some (.cells (cur.toList.take (j * n) ++ (List.replicate (l.length - j) zs).flatten ++ cur.toList.drop (j * n + (l.length - j) * n)).toArray e (0, 0)) := by rw [← hw']; exact setRow_heap w g cur _ e (0, 0) hg
  have hother : ∀ b, b ≠ g → w'.heap[b]? = w.heap[b]? := fun b hb => by rw [← hw']; exact setRow_other w g b _ hb
  have hsize : w'.heap.size = w.heap.size := by rw [← hw']; simp [World.setRow]
  have hbelow : w0.Keeps w' := by
    refine hr.below.step (by rw [← hw']; rfl) (by rw [← hw']; rfl) (by rw [← hw']; rfl) (by omega) fun b _ hnl => hother b fun e => ?_
    exact hnl (e ▸ (hr.lo k g hgk).1)
  have hfl : ((List.replicate (l.length - j) zs).flatten).length = (l.length - j) * n := by
    rw [List.length_flatten, List.map_replicate, hzl]; simp
  have hsum : j * n + (l.length - j) * n = l.length * n := by rw [← Nat.add_mul]; congr 1; omega
  have hle : l.length * n ≤ cap * n := Nat.mul_le_mul_right n hlc
  have hcl : cur.toList.length = cap * n := by simpa using hs
  have hjn : j * n ≤ cap * n := Nat.mul_le_mul_right n (by omega)
  have htl : (l.take j ++ List.replicate (l.length - j) ps).length = l.length := by simp; omega
  have hown : OwnTop (N4 J w w' (64 * t0) k [] [g]).F [g] w' (.slice (some ⟨g, 0, none⟩) l.length cap) n (l.take j ++ List.replicate (l.length - j) ps) := by
    refine .inr ⟨g, cap, _, e, rfl, by rw [htl], hgw, ?_, ?_, by rw [htl]; exact hlc, by rw [htl]; exact hcap⟩
    · simp only [List.size_toArray, List.length_append, hfl, List.length_take, List.length_drop, hcl]
      omega
    · rw [htl]
      have : ((cur.toList.take (j * n) ++ (List.replicate (l.length - j) zs).flatten ++ cur.toList.drop (j * n + (l.length - j) * n)).toArray.toList.take (l.length * n)) = cur.toList.take (j * n) ++ (List.replicate (l.length - j) zs).flatten := by
        show ((_ : List Value) ++ _ ++ _).take _ = _
        have hln : (cur.toList.take (j * n) ++ (List.replicate (l.length - j) zs).flatten).length = l.length * n := by
          simp only [List.length_append, hfl, List.length_take, hcl]; omega
        rw [List.take_append_of_le_length (by omega), List.take_of_length_le (by omega)]
      rw [this]
      refine VR.append (CN (hzv _ _) hpl _) (VR.keep (X := J.F) (w := w) (fun b hb => ⟨.inl hb, hother b fun e => hgF (e ▸ hb)⟩) ?_)
      have h3 := hvr.take j
      rwa [List.take_take, Nat.min_eq_left (by omega)] at h3
  have hR := S6 hr3 (t := t0) (k := k) (n := n) m0 (frz := []) (L' := [g]) (by simp) (w' := w') (u := .slice (some ⟨g, 0, none⟩) l.length cap) (l' := l.take j ++ List.replicate (l.length - j) ps) (d := false) hbelow (by omega) (fun b hb hn => hother b fun e => hn (e ▸ hgk)) (by simp) (fun b hb => by
    obtain rfl := List.mem_singleton.1 hb
    exact ⟨by have := (hr.lo k b hgk).2.1; omega, .inr hgk⟩) (by
      show OwnTop _ ((N4 J w w' (64 * t0) k [] [g]).L (64 * t0)) _ _ _ _
      rw [show (N4 J w w' (64 * t0) k [] [g]).L (64 * t0) = [g] from if_pos rfl]
      exact hown)
  rw [OF e03 (by rw [hr3.size]; exact m0)] at hR
  refine ⟨_, _, hR.less (s' := ⟨[(t0, .one (.slc (.own false (64 * t0)) n (l.take j ++ List.replicate (l.length - j) ps))), (t5, .one (.int .i64 (j : Int)))], []⟩) (fun t v hv => ?_) (fun k c hc => by cases hc), hQ _ htl (by simp [List.take_append, List.take_take]; omega)⟩
  show get (ins t0 _ [(t5, AV.one (.int .i64 (j : Int)))]) t = some v
  rw [M9]
  simp only [get] at hv ⊢
  exact hv
end
end Go.Proofs.YtockoklfegpgeaaGreat
namespace Go.Proofs.YtockoklfegpgeaaGreat
open Go.RowKit
section
variable {P : Program}
structure RowAt (w : World) (n : Nat) (oa : Option Addr) (m cap : Nat) (olds : List Value) : Prop where
  len : olds.length = m * n
  row : (oa = oa ∧ m = 0 ∧ cap = 0) ∨ ∃ g cur e, oa = some ⟨g, 0, none⟩ ∧ w.heap[g]? = some (.cells cur e (0, 0)) ∧ cur.size = cap * n ∧ cur.toList.take (m * n) = olds
  le : m ≤ cap
  cap : cap ≤ maxLen
  lim : m < 1073741824
  ones : ∀ u, u ∈ olds → u.oneCell' = true
structure Turned (w w' : World) (n : Nat) (oa : Option Addr) (cap : Nat) (u : Value) (m' : Nat) (news : List Value) : Prop where
  os : w'.os = w.os
  tape : w'.tape = w.tape
  output : w'.output = w.output
  size : w.heap.size ≤ w'.heap.size
  row : ∃ g' cap' cur' e', u = .slice (some ⟨g', 0, none⟩) m' cap' ∧ w'.heap[g']? = some (.cells cur' e' (0, 0)) ∧ cur'.size = cap' * n ∧ cur'.toList.take (m' * n) = news ∧ m' ≤ cap' ∧ cap' ≤ maxLen ∧
    ((oa = some ⟨g', 0, none⟩ ∧ 0 < cap ∧ ∀ b, b ≠ g' → w'.heap[b]? = w.heap[b]?) ∨ (w.heap.size ≤ g' ∧ g' < w'.heap.size ∧ ∀ b, b < w.heap.size → w'.heap[b]? = w.heap[b]?))
structure OneAt (w : World) (n : Nat) (oa : Option Addr) (cap : Nat) (vb voff : Nat) (vs : List Value) : Prop where
  len : vs.length = n
  cells : ∀ j u, vs[j]? = some u → w.cell? ⟨vb, voff + j, none⟩ = some u
  ones : ∀ u, u ∈ vs → u.oneCell' = true
  ne : ∀ g, oa = some ⟨g, 0, none⟩ → 0 < cap → vb ≠ g
theorem Turned.ret {F G : Nat → Prop} {L : List Nat} {w w' : World} {n : Nat} {oa : Option Addr} {cap : Nat} {u : Value} {m' : Nat} {news : List Value} (h : Turned w w' n oa cap u m' news) (hF : ∀ b, F b → b < w.heap.size ∧ b ∉ L) (hL : 0 < cap → ∃ g, oa = some ⟨g, 0, none⟩ ∧ L = [g]) (hLs : ∀ b, b ∈ L → b < w.heap.size)
    {l' : List (List PV)} (hv : VR F w n news l') (hm : l'.length = m') (hlim : m' ≤ 1073741824) : Qa9 F L w n false l' (.returned u) w' := by
  obtain ⟨g', cap', cur', e', rfl, hg, hs, ht, h1, h2, h3⟩ := h.row
  have hsame : ∀ b, b < w.heap.size → b ∉ L → w'.heap[b]? = w.heap[b]? := fun b hb hn => by
    rcases h3 with ⟨h3, hc, h4⟩ | ⟨_, _, h4⟩
    · obtain ⟨g, h5, rfl⟩ := hL hc
      rw [h3] at h5
      obtain rfl : g' = g := by simpa using h5
      exact h4 b fun e => hn (by simp [e])
    · exact h4 b hb
  refine ⟨_, rfl, fun m hm hmL => ⟨h.os, h.tape, h.output, h.size, fun b hb => hsame b (by omega) fun hx => by have := hmL b hx; omega⟩, hsame, [g'], by simp, fun b hb => ?_, ?_⟩
  · obtain rfl := List.mem_singleton.1 hb
    refine ⟨Xe hg, ?_⟩
    rcases h3 with ⟨h3, hc, _⟩ | ⟨h3, _, _⟩
    · obtain ⟨g, h5, rfl⟩ := hL hc
      rw [h3] at h5
      obtain rfl : b = g := by simpa using h5
      exact .inr (by simp)
    · exact .inl h3
  · refine .inr ⟨g', cap', cur', e', rfl, by rw [hm], hg, hs, ?_, by rw [hm]; exact h1, h2, by rw [hm]; exact hlim⟩
    rw [hm, ht]
    exact hv.keep fun b hb => ⟨.inl hb, hsame b (hF b hb).1 (hF b hb).2⟩
end
end Go.Proofs.YtockoklfegpgeaaGreat
namespace Go.Proofs.YtockoklfegpgeaaGreat
open Go.RowKit
section
variable {P : Program} {t e : TypeId} {ei : TI} {w : World} {oa : Option Addr} {m cap i vb voff vc : Nat} {olds vs : List Value}
theorem OneAt.block {n : Nat} (h : OneAt w n oa cap vb voff vs) (h0 : 0 < n) : vb < w.heap.size ∧ ∃ arr tA fr, w.heap[vb]? = some (.cells arr tA fr) ∧ 0 < arr.size := by
  have hl : 0 < vs.length := by rw [h.len]; exact h0
  have hc := h.cells 0 vs[0] (List.getElem?_eq_getElem hl)
  unfold World.cell? at hc
  split at hc
  · rename_i arr tA fr hh
    refine ⟨Xe hh, arr, tA, fr, hh, ?_⟩
    have hc : arr[voff + 0]? = some vs[0] := by simpa using hc
    have := (Array.getElem?_eq_some_iff.1 hc).1
    omega
  · cases hc
variable {g : Nat} {cur : Array Value} {e0 : TypeId}
end
end Go.Proofs.YtockoklfegpgeaaGreat
namespace Go.Proofs.YtockoklfegpgeaaGreat
open Go.RowKit
theorem EH {P : Program} {f n : Nat} {l l' : List (List PV)} {args : List AV} (h : ATake P f n l args true false l') (hf : A0 l') : ATake P f n l args false false l' := by
  refine ⟨h.1, fun w F G L v vals hok hFG _ hGs hnd hLG hrow hargs => ?_⟩
  refine (h.2 w G G L v vals hok (fun _ h => h) (fun _ _ h => h) hGs hnd hLG (OwnTop.keep hrow (fun b hb => ⟨hFG b hb, rfl⟩) fun _ _ => rfl) hargs).mono ?_
  rintro e w' ⟨u, rfl, h1, h2, L', h3, h4, h5⟩
  refine ⟨u, rfl, h1, h2, L', h3, h4, ?_⟩
  rcases h5 with h5 | ⟨g, cap, cur, e, rfl, rfl, hg, hs, hr, h5, h6⟩
  · exact .inl h5
  · exact .inr ⟨g, cap, cur, e, rfl, rfl, hg, hs, OR.vr (VR.orr (w' := w') hr hf) fun b hb => (by simp at hb), h5, h6⟩
theorem Qa1 {n : Nat} {hi : Int} (h0 : 0 ≤ hi) (h1 : hi ≤ (n : Int)) : (0 : Int) ≤ 0 ∧ 0 ≤ hi ∧ hi ≤ (n : Int) := ⟨Int.le_refl _, h0, h1⟩
section
variable {α : Type} {p : α → Bool}
def ixF (p : α → Bool) : List α → Int
  | [] => -1
  | a :: l => bif p a then 0 else bif ixF p l == -1 then -1 else ixF p l + 1
theorem T8 (p : α → Bool) : ∀ l : List α, -1 ≤ ixF p l ∧ ixF p l < l.length
  | [] => by simp [ixF]
  | a :: l => by
    have ih := T8 p l
    simp only [ixF, List.length_cons]
    cases p a with
    | true => simp only [cond_true]; omega
    | false =>
      simp only [cond_false]
      cases h : (ixF p l == -1) with
      | true => simp only [cond_true]; omega
      | false => simp only [cond_false]; omega
theorem PS {f : Nat → α → Unit → Rd Int Unit Unit} {e : Nat → Unit → Unit} (hf : ∀ k a s, f k a s = bif p a then .ret ((k : Nat) : Int) else .next ()) : ∀ (l : List α) (k : Nat), Xm f e l k () = bif ixF p l == -1 then .brk () else .ret ((k : Int) + ixF p l)
  | [], k => rfl
  | a :: l, k => by
    simp only [Xm, hf, ixF]
    cases p a with
    | true => simp only [cond_true]; rw [show ((0 : Int) == -1) = false from rfl, cond_false, Int.add_zero]
    | false =>
      simp only [cond_false]
      rw [PS hf l (k + 1)]
      have hb := T8 p l
      cases h : (ixF p l == -1) with
      | true => simp only [cond_true]; rfl
      | false =>
        have hne : ixF p l ≠ -1 := by simpa using h
        simp only [cond_false]
        rw [show (ixF p l + 1 == -1) = false by simp; omega, cond_false]
        congr 1; omega
theorem PT {f : Nat → α → Unit → Rd Int Unit Unit} {e : Nat → Unit → Unit} (hf : ∀ k a s, f k a s = bif p a then .ret ((k : Nat) : Int) else .next ()) (l : List α) : Out.on (Xm f e l 0 ()) (fun _ => -1) = ixF p l := by
  rw [PS hf]
  cases h : (ixF p l == -1) with
  | true => simp only [cond_true, Out.on]; exact (by simpa using h : ixF p l = -1).symm
  | false => simp only [cond_false, Out.on]; omega
theorem OH {l : List α} (h : ixF p l = -1) : ∀ a, a ∈ l → p a = false := by
  induction l with
  | nil => intro a ha; simp at ha
  | cons b l ih =>
    intro a ha
    have hb := T8 p l
    simp only [ixF] at h
    cases hp : p b with
    | true => rw [hp] at h; simp at h
    | false =>
      rw [hp] at h
      simp only [cond_false] at h
      cases h2 : (ixF p l == -1) with
      | true => rcases List.mem_cons.1 ha with rfl | ha
                · exact hp
                · exact ih (by simpa using h2) a ha
      | false => rw [h2] at h; simp only [cond_false] at h; omega
theorem OI {l : List α} {i : Nat} (h : ixF p l = (i : Int)) : (l.take i).filter (fun a => !p a) = l.take i ∧ ∃ a, l[i]? = some a ∧ p a = true := by
  induction l generalizing i with
  | nil => simp [ixF] at h
  | cons b l ih =>
    have hb := T8 p l
    simp only [ixF] at h
    cases hp : p b with
    | true =>
      rw [hp] at h
      simp only [cond_true] at h
      obtain rfl : i = 0 := by omega
      exact ⟨rfl, b, rfl, hp⟩
    | false =>
      rw [hp] at h
      simp only [cond_false] at h
      cases h2 : (ixF p l == -1) with
      | true => rw [h2] at h; simp only [cond_true] at h; omega
      | false =>
        rw [h2] at h
        simp only [cond_false] at h
        have : ixF p l ≠ -1 := by simpa using h2
        obtain ⟨j, rfl⟩ : ∃ j, i = j + 1 := ⟨i - 1, by omega⟩
        obtain ⟨h3, a, h4, h5⟩ := ih (i := j) (by omega)
        exact ⟨by simp [hp, h3], a, by simpa using h4, h5⟩
theorem CO {R S T : Type} {f : S → Rd R S T} : ∀ {n m : Nat} {s : S} {x : Out R T}, whl f n s = some x → n ≤ m → whl f m s = some x
  | 0, _, _, _, h, _ => by simp [whl] at h
  | n + 1, 0, _, _, _, hm => absurd hm (Nat.not_succ_le_zero n)
  | n + 1, m + 1, s, x, h, hm => by
    simp only [whl] at h ⊢
    cases hf : f s with
    | brk t => rw [hf] at h; exact h
    | ret r => rw [hf] at h; exact h
    | next s' => rw [hf] at h; exact CO h (by omega)
variable [Inhabited α]
def T9 {R : Type} (f : List α × Int × Int → Rd R (List α × Int × Int) (List α × Int)) (p : α → Bool) : Prop :=
  ∀ (s : List α) (i j : Nat), i < j → j ≤ 1073741824 → f (s, (i : Int), (j : Int)) = bif decide ((j : Int) < (s.length : Int)) then (bif p (nth s j) then .next (s, (i : Int), ((j + 1 : Nat) : Int)) else .next (s.set i (nth s j), ((i + 1 : Nat) : Int), ((j + 1 : Nat) : Int))) else .brk (s, (i : Int))
theorem AL {R : Type} {f : List α × Int × Int → Rd R (List α × Int × Int) (List α × Int)} (hf : T9 f p) (o : List α) (ho : o.length ≤ 1073741824) : ∀ (n : Nat) (s : List α) (i j : Nat), j + n = o.length → i < j → s.length = o.length → s.take i = (o.take j).filter (fun a => !p a) → s.drop j = o.drop j →
    ∃ s' i', whl f (n + 1) (s, (i : Int), (j : Int)) = some (.brk (s', ((i' : Nat) : Int))) ∧ s'.take i' = o.filter (fun a => !p a) ∧ i' < o.length ∧ s'.length = o.length
  | 0, s, i, j, hn, hij, hl, ht, hd => by
    refine ⟨s, i, ?_, ?_, by omega, hl⟩
    · simp only [whl, hf s i j hij (by omega)]
      rw [decide_eq_false (by omega)]
      rfl
    · rw [ht, List.take_of_length_le (by omega)]
  | n + 1, s, i, j, hn, hij, hl, ht, hd => by
    have hj : j < s.length := by omega
    have hjo : j < o.length := by omega
    have hx : nth s j = o[j] := by
      have h1 : s[j]? = o[j]? := by
        have := congrArg (fun l => l[0]?) hd
        simpa [List.getElem?_drop] using this
      rw [List.getElem?_eq_getElem hjo] at h1
      simp [nth, List.getD, h1]
    have htj : o.take (j + 1) = o.take j ++ [o[j]] := by rw [List.take_add_one, List.getElem?_eq_getElem hjo]; rfl
    have hd1 : ∀ s2 : List α, s2.drop (j + 1) = s.drop (j + 1) → s2.drop (j + 1) = o.drop (j + 1) := fun s2 h2 => by
      have := congrArg (List.drop 1) hd
      rw [List.drop_drop, List.drop_drop] at this
      exact h2.trans this
    have hst : f (s, (i : Int), (j : Int)) = _ := hf s i j hij (by omega)
    rw [decide_eq_true (by omega), hx] at hst
    simp only [cond_true] at hst
    cases hp : p o[j] with
    | true =>
      rw [hp] at hst
      simp only [whl, hst, cond_true]
      exact AL hf o ho n s i (j + 1) (by omega) (by omega) hl (by rw [ht, htj, List.filter_append]; simp [hp]) (hd1 s rfl)
    | false =>
      rw [hp] at hst
      simp only [whl, hst, cond_false]
      refine AL hf o ho n (s.set i o[j]) (i + 1) (j + 1) (by omega) (by omega) (by simpa using hl) ?_ (hd1 _ (List.drop_set_of_lt (by omega)))
      rw [htj, List.filter_append, ← ht]
      rw [List.take_add_one, List.take_set_of_le (Nat.le_refl i), List.getElem?_set_self (by omega)]
      simp [hp]
theorem CP {R : Type} {f : List α × Int × Int → Rd R (List α × Int × Int) (List α × Int)} (hf : T9 f p) {o : List α} (ho : o.length ≤ 1073741824) {ix : Int} (hix : ix = ixF p o) (hne : ix ≠ -1) :
    ∃ s' i', whl f (o.length + 1) (o, ix, ix + 1) = some (.brk (s', ((i' : Nat) : Int))) ∧ s'.take i' = o.filter (fun a => !p a) ∧ i' < o.length ∧ s'.length = o.length := by
  have hb := T8 p o
  obtain ⟨i, hi⟩ : ∃ i : Nat, ix = (i : Int) := ⟨ix.toNat, by omega⟩
  obtain ⟨h1, a, h2, h3⟩ := OI (p := p) (l := o) (i := i) (by omega)
  have hio : i < o.length := by omega
  obtain ⟨s', i', h4, h5⟩ := AL hf o ho (o.length - (i + 1)) o i (i + 1) (by omega) (by omega) rfl (by
    rw [List.take_add_one, h2, List.filter_append, h1]; simp [h3]) rfl
  refine ⟨s', i', ?_, h5⟩
  subst hi
  exact CO h4 (by omega)
theorem OJ {R : Type} {f : List α × Int × Int → Rd R (List α × Int × Int) (List α × Int)} (hf : T9 f p) {o : List α} (ho : o.length ≤ 1073741824) {ix : Int} (hix : ix = ixF p o) (hne : ix ≠ -1) : (whl f (o.length + 1) (o, ix, ix + 1)).isSome = true := by
  obtain ⟨s', i', h, _⟩ := CP hf ho hix hne
  rw [h]; rfl
theorem Qa2 {f : List α × Int × Int → Rd (List α) (List α × Int × Int) (List α × Int)} (hf : T9 f p) {o : List α} (ho : o.length ≤ 1073741824) {ix : Int} (hix : ix = ixF p o) :
    (bif (ix == (-1 : Int)) then o else Out.on (E0 f (o.length + 1) (o, ix, ix + 1)) (fun y => List.take (Int.toNat y.2) y.1)) = o.filter (fun a => !p a) := by
  cases h : (ix == (-1 : Int)) with
  | true =>
    have h : ix = -1 := by simpa using h
    simp only [cond_true]
    exact (List.filter_eq_self.2 fun a ha => by simp [OH (hix ▸ h) a ha]).symm
  | false =>
    obtain ⟨s', i', h1, h2, _⟩ := CP hf ho hix (by simpa using h)
    simp only [cond_false, E0, h1]
    simpa [Out.on] using h2
end
open GoE (enc wide)
def Ik (f : X4) (user : Int) : Bool := ((Zz user) && ((f.2.1 == user) || f.2.2.1))
theorem JQ (f : X4) (user : Int) : ACalls Tryz.prog 112 [.a [.i f.1, .i f.2.1, .b f.2.2.1, .i f.2.2.2.1, .h f.2.2.2.2], .i user] (.b (Ik f user)) := by
 refine en Qb Tryz.func112 fun w0 F0 hG => ?_
 refine sn Qb [1, 2, 4] [2] (p0) ?_
 refine Qe ?_
 refine mz [(2, .p 2 0), (4, .b false)] [0] [(2, [.i f.1, .i f.2.1, .b f.2.2.1, .i f.2.2.2.1, .h f.2.2.2.2])] [] ?_
 refine jn [(4, .b ((Zz user) && ((f.2.1 == user) || f.2.2.1)))] [1, 2, 4] [] [2] (Zz user) (fun h1 => ?_) (fun h1 => ?_) ?_
 ·
  refine Xb (f.2.1 == user) (fun h2 => ?_) (fun h2 => ?_)
  ·
   refine rn Qb [4] [] (pc 1 (cb h1 (Uk user)) (pt 6 h2 p0)) ?_
   exact ⟨rfl, Qd (by rw [h1, h2]; first | done | kernel_rfl)⟩
  ·
   refine rn Qb [4] [] (pc 1 (cb h1 (Uk user)) (pf 6 h2 p0)) ?_
   exact ⟨rfl, Qd (by rw [h1, h2]; first | done | kernel_rfl)⟩
 ·
  refine rn Qb [4] [] (pc 1 (cb h1 (Uk user)) p0) ?_
  exact ⟨rfl, Qd (by rw [h1]; first | done | kernel_rfl)⟩
 refine Qf ?_
 exact pb [] (show Ik f user = ((Zz user) && ((f.2.1 == user) || f.2.2.1)) from rfl)
def Zj (f : X4) : X4 := f
theorem XA (f : X4) : ACalls Tryz.prog 113 [.a [.i f.1, .i f.2.1, .b f.2.2.1, .i f.2.2.2.1, .h f.2.2.2.2]] (.a [.i ((Zj f).1), .i ((Zj f).2.1), .b ((Zj f).2.2.1), .i ((Zj f).2.2.2.1), .o 0 ((Zj f).2.2.2.2)]) := by
 refine en Qb Tryz.func113 fun w0 F0 hG => ?_
 refine sn Qb [1, 2] [1, 2] (p0) ?_
 refine tn Qb [1, 2] [1, 2] (pc 2 (HT f.2.2.2.2) p0) ?_
 refine tu Qb [(2, .p 2 0)] [0] [(2, [.i f.1, .i f.2.1, .b f.2.2.1, .i f.2.2.2.1, .o 320 f.2.2.2.2])] [] (p0) ?_
 refine Qf ?_
 exact pz [] (show Zj f = f from rfl) (fun z => .a [.i z.1, .i z.2.1, .b z.2.2.1, .i z.2.2.2.1, .o 0 z.2.2.2.2])
def D5 (f : X4) (q0 : Int) : Bool := (f.1 == q0)
theorem XB (f : X4) (q0 : Int) : ACalls Tryz.prog 144 [.a [.i f.1, .i f.2.1, .b f.2.2.1, .i f.2.2.2.1, .h f.2.2.2.2], .one (.rptr .sh [.i q0])] (.b (D5 f q0)) := by
 refine en Qb Tryz.func144 fun w0 F0 hG => ?_
 refine sn Qb [1, 2, 3] [2] (p0) ?_
 refine tn Qb [3] [] (p0) ?_
 refine Qf ?_
 exact pb [] (show D5 f q0 = (f.1 == q0) from rfl)
def Kn (c0 : Int) (k0 : Nat) (a0 : X4) (_ : Unit) : Rd (Int) (Unit) (Unit) := (bif (D5 a0 c0) then (.ret ((k0 : Nat) : Int)) else (.next ()))
def Ko (_ : Nat) (_ : Unit) : Unit := ()
def Vb (s_ : (List X4)) (c0 : Int) : Int := (Out.on (Xm (Kn c0) Ko s_ 0 ()) (fun _ => -1))
theorem Bm (s_ : (List X4)) (c0 : Int) : ACalls Tryz.prog 143 [.h s_, .one (.fnr 144 [[.i c0]])] (.i (Vb s_ c0)) := by
 refine en Qb Tryz.func143 fun w0 F0 hG => ?_
 refine sn Qb [0, 1, 4] [] (p0) ?_
 refine Qe ?_
 refine tn Qb [0, 1, 4, 7, 8] [] (pl 1 s_ p0) ?_
 refine mz [(4, .i 0), (7, .i (s_.length : Int)), (8, .i 0)] [] [] [] ?_
 refine wT 0 0 .sh s_ (fun hw1 hl2 => ?_)
 refine Mq (Kn c0) Ko s_ () (fun k0 _ => [(8, .i ((k0 : Nat) : Int))]) [8] (fun _ => []) [0, 1, 7, 8] (Qd (by kernel_rfl)) (fun k0 s0 hk0 hI0 => ?_) (fun k0 s0 hk0 hI0 => ?_) (fun y0 hD0 => ?_)
 ·
  obtain ⟨a0, hx0⟩ := Xk (l := s_) (i := k0) hk0
  refine sn Qb [0, 1, 4, 7, 8, 9] [] (pe 0 (Qs (decide_eq_true (p := ((k0 : Nat) : Int) < (s_.length : Int)) (by omega))) p0) ?_
  refine Qe ?_
  refine ckT ?_
  refine Qj ?_
  refine Qe ?_
  refine Qt ?_
  refine tn Qb [0, 1, 4, 5, 7, 8] [] (p0) ?_
  refine tu Qb [(5, .i ((k0 : Nat) : Int)), (16, .b (D5 a0 c0))] [] [] [] (pn 3 hx0 (pc 5 (XB a0 c0) p0)) ?_
  refine ck (D5 a0 c0) (fun h3 => ?_) (fun h3 => ?_)
  ·
   refine sn Qb [0, 1, 4, 7, 8] [] (p0) ?_
   refine Qf ?_
   have hr4 : (Xm (Kn c0) Ko s_ 0 ()) = .ret ((k0 : Nat) : Int) := Z1 hx0 (Q8 h3 (rfl)) hI0
   exact pi [] (Gu hr4)
  ·
   refine Qj ?_
   refine rn Qb [0, 1, 4, 7, 8] [] (pe 0 (Jb (Qv k0 (by omega))) p0) ?_
   exact Exists.intro _ (And.intro (Qd (by kernel_rfl)) (Qz hx0 (Qn h3 (rfl)) hI0))
 ·
  refine sn Qb [0, 1, 4, 7, 8, 9] [] (pe 0 (Qs (decide_eq_false (p := ((k0 : Nat) : Int) < (s_.length : Int)) (by omega))) p0) ?_
  refine Qe ?_
  refine ckF ?_
  refine Q3 ?_
  exact Exists.intro _ (And.intro (Qd (by kernel_rfl)) (Xl hk0 (rfl) hI0))
 ·
  refine sn Qb [4] [] (p0) ?_
  refine Qf ?_
  exact pi [] (Wf hD0 (rfl))
def Mn (s_ : Q5) (id : Int) : Int := (Vb s_.2.1 id)
theorem WP (s_ : Q5) (id : Int) : ACalls Tryz.prog 114 [.a [.h s_.1, .h s_.2.1, .i s_.2.2], .i id] (.i (Mn s_ id)) := by
 refine en Qb Tryz.func114 fun w0 F0 hG => ?_
 refine sn Qb [2, 3, 4] [2, 3] (p0) ?_
 refine tn Qb [4] [] (pc 3 (Bm s_.2.1 id) p0) ?_
 refine Qf ?_
 exact pi [] (show Mn s_ id = (Vb s_.2.1 id) from rfl)
def Bn (user : Int) (_ : Nat) (a0 : X4) (s0 : (List X4)) : Rd (Q5) ((List X4)) ((List X4)) := (bif (Ik a0 user) then (.next (s0 ++ [(Zj a0)])) else (.next s0))
def Bo (_ : Nat) (s0 : (List X4)) : (List X4) := s0
def Bp (s_ : Q5) (k1 : Nat) (_ : X4) (s1 : (List X4)) : Rd (Q5) ((List X4)) ((List X4)) := (bif decide ((Mn (s_.1, s1, s_.2.2) ((nth s1 k1).2.2.2.1)) < (0 : Int)) then (.next (List.set s1 k1 ((nth s1 k1).1, (nth s1 k1).2.1, (nth s1 k1).2.2.1, 0, (nth s1 k1).2.2.2.2))) else (.next s1))
def Bq (_ : Nat) (s1 : (List X4)) : (List X4) := s1
def Jd (s_ : Q5) (user : Int) : Q5 := (Out.on (Xm (Bn user) Bo s_.2.1 0 []) (fun y0 => (Out.on (Xm (Bp s_) Bq y0 0 y0) (fun y1 => (s_.1, y1, s_.2.2)))))
theorem O4 (s_ : Q5) (user : Int) : ACalls Tryz.prog 87 [.a [.h s_.1, .h s_.2.1, .i s_.2.2], .i user] (.a [.o 0 ((Jd s_ user).1), .o 1 ((Jd s_ user).2.1), .i ((Jd s_ user).2.2)]) := by
 refine en Qb Tryz.func87 fun w0 F0 hG => ?_
 refine sn Qb [1, 2, 4] [2, 4] (p0) ?_
 refine tN Qb Yn [1, 2, 4, 5] [2, 4, 5] (pc 2 (VO s_.1) p0) ?_
 refine Qe ?_
 refine tu Qb [(4, .p 4 0), (5, .p 5 0), (17, .h s_.2.1), (18, .i (s_.2.1.length : Int)), (19, .i 0)] [0] [(4, [.e 2, .e 5, .i 0]), (5, [.o 768 s_.1, .e 5, .i s_.2.2])] [] (pl 2 s_.2.1 p0) ?_
 refine wT 17 0 .sh s_.2.1 (fun hw1 hl2 => ?_)
 refine HQ (Bn user) Bo s_.2.1 [] (fun k0 _ => [(19, .i ((k0 : Nat) : Int))]) [19] (fun _ s0 => [(5, [.o 768 s_.1, .o 147210 s0, .i s_.2.2])]) [5] (fun _ => []) [1, 17, 18, 19] (fun y0 => [(5, [.o 768 s_.1, .o 147360 y0, .i s_.2.2])]) [5] (fun k0 s0 => List.length s0 ≤ k0) (F5 [(true, 5, 1, true, 320008, 5)] [] [] [(320008, 147210)] (by kernel_rfl)) (by simp) (fun k0 s0 hk0 hI0 => ?_) (fun k0 s0 hk0 hI0 => ?_) (fun y0 hD0 => ?_)
 ·
  have hA0_0 := hI0.2
  obtain ⟨a0, hx0⟩ := Xk (l := s_.2.1) (i := k0) hk0
  refine su Qb [(20, .b true)] [] [] [] (pe 0 (Qs (decide_eq_true (p := ((k0 : Nat) : Int) < (s_.2.1.length : Int)) (by omega))) p0) ?_
  refine Qe ?_
  refine ckT ?_
  refine Qj ?_
  refine Qe ?_
  refine Qt ?_
  refine sn Qb [1, 4, 5, 7, 17, 18, 19] [4, 5, 7] (pn 0 hx0 p0) ?_
  refine tn Qb [1, 4, 5, 7, 17, 18, 19, 25] [4, 5, 7] (pc 2 (JQ a0 user) p0) ?_
  refine ck (Ik a0 user) (fun h3 => ?_) (fun h3 => ?_)
  ·
   refine wB 5 1 (.own true 147210) s0 (fun hw4 hl5 => ?_)
   refine qU Qb Yn [] [20] [(5, [.o 768 s_.1, .slc (.own true 1984) 5 ((eL s0) ++ [[.i ((Zj a0).1), .i ((Zj a0).2.1), .b ((Zj a0).2.2.1), .i ((Zj a0).2.2.2.1), .h ((Zj a0).2.2.2.2)]]), .i s_.2.2])] [5] (pc 3 (XA a0) (pa s0 [(Zj a0)] p0)) ?_
   refine eqn [] [] [(5, [.o 768 s_.1, .o 1984 (s0 ++ [(Zj a0)]), .i s_.2.2])] [5] (by rw [show ((eL s0) ++ [[.i ((Zj a0).1), .i ((Zj a0).2.1), .b ((Zj a0).2.2.1), .i ((Zj a0).2.2.2.1), .h ((Zj a0).2.2.2.2)]]) = (eL (s0 ++ [(Zj a0)])) from Ky (rfl) (rfl)]; first | done | kernel_rfl) ?_
   refine rn Qb [1, 4, 5, 17, 18, 19] [4, 5] (pe 0 (Jb (Qv k0 (by omega))) p0) ?_
   exact Exists.intro (s0 ++ [(Zj a0)]) (And.intro (Xy [(1984, 147210)] (by kernel_rfl)) ⟨Qz hx0 (Q8 h3 (rfl)) hI0.1, by first | omega | (simp; omega) | simp⟩)
  ·
   refine Qj ?_
   refine qu Qb [(19, .i ((k0 + 1 : Nat) : Int))] [19, 20] [] [] (pe 0 (Jb (Qv k0 (by omega))) p0) ?_
   exact Exists.intro s0 (And.intro (Qd (by kernel_rfl)) ⟨Qz hx0 (Qn h3 (rfl)) hI0.1, by first | omega | (simp; omega) | simp⟩)
 ·
  have hA0_0 := hI0.2
  refine su Qb [(20, .b false)] [] [] [] (pe 0 (Qs (decide_eq_false (p := ((k0 : Nat) : Int) < (s_.2.1.length : Int)) (by omega))) p0) ?_
  refine Qe ?_
  refine ckF ?_
  refine Q3 ?_
  exact Exists.intro _ (And.intro (Xy [(147210, 147360)] (by kernel_rfl)) (Xl hk0 (rfl) hI0.1))
 ·
  refine Qe ?_
  refine sn Qb [4, 5, 35, 36, 37] [4, 5] (pl 2 y0 p0) ?_
  refine mz [(35, .o 147360 y0), (36, .i (y0.length : Int)), (37, .i 0)] [] [] [] ?_
  refine wT 35 0 (.own true 147360) y0 (fun hw6 hl7 => ?_)
  refine HQ (Bp s_) Bq y0 y0 (fun k1 s1 => [(35, .o 147360 s1), (37, .i ((k1 : Nat) : Int))]) [35, 37] (fun _ s1 => [(5, [.o 768 s_.1, .o 147360 s1, .i s_.2.2])]) [5] (fun _ => []) [35, 36, 37] (fun y1 => [(5, [.o 768 s_.1, .o 147360 y1, .i s_.2.2])]) [5] (fun _ s1 => List.length s1 = List.length y0) (Qd (by kernel_rfl)) (by simp) (fun k1 s1 hk1 hI1 => ?_) (fun k1 s1 hk1 hI1 => ?_) (fun y1 hD1 => ?_)
  ·
   have hA1_0 := hI1.2
   obtain ⟨a1, hx1⟩ := Xk (l := y0) (i := k1) hk1
   refine su Qb [(38, .b true)] [] [] [] (pe 0 (Qs (decide_eq_true (p := ((k1 : Nat) : Int) < (y0.length : Int)) (by omega))) p0) ?_
   refine Qe ?_
   refine ckT ?_
   refine Qj ?_
   refine Qe ?_
   refine Qt ?_
   refine wT 35 0 (.own true 147360) s1 (fun hw9 hl10 => ?_)
   have hx8 := ng s1 k1
   refine sn Qb [4, 5, 8, 9, 35, 36, 37] [4, 5, 9] (pN 1 hx8 p0) ?_
   refine tn Qb [4, 5, 8, 35, 36, 37, 46] [4, 5] (pc 3 (WP (s_.1, s1, s_.2.2) ((nth s1 k1).2.2.2.1)) p0) ?_
   refine ck (decide ((Mn (s_.1, s1, s_.2.2) ((nth s1 k1).2.2.2.1)) < (0 : Int))) (fun h11 => ?_) (fun h11 => ?_)
   ·
    have h11d := of_decide_eq_true h11
    refine qu Qb [(35, .one (.slc (.own true 147360) 5 (setRow (eL s1) k1 3 [.i 0])))] [35, 38] [(5, [.o 768 s_.1, .slc (.own true 147360) 5 (setRow (eL s1) k1 3 [.i 0]), .i s_.2.2])] [5] (pN 3 hx8 p0) ?_
    refine eqn [(35, .o 147360 (List.set s1 k1 ((nth s1 k1).1, (nth s1 k1).2.1, (nth s1 k1).2.2.1, 0, (nth s1 k1).2.2.2.2)))] [35] [(5, [.o 768 s_.1, .o 147360 (List.set s1 k1 ((nth s1 k1).1, (nth s1 k1).2.1, (nth s1 k1).2.2.1, 0, (nth s1 k1).2.2.2.2)), .i s_.2.2])] [5] (by rw [Z0 (y := ((nth s1 k1).1, (nth s1 k1).2.1, (nth s1 k1).2.2.1, 0, (nth s1 k1).2.2.2.2)) hx8 rfl]; first | done | kernel_rfl) ?_
    refine rn Qb [4, 5, 35, 36, 37] [4, 5] (pe 0 (Jb (Qv k1 (by omega))) p0) ?_
    exact Exists.intro (List.set s1 k1 ((nth s1 k1).1, (nth s1 k1).2.1, (nth s1 k1).2.2.1, 0, (nth s1 k1).2.2.2.2)) (And.intro (Qd (by kernel_rfl)) ⟨Qz hx1 (Q8 h11 (rfl)) hI1.1, (by first | omega | (simp only [List.length_set]; omega))⟩)
   ·
    have h11d := of_decide_eq_false h11
    refine Qj ?_
    refine qu Qb [(37, .i ((k1 + 1 : Nat) : Int))] [37, 38] [] [] (pe 0 (Jb (Qv k1 (by omega))) p0) ?_
    exact Exists.intro s1 (And.intro (Qd (by kernel_rfl)) ⟨Qz hx1 (Qn h11 (rfl)) hI1.1, (by first | omega | (simp only [List.length_set]; omega))⟩)
  ·
   have hA1_0 := hI1.2
   refine su Qb [(38, .b false)] [] [] [] (pe 0 (Qs (decide_eq_false (p := ((k1 : Nat) : Int) < (y0.length : Int)) (by omega))) p0) ?_
   refine Qe ?_
   refine ckF ?_
   refine Q3 ?_
   exact Exists.intro _ (And.intro (Qd (by kernel_rfl)) (Xl hk1 (rfl) hI1.1))
  ·
   refine sn Qb [4] [4] (p0) ?_
   refine Qf ?_
   exact pz [] (show Jd s_ user = _ from Wf hD0 (Wf hD1 (rfl))) (fun z => .a [.o 0 z.1, .o 1 z.2.1, .i z.2.2])
def Yc (s_ : Q5) (d : (List Y5)) (user : Int) : (List Qw) × Bool := (bif ((!(Xq s_)) || (!(Zz user))) then ([], false) else (((Jw (Jd s_ user) d)).1, ((Jw (Jd s_ user) d)).2))
theorem Lx (s_ : Q5) (d : (List Y5)) (user : Int) : ACalls Tryz.prog 58 [.a [.h s_.1, .h s_.2.1, .i s_.2.2], .h d, .i user] (.tup [(false, [.o 0 (((Yc s_ d user)).1)]), (false, [.b (((Yc s_ d user)).2)])]) := by
 refine en Qb Tryz.func58 fun w0 F0 hG => ?_
 refine sn Qb [1, 2, 3, 6, 7] [3] (p0) ?_
 refine Qe ?_
 refine Qe ?_
 refine mz [(3, .p 3 0), (6, .e 0), (7, .b false)] [0] [(3, [.h s_.1, .h s_.2.1, .i s_.2.2])] [] ?_
 refine jn [(15, .b ((!(Xq s_)) || (!(Zz user))))] [] [] [] (!(Xq s_)) (fun h1 => ?_) (fun h1 => ?_) ?_
 ·
  have h1n : (Xq s_) = false := Wz h1
  refine rn Qb [1, 2, 3, 6, 7, 15] [3] (pc 1 (cb h1n (Ci s_)) (pe 2 (show .b (!false) = .b true from rfl) p0)) ?_
  exact ⟨rfl, Qd (by rw [h1]; first | done | kernel_rfl)⟩
 ·
  have h1n : (Xq s_) = true := Je h1
  refine rn Qb [1, 2, 3, 6, 7, 15] [3] (pc 1 (cb h1n (Ci s_)) (pe 2 (show .b (!true) = .b false from rfl) (pc 5 (Uk user) p0))) ?_
  exact ⟨rfl, Qd (by rw [h1]; first | done | kernel_rfl)⟩
 refine ck ((!(Xq s_)) || (!(Zz user))) (fun h2 => ?_) (fun h2 => ?_)
 ·
  refine su Qb [] [15] [] [] (p0) ?_
  refine opn [(false, 6, 0, true, 384000, 2)] ?_
  refine Qf ?_
  exact pz [] (show Yc s_ d user = _ from Q8 h2 (rfl)) (fun z => .tup [(false, [.o 0 z.1]), (false, [.b z.2])])
 ·
  refine Qj ?_
  refine sn Qb [6, 7] [] (pc 2 (O4 s_ user) (pc 4 (QY (Jd s_ user) d) p0)) ?_
  refine Qf ?_
  exact pz [] (show Yc s_ d user = _ from Qn h2 (rfl)) (fun z => .tup [(false, [.o 0 z.1]), (false, [.b z.2])])
def Q0 (s_ : Q5) (d : (List Y5)) (user : Int) (name : ByteArray) : (List Int) := (Yi (((Yc s_ d user)).1) name)
theorem O5 (s_ : Q5) (d : (List Y5)) (user : Int) (name : ByteArray) : ACalls Tryz.prog 31 [.a [.h s_.1, .h s_.2.1, .i s_.2.2], .h d, .i user, .s name] (.o 0 (Q0 s_ d user name)) := by
 refine en Qb Tryz.func31 fun w0 F0 hG => ?_
 refine sn Qb [1, 2, 3, 4, 8] [4] (p0) ?_
 refine tn Qb [3, 8, 9] [] (pc 3 (Lx s_ d user) p0) ?_
 refine tu Qb [(8, .o 1280 (Yi (((Yc s_ d user)).1) name))] [0, 1, 2, 3] [] [] (pc 2 (Ck (((Yc s_ d user)).1) name) p0) ?_
 refine Qf ?_
 exact po0 [] (show Q0 s_ d user name = (Yi (((Yc s_ d user)).1) name) from rfl)
def Il (f : X4) (u : Int) : Bool := ((Q6 u 0 2) && ((f.2.1 == u) || f.2.2.1))
theorem JR (f : X4) (u : Int) : ACalls Tryz.prog 95 [.a [.i f.1, .i f.2.1, .b f.2.2.1, .i f.2.2.2.1, .h f.2.2.2.2], .i u] (.b (Il f u)) := by
 refine en Qb Tryz.func95 fun w0 F0 hG => ?_
 refine sn Qb [1, 2, 4] [2] (p0) ?_
 refine Qe ?_
 refine mz [(2, .p 2 0), (4, .b false)] [0] [(2, [.i f.1, .i f.2.1, .b f.2.2.1, .i f.2.2.2.1, .h f.2.2.2.2])] [] ?_
 refine jn [(4, .b ((Q6 u 0 2) && ((f.2.1 == u) || f.2.2.1)))] [1, 2, 4] [] [2] (Q6 u 0 2) (fun h1 => ?_) (fun h1 => ?_) ?_
 ·
  have h1w := D1.1 h1
  refine Xb (f.2.1 == u) (fun h2 => ?_) (fun h2 => ?_)
  ·
   refine rn Qb [4] [] (pc 1 (cb h1 (Zb u 0 2)) (pt 6 h2 p0)) ?_
   exact ⟨rfl, Qd (by rw [h1, h2]; first | done | kernel_rfl)⟩
  ·
   refine rn Qb [4] [] (pc 1 (cb h1 (Zb u 0 2)) (pf 6 h2 p0)) ?_
   exact ⟨rfl, Qd (by rw [h1, h2]; first | done | kernel_rfl)⟩
 ·
  refine rn Qb [4] [] (pc 1 (cb h1 (Zb u 0 2)) p0) ?_
  exact ⟨rfl, Qd (by rw [h1]; first | done | kernel_rfl)⟩
 refine Qf ?_
 exact pb [] (show Il f u = ((Q6 u 0 2) && ((f.2.1 == u) || f.2.2.1)) from rfl)
def Qo (f : X4) : X4 := f
theorem Im (f : X4) : ACalls Tryz.prog 96 [.a [.i f.1, .i f.2.1, .b f.2.2.1, .i f.2.2.2.1, .h f.2.2.2.2]] (.a [.i ((Qo f).1), .i ((Qo f).2.1), .b ((Qo f).2.2.1), .i ((Qo f).2.2.2.1), .o 0 ((Qo f).2.2.2.2)]) := by
 refine en Qb Tryz.func96 fun w0 F0 hG => ?_
 refine sn Qb [1, 2] [1, 2] (p0) ?_
 refine wB 1 4 .sh f.2.2.2.2 (fun hw1 hl2 => ?_)
 refine tn Qb [1, 2] [1, 2] (po 3 (.flat) (px (Hy (n := (([] : List (List PV)).length + ((eL f.2.2.2.2) : List (List PV)).length)) (B9 (rfl) (Ym f.2.2.2.2) (by first | omega | (simp only [List.length_cons, List.length_nil]; omega) | (simp; omega) | simp))) (px (Ub (Wm f.2.2.2.2)) p0))) ?_
 refine tu Qb [(2, .p 2 0)] [0] [(2, [.i f.1, .i f.2.1, .b f.2.2.1, .i f.2.2.2.1, .o 384 f.2.2.2.2])] [] (p0) ?_
 refine Qf ?_
 exact pz [] (show Qo f = f from rfl) (fun z => .a [.i z.1, .i z.2.1, .b z.2.2.1, .i z.2.2.2.1, .o 0 z.2.2.2.2])
def Cp (id : Int) (k0 : Nat) (a0 : X4) (_ : Unit) : Rd (Int) (Unit) (Unit) := (bif (a0.1 == id) then (.ret ((k0 : Nat) : Int)) else (.next ()))
def Cq (_ : Nat) (_ : Unit) : Unit := ()
def Xj (s_ : Q5) (id : Int) : Int := (Out.on (Xm (Cp id) Cq s_.2.1 0 ()) (fun _ => -1))
theorem LA (s_ : Q5) (id : Int) : -1 ≤ Xj s_ id ∧ Xj s_ id < (List.length s_.2.1 : Int) := by
 unfold Xj
 rw [PT (p := fun a : X4 => a.1 == id) (f := Cp id) (e := Cq) (fun _ _ _ => rfl)]
 exact T8 _ _
theorem M2 (s_ : Q5) (id : Int) : ACalls Tryz.prog 97 [.a [.h s_.1, .h s_.2.1, .i s_.2.2], .i id] (.i (Xj s_ id)) := by
 refine en Qb Tryz.func97 fun w0 F0 hG => ?_
 refine sn Qb [1, 2, 4] [2] (p0) ?_
 refine Qe ?_
 refine tn Qb [1, 2, 4, 5] [2] (p0) ?_
 refine mz [(2, .p 2 0), (4, .i 0), (5, .i 0)] [0] [(2, [.h s_.1, .h s_.2.1, .i s_.2.2])] [] ?_
 refine wB 2 1 .sh s_.2.1 (fun hw1 hl2 => ?_)
 refine SL (Cp id) Cq s_.2.1 () (fun k0 _ => [(5, .i ((k0 : Nat) : Int))]) [5] (fun _ _ => []) [] (fun _ => []) [1, 2, 5] (fun _ => []) [2] (Qd (by kernel_rfl)) (fun k0 s0 hk0 hI0 => ?_) (fun k0 s0 hk0 hI0 => ?_) (fun y0 hD0 => ?_)
 ·
  obtain ⟨a0, hx0⟩ := Xk (l := s_.2.1) (i := k0) hk0
  refine Qe ?_
  refine sn Qb [1, 2, 4, 5, 10] [2] (pl 3 s_.2.1 (pe 4 (Qs (decide_eq_true (p := ((k0 : Nat) : Int) < (s_.2.1.length : Int)) (by omega))) p0)) ?_
  refine ckT ?_
  refine Qj ?_
  refine Qe ?_
  refine Qt ?_
  refine tn Qb [1, 2, 4, 5, 20] [2] (pn 3 hx0 p0) ?_
  refine ck (a0.1 == id) (fun h3 => ?_) (fun h3 => ?_)
  ·
   refine tu Qb [(4, .i ((k0 : Nat) : Int))] [4] [] [] (p0) ?_
   refine Qf ?_
   have hr4 : (Xm (Cp id) Cq s_.2.1 0 ()) = .ret ((k0 : Nat) : Int) := Z1 hx0 (Q8 h3 (rfl)) hI0
   exact pi [] (Gu hr4)
  ·
   have h3d := Yb h3
   refine Qj ?_
   refine qu Qb [(5, .i ((k0 + 1 : Nat) : Int))] [5] [] [] (pe 1 (Jb (Qv k0 (by omega))) p0) ?_
   exact Exists.intro _ (And.intro (Qd (by kernel_rfl)) (Qz hx0 (Qn h3 (rfl)) hI0))
 ·
  refine Qe ?_
  refine sn Qb [1, 2, 4, 5, 10] [2] (pl 3 s_.2.1 (pe 4 (Qs (decide_eq_false (p := ((k0 : Nat) : Int) < (s_.2.1.length : Int)) (by omega))) p0)) ?_
  refine ckF ?_
  refine Q3 ?_
  exact Exists.intro _ (And.intro (Qd (by kernel_rfl)) (Xl hk0 (rfl) hI0))
 ·
  refine sn Qb [4] [] (p0) ?_
  refine Qf ?_
  exact pi [] (Wf hD0 (rfl))
def Br (u : Int) (_ : Nat) (a0 : X4) (s0 : (List X4)) : Rd (Q5) ((List X4)) ((List X4)) := (bif (Il a0 u) then (.next (s0 ++ [(Qo a0)])) else (.next s0))
def Bs (_ : Nat) (s0 : (List X4)) : (List X4) := s0
def Bt (s_ : Q5) (k1 : Nat) (s1 : (List X4)) : Rd (Q5) ((List X4)) ((List X4)) := (bif decide ((Xj (s_.1, s1, s_.2.2) ((nth s1 k1).2.2.2.1)) < (0 : Int)) then (.next (List.set s1 k1 ((nth s1 k1).1, (nth s1 k1).2.1, (nth s1 k1).2.2.1, 0, (nth s1 k1).2.2.2.2))) else (.next s1))
def Bu (_ : Nat) (s1 : (List X4)) : (List X4) := s1
def Kx (s_ : Q5) (u : Int) : Q5 := (Out.on (Xm (Br u) Bs s_.2.1 0 []) (fun y0 => (Out.on (Vz (Bt s_) Bu (List.length y0) 0 y0) (fun y1 => (s_.1, y1, s_.2.2)))))
theorem O6 (s_ : Q5) (u : Int) : ACalls Tryz.prog 72 [.a [.h s_.1, .h s_.2.1, .i s_.2.2], .i u] (.a [.o 0 ((Kx s_ u).1), .o 1 ((Kx s_ u).2.1), .i ((Kx s_ u).2.2)]) := by
 refine en Qb Tryz.func72 fun w0 F0 hG => ?_
 refine sn Qb [1, 2, 4] [2, 4] (p0) ?_
 refine wB 2 0 .sh s_.1 (fun hw1 hl2 => ?_)
 refine tN Qb Yn [1, 2, 4, 5] [2, 4, 5] (po 3 (.flat) (px (Hy (n := (([] : List (List PV)).length + ((eL s_.1) : List (List PV)).length)) (B9 (rfl) (Ym s_.1) (by first | omega | (simp only [List.length_cons, List.length_nil]; omega) | (simp; omega) | simp))) (px (Ub (Wm s_.1)) p0))) ?_
 refine Qe ?_
 refine tu Qb [(2, .p 2 0), (4, .p 4 0), (5, .p 5 0), (6, .i 0)] [0] [(2, [.h s_.1, .h s_.2.1, .i s_.2.2]), (4, [.e 2, .e 5, .i 0]), (5, [.o 704 s_.1, .e 5, .i s_.2.2])] [] (p0) ?_
 refine wB 2 1 .sh s_.2.1 (fun hw3 hl4 => ?_)
 refine HQ (Br u) Bs s_.2.1 [] (fun k0 _ => [(6, .i ((k0 : Nat) : Int))]) [6] (fun _ s0 => [(5, [.o 704 s_.1, .o 147212 s0, .i s_.2.2])]) [5] (fun _ => []) [1, 2, 6] (fun y0 => [(5, [.o 704 s_.1, .o 147362 y0, .i s_.2.2])]) [2, 5] (fun k0 s0 => List.length s0 ≤ k0) (F5 [(true, 5, 1, true, 320008, 5)] [] [] [(320008, 147212)] (by kernel_rfl)) (by simp) (fun k0 s0 hk0 hI0 => ?_) (fun k0 s0 hk0 hI0 => ?_) (fun y0 hD0 => ?_)
 ·
  have hA0_0 := hI0.2
  obtain ⟨a0, hx0⟩ := Xk (l := s_.2.1) (i := k0) hk0
  refine Qe ?_
  refine su Qb [(19, .b true)] [] [] [] (pl 3 s_.2.1 (pe 4 (Qs (decide_eq_true (p := ((k0 : Nat) : Int) < (s_.2.1.length : Int)) (by omega))) p0)) ?_
  refine ckT ?_
  refine Qj ?_
  refine Qe ?_
  refine Qt ?_
  refine sn Qb [1, 2, 4, 5, 6, 28] [2, 4, 5] (pn 3 hx0 (pc 6 (JR a0 u) p0)) ?_
  refine ck (Il a0 u) (fun h5 => ?_) (fun h5 => ?_)
  ·
   refine wB 5 1 (.own true 147212) s0 (fun hw6 hl7 => ?_)
   refine qU Qb Yn [] [19] [(5, [.o 704 s_.1, .slc (.own true 2432) 5 ((eL s0) ++ [[.i ((Qo a0).1), .i ((Qo a0).2.1), .b ((Qo a0).2.2.1), .i ((Qo a0).2.2.2.1), .h ((Qo a0).2.2.2.2)]]), .i s_.2.2])] [5] (pn 5 hx0 (pc 7 (Im a0) (pa s0 [(Qo a0)] p0))) ?_
   refine eqn [] [] [(5, [.o 704 s_.1, .o 2432 (s0 ++ [(Qo a0)]), .i s_.2.2])] [5] (by rw [show ((eL s0) ++ [[.i ((Qo a0).1), .i ((Qo a0).2.1), .b ((Qo a0).2.2.1), .i ((Qo a0).2.2.2.1), .h ((Qo a0).2.2.2.2)]]) = (eL (s0 ++ [(Qo a0)])) from Ky (rfl) (rfl)]; first | done | kernel_rfl) ?_
   refine rn Qb [1, 2, 4, 5, 6] [2, 4, 5] (pe 1 (Jb (Qv k0 (by omega))) p0) ?_
   exact Exists.intro (s0 ++ [(Qo a0)]) (And.intro (Xy [(2432, 147212)] (by kernel_rfl)) ⟨Qz hx0 (Q8 h5 (rfl)) hI0.1, by first | omega | (simp; omega) | simp⟩)
  ·
   refine Qj ?_
   refine qn Qb [1, 2, 4, 5, 6] [2, 4, 5] (pe 1 (Jb (Qv k0 (by omega))) p0) ?_
   exact Exists.intro s0 (And.intro (Qd (by kernel_rfl)) ⟨Qz hx0 (Qn h5 (rfl)) hI0.1, by first | omega | (simp; omega) | simp⟩)
 ·
  have hA0_0 := hI0.2
  refine Qe ?_
  refine su Qb [(19, .b false)] [] [] [] (pl 3 s_.2.1 (pe 4 (Qs (decide_eq_false (p := ((k0 : Nat) : Int) < (s_.2.1.length : Int)) (by omega))) p0)) ?_
  refine ckF ?_
  refine Q3 ?_
  exact Exists.intro _ (And.intro (Xy [(147212, 147362)] (by kernel_rfl)) (Xl hk0 (rfl) hI0.1))
 ·
  refine Qe ?_
  refine sn Qb [4, 5, 7] [4, 5] (p0) ?_
  refine mz [(7, .i 0)] [] [] [] ?_
  refine Qbr (Bt s_) Bu (List.length y0) y0 (fun k1 _ => [(7, .i ((k1 : Nat) : Int))]) [7] (fun _ s1 => [(5, [.o 704 s_.1, .o 147362 s1, .i s_.2.2])]) [5] (fun _ => []) [7] (fun y1 => [(5, [.o 704 s_.1, .o 147362 y1, .i s_.2.2])]) [5] (fun _ s1 => List.length s1 = List.length y0) (fun y1 => List.length y1 = List.length y0) (Qd (by kernel_rfl)) (by simp) (fun k1 s1 hk1 hI1 => ?_) (fun k1 s1 hk1 hI1 => ?_) (fun y1 hD1 => ?_)
  ·
   have hA1_0 := hI1.2
   refine Qe ?_
   refine sn Qb [4, 5, 7, 44] [4, 5] (pl 3 s1 (pe 4 (Qs (decide_eq_true (p := ((k1 : Nat) : Int) < (s1.length : Int)) (by omega))) p0)) ?_
   refine ckT ?_
   refine Qj ?_
   refine Qe ?_
   refine Qt ?_
   refine wB 5 1 (.own true 147362) s1 (fun hw9 hl10 => ?_)
   have hx8 := ng s1 k1
   refine tN Qb Yn [4, 5, 7, 55] [4, 5] (pN 4 hx8 (pc 7 (M2 (s_.1, s1, s_.2.2) ((nth s1 k1).2.2.2.1)) p0)) ?_
   refine ck (decide ((Xj (s_.1, s1, s_.2.2) ((nth s1 k1).2.2.2.1)) < (0 : Int))) (fun h11 => ?_) (fun h11 => ?_)
   ·
    have h11d := of_decide_eq_true h11
    refine qu Qb [] [] [(5, [.o 704 s_.1, .slc (.own true 147362) 5 (setRow (eL s1) k1 3 [.i 0]), .i s_.2.2])] [5] (pN 3 hx8 p0) ?_
    refine eqn [] [] [(5, [.o 704 s_.1, .o 147362 (List.set s1 k1 ((nth s1 k1).1, (nth s1 k1).2.1, (nth s1 k1).2.2.1, 0, (nth s1 k1).2.2.2.2)), .i s_.2.2])] [5] (by rw [Z0 (y := ((nth s1 k1).1, (nth s1 k1).2.1, (nth s1 k1).2.2.1, 0, (nth s1 k1).2.2.2.2)) hx8 rfl]; first | done | kernel_rfl) ?_
    refine rn Qb [4, 5, 7] [4, 5] (pe 1 (Jb (Qv k1 (by omega))) p0) ?_
    exact Exists.intro (List.set s1 k1 ((nth s1 k1).1, (nth s1 k1).2.1, (nth s1 k1).2.2.1, 0, (nth s1 k1).2.2.2.2)) (And.intro (Qd (by kernel_rfl)) ⟨K3 hk1 (Q8 h11 (rfl)) hI1.1, (by first | omega | (simp only [List.length_set]; omega))⟩)
   ·
    have h11d := of_decide_eq_false h11
    refine Qj ?_
    refine qu Qb [(7, .i ((k1 + 1 : Nat) : Int))] [7] [] [] (pe 1 (Jb (Qv k1 (by omega))) p0) ?_
    exact Exists.intro s1 (And.intro (Qd (by kernel_rfl)) ⟨K3 hk1 (Qn h11 (rfl)) hI1.1, (by first | omega | (simp only [List.length_set]; omega))⟩)
  ·
   have hA1_0 := hI1.2
   refine Qe ?_
   refine sn Qb [4, 5, 7, 44] [4, 5] (pl 3 s1 (pe 4 (Qs (decide_eq_false (p := ((k1 : Nat) : Int) < (s1.length : Int)) (by omega))) p0)) ?_
   refine ckF ?_
   refine Q3 ?_
   exact Exists.intro s1 (And.intro (Qd (by kernel_rfl)) ⟨A5 hk1 (rfl) hI1.1, by first | omega | (simp only [List.length_set]; omega)⟩)
  ·
   have hD1_0 := hD1.2
   refine sn Qb [4] [4] (p0) ?_
   refine Qf ?_
   exact pz [] (show Kx s_ u = _ from Wf hD0 (Wf hD1.1 (rfl))) (fun z => .a [.o 0 z.1, .o 1 z.2.1, .i z.2.2])
def Z6 (s_ : Q5) (d : (List Y5)) (u : Int) : (List Qw) × Bool := (bif ((!(Q6 u 0 2)) || (!(Xh s_))) then ([], false) else (((H6 (Kx s_ u) d)).1, ((H6 (Kx s_ u) d)).2))
theorem Ly (s_ : Q5) (d : (List Y5)) (u : Int) : ACalls Tryz.prog 49 [.a [.h s_.1, .h s_.2.1, .i s_.2.2], .h d, .i u] (.tup [(false, [.o 0 (((Z6 s_ d u)).1)]), (false, [.b (((Z6 s_ d u)).2)])]) := by
 refine en Qb Tryz.func49 fun w0 F0 hG => ?_
 refine sn Qb [1, 2, 3, 6, 7] [3] (p0) ?_
 refine Qe ?_
 refine Qe ?_
 refine mz [(3, .p 3 0), (6, .e 0), (7, .b false)] [0] [(3, [.h s_.1, .h s_.2.1, .i s_.2.2])] [] ?_
 refine jn [(15, .b ((!(Q6 u 0 2)) || (!(Xh s_))))] [] [] [] (!(Q6 u 0 2)) (fun h1 => ?_) (fun h1 => ?_) ?_
 ·
  have h1n : (Q6 u 0 2) = false := Wz h1
  refine rn Qb [1, 2, 3, 6, 7, 15] [3] (pc 1 (cb h1n (Zb u 0 2)) (pe 2 (show .b (!false) = .b true from rfl) p0)) ?_
  exact ⟨rfl, Qd (by rw [h1]; first | done | kernel_rfl)⟩
 ·
  have h1n : (Q6 u 0 2) = true := Je h1
  have h1nw := D1.1 h1n
  refine rn Qb [1, 2, 3, 6, 7, 15] [3] (pc 1 (cb h1n (Zb u 0 2)) (pe 2 (show .b (!true) = .b false from rfl) (pc 5 (K9 s_) p0))) ?_
  exact ⟨rfl, Qd (by rw [h1]; first | done | kernel_rfl)⟩
 refine ck ((!(Q6 u 0 2)) || (!(Xh s_))) (fun h2 => ?_) (fun h2 => ?_)
 ·
  refine sn Qb [1, 2, 3, 6, 7] [3] (p0) ?_
  refine Qf ?_
  exact pz [] (show Z6 s_ d u = _ from Q8 h2 (rfl)) (fun z => .tup [(false, [.o 0 z.1]), (false, [.b z.2])])
 ·
  have h2l : ((!(Q6 u 0 2))) = false := Pq h2
  have h2ln : (Q6 u 0 2) = true := Je h2l
  have h2lnw := D1.1 h2ln
  refine Qj ?_
  refine sn Qb [6, 7] [] (pc 2 (O6 s_ u) (pc 4 (QZ (Kx s_ u) d) p0)) ?_
  refine Qf ?_
  exact pz [] (show Z6 s_ d u = _ from Qn h2 (rfl)) (fun z => .tup [(false, [.o 0 z.1]), (false, [.b z.2])])
def Xg (s_ : Q5) (d : (List Y5)) (u : Int) (name : ByteArray) : (List Int) := (Vu (((Z6 s_ d u)).1) name)
theorem Hb (s_ : Q5) (d : (List Y5)) (u : Int) (name : ByteArray) : ACalls Tryz.prog 24 [.a [.h s_.1, .h s_.2.1, .i s_.2.2], .h d, .i u, .s name] (.o 0 (Xg s_ d u name)) := by
 refine en Qb Tryz.func24 fun w0 F0 hG => ?_
 refine sn Qb [1, 2, 3, 4, 8] [4] (p0) ?_
 refine tn Qb [3, 8, 9] [] (pc 3 (Ly s_ d u) p0) ?_
 refine tu Qb [(8, .o 1280 (Vu (((Z6 s_ d u)).1) name))] [0, 1, 2, 3] [] [] (pc 2 (Fh (((Z6 s_ d u)).1) name) p0) ?_
 refine Qf ?_
 exact po0 [] (show Xg s_ d u name = (Vu (((Z6 s_ d u)).1) name) from rfl)
end Go.Proofs.YtockoklfegpgeaaGreat
namespace Go.Proofs.YtockoklfegpgeaaGreat
open Go.RowKit
theorem WQ {α R S T : Type} {f : Nat → α → S → Rd R S T} {g : Nat → S → Rd R S T} {e e' : Nat → S → T} (hf : ∀ k a s, f k a s = g k s) (he : ∀ k s, e k s = e' k s) : ∀ (l : List α) (k : Nat) (s : S), Xm f e l k s = Vz g e' l.length k s
  | [], k, s => by simp [Xm, Vz, he]
  | a :: l, k, s => by
    simp only [Xm, Vz, List.length_cons, hf]
    cases g k s with
    | next s' => exact WQ hf he l (k + 1) s'
    | brk t => rfl
    | ret r => rfl
theorem EI (s : Q5) (u : Int) : Kx s u = Jd s u := by
  unfold Kx Jd
  rw [E3 (f := Br u) (g := Bn u) (e := Bs) (e' := Bo) (fun _ _ => rfl) s.2.1 0 _ (fun i a t _ => rfl)]
  congr 1
  funext y
  rw [WQ (f := Bp s) (g := Bt s) (e := Bq) (e' := Bu) (fun _ _ _ => rfl) (fun _ _ => rfl)]
theorem AM (s : Q5) (d : List Y5) (u : Int) : Z6 s d u = Yc s d u := by
  unfold Z6 Yc
  rw [JF, EI, AK]
  have h : Q6 u 0 2 = Zz u := rfl
  rw [h, Bool.or_comm]
theorem Gq (s : Q5) (d : List Y5) (u : Int) (n : ByteArray) : Xg s d u n = Q0 s d u n := by
  unfold Xg Q0
  rw [AM]
  rfl
theorem TG {s : Q5} (h : Xq s = true) : s.2.1.length ≤ 12 := by
  unfold Xq at h
  cases hf : Xm (Y8 s) J6 s.2.1 0 () with
  | brk t =>
    rw [hf] at h
    simp only [Out.on, Bool.and_eq_true, decide_eq_true_eq] at h
    omega
  | ret r =>
    rw [hf] at h
    obtain rfl : r = true := h
    exfalso
    have key : ∀ (l : List X4) k, Xm (Y8 s) J6 l k () ≠ .ret true := by
      intro l
      induction l with
      | nil => intro k h; simp [Xm] at h
      | cons a l ih =>
        intro k h
        simp only [Xm] at h
        unfold Y8 at h
        split at h
        · rename_i hf; exact ih _ h
        · cases h
        · rename_i r hf; cases h; revert hf; generalize (_ || _ : Bool) = c; cases c <;> simp
    exact key _ _ hf
theorem Qa3 {fs : List X4} {p : X4 → Bool} {x : Int} (h : x ∈ sel fs (fun f => f.1) p) : ∃ f, f ∈ fs ∧ f.1 = x := by
  obtain ⟨f, hf, e⟩ := List.mem_map.1 h
  exact ⟨f, (List.mem_filter.1 hf).1, e⟩
theorem LB {s : Q5} (h : Xq s = true) {f : X4} (hf : f ∈ s.2.1) : 1 ≤ f.1 ∧ f.1 ≤ 60 := by
  have hv : Jr s.1 f = true := by
    unfold Xq at h
    obtain ⟨i, hi⟩ := List.getElem?_of_mem hf
    cases hl : Xm (Y8 s) J6 s.2.1 0 () with
    | brk t =>
      have := Fs (fun k a t => by unfold Y8; generalize (_ || _ : Bool) = c; cases c <;> simp) hl i f hi
      unfold Y8 at this
      cases hv : Jr s.1 f with
      | true => rfl
      | false => rw [hv] at this; simp at this
    | ret r =>
      rw [hl] at h
      obtain rfl : r = true := h
      exfalso
      have key : ∀ (l : List X4) k, Xm (Y8 s) J6 l k () ≠ .ret true := by
        intro l
        induction l with
        | nil => intro k h; simp [Xm] at h
        | cons a l ih =>
          intro k h
          simp only [Xm] at h
          unfold Y8 at h
          split at h
          · rename_i hf; exact ih _ h
          · cases h
          · rename_i r hf; cases h; revert hf; generalize (_ || _ : Bool) = c; cases c <;> simp
      exact key _ _ hl
  unfold Jr at hv
  cases hl : Xm (Kk s.1 f) V2 f.2.2.2.2 0 () with
  | brk t =>
    rw [hl] at hv
    simp only [Out.on] at hv
    cases hw : Yx f.1 1 60 with
    | true => exact Mh.1 hw
    | false => rw [hw] at hv; simp at hv
  | ret r =>
    rw [hl] at hv
    obtain rfl : r = true := hv
    exfalso
    have key : ∀ (l : List Bf) k, Xm (Kk s.1 f) V2 l k () ≠ .ret true := by
      intro l
      induction l with
      | nil => intro k h; simp [Xm] at h
      | cons a l ih =>
        intro k h
        simp only [Xm] at h
        unfold Kk at h
        split at h
        · rename_i hf; exact ih _ h
        · cases h
        · rename_i r hf; cases h; revert hf; generalize (bif decide (((k : Nat) : Int) > (0 : Int)) then _ else _ : Bool) = c; cases c <;> simp
    exact key _ _ hl
theorem TH (s : Q5) (d : List Y5) (u : Int) : ((Yc s d u)).1.length ≤ 5 ∧ ∀ x, x ∈ ((Yc s d u)).1 → x.2.length ≤ 12 ∧ ∀ n, n ∈ x.2 → 1 ≤ n ∧ n ≤ 60 := by
  unfold Yc
  cases hc : ((!(Xq s)) || (!(Zz u))) with
  | true => exact ⟨Nat.zero_le _, fun x hx => by simp at hx⟩
  | false =>
    simp only [cond_false]
    cases he : (Jw (Jd s u) d).2 with
    | false => rw [T7 he]; exact ⟨Nat.zero_le _, fun x hx => by simp at hx⟩
    | true =>
      obtain ⟨h1, h2, h3, h4⟩ := T6 he
      have h5 := TG h2
      have hlen := congrArg List.length h3
      rw [List.length_map, List.length_map] at hlen
      refine ⟨by omega, fun x hx => ?_⟩
      obtain ⟨p, hp⟩ := h4 x hx
      refine ⟨by rw [hp]; exact Nat.le_trans (IN _ _ _) h5, fun n hn => ?_⟩
      rw [hp] at hn
      obtain ⟨f, hf, rfl⟩ := Qa3 hn
      exact LB h2 hf
theorem JS (nm : ByteArray) : ∀ (o : List Qw) (k : Nat), Xm (Ku nm) V8 o k () = .brk () ∨ ∃ x, x ∈ o ∧ Xm (Ku nm) V8 o k () = .ret x.2
  | [], _ => .inl rfl
  | b :: o, k => by
    simp only [Xm, Ku]
    cases (b.1.toList == nm.toList) with
    | true => exact .inr ⟨b, List.mem_cons_self .., rfl⟩
    | false =>
      simp only [cond_false]
      rcases JS nm o (k + 1) with h | ⟨x, hx, h⟩
      · exact .inl h
      · exact .inr ⟨x, List.mem_cons_of_mem _ hx, h⟩
theorem Cr (s : Q5) (d : List Y5) (u : Int) (n : ByteArray) : (Q0 s d u n).length ≤ 12 := by
  unfold Q0 Yi
  rcases JS n (Yc s d u).1 0 with h | ⟨x, hx, h⟩
  · rw [h]; exact Nat.zero_le _
  · rw [h]; exact ((TH s d u).2 x hx).1
theorem XC (s : Q5) (d : List Y5) (u : Int) (n : ByteArray) : (Xg s d u n).length ≤ 12 := by rw [Gq]; exact Cr s d u n
theorem Gr (l : List Int) : GoD.size l = l.length := DT (fun _ => rfl)
end Go.Proofs.YtockoklfegpgeaaGreat
namespace Go.Proofs.YtockoklfegpgeaaGreat
open Go.RowKit
open GoD (rd own)
theorem PU (a : UInt8) : InR .u8 (a.toNat : Int) := by
  have h : a.toNat < 256 := a.toNat_lt
  constructor <;> simp [IntKind.min, IntKind.max, IntKind.bits, IntKind.signed] <;> omega
instance instGoEU8 : GoE UInt8 where
  enc a := [.int .u8 (a.toNat : Int)]
  enc_len _ := rfl
  n_pos := Nat.zero_lt_one
  wide _ := True
  wide_size _ := trivial
  vc_wide _ := trivial
  rd_vc {w cs a} h _ := by rw [show cs = _ from h]; exact .cons (.int (PU a)) .nil
  vc_rd h := by
    cases h with
    | cons h1 h2 => cases h2; cases h1; rfl
  own_oc h _ := by obtain ⟨rfl, h⟩ := h; rw [h]; exact OC.cons (L1 := []) (L2 := []) (.int (PU _)) .nil
  oc_own h _ := by
    cases h with
    | cons h1 h2 => cases h2; cases h1; exact ⟨rfl, rfl⟩
open GoE (enc wide)
def O7 (k0 : Nat) (a0 : UInt8) (s0 : Int) : Rd (Nat × Int) (Int) (Int) := (bif decide (((k0 : Nat) : Int) < (4000 : Int)) then (.next (KO .i64 (IntKind.i64.wrap (IntKind.i64.wrap (IntKind.i64.wrap (s0 * 131) + IntKind.i64.wrap (UInt8.toNat a0 : Int)) + 7)) 1073741823)) else (.brk s0))
def O8 (_ : Nat) (s0 : Int) : Int := s0
def K4 (code : (List UInt8)) : Nat × Int := (Out.on (Xm O7 O8 code 0 (IntKind.i64.wrap (94701 + (code.length : Int)))) (fun y0 => (0, y0)))
set_option maxRecDepth 30000 in
theorem D6 (code : (List UInt8)) : ANew Tryz.prog 25 [.h code] [.h code, .i (((K4 code).1 : Nat) : Int), .i ((K4 code).2)] := by
 refine SN Tryz.func25 (fn := Tryz.f25) rfl (by unfold C9; kernel_rfl) (Nat.le_of_ble_eq_true rfl) rfl fun w0 F0 hG => ?_
 refine sn Qb [0] [] (p0) ?_
 refine tn Qb [0, 3] [] (pl 1 code p0) ?_
 refine Qe ?_
 refine tu Qb [(3, .i (IntKind.i64.wrap (94701 + (code.length : Int)))), (4, .i 0)] [] [] [] (p0) ?_
 refine wT 0 0 .sh code (fun hw1 hl2 => ?_)
 refine Mq O7 O8 code (IntKind.i64.wrap (94701 + (code.length : Int))) (fun k0 s0 => [(3, .i s0), (4, .i ((k0 : Nat) : Int))]) [3, 4] (fun y0 => [(3, .i y0)]) [3, 4] (Qd (by kernel_rfl)) (fun k0 s0 hk0 hI0 => ?_) (fun k0 s0 hk0 hI0 => ?_) (fun y0 hD0 => ?_)
 ·
  obtain ⟨a0, hx0⟩ := Xk (l := code) (i := k0) hk0
  refine Qe ?_
  refine sn Qb [0, 3, 4, 15] [] (pl 2 code (pe 3 (Qs (decide_eq_true (p := ((k0 : Nat) : Int) < (code.length : Int)) (by omega))) p0)) ?_
  refine ck (decide (((k0 : Nat) : Int) < (4000 : Int))) (fun h3 => ?_) (fun h3 => ?_)
  ·
   have h3d := of_decide_eq_true h3
   refine Qj ?_
   refine Qe ?_
   refine Qt ?_
   refine qn Qb [0, 3, 4] [] (pn 4 hx0 p0) ?_
   refine qu Qb [(3, .i (KO .i64 (IntKind.i64.wrap (IntKind.i64.wrap (IntKind.i64.wrap (s0 * 131) + IntKind.i64.wrap (UInt8.toNat a0 : Int)) + 7)) 1073741823)), (4, .i ((k0 + 1 : Nat) : Int))] [3, 4] [] [] (pe 1 (Jb (Qv k0 (by omega))) p0) ?_
   exact Exists.intro _ (And.intro (Qd (by kernel_rfl)) (Qz hx0 (Q8 h3 (rfl)) hI0))
  ·
   refine Q3 ?_
   exact Exists.intro _ (And.intro (Qd (by kernel_rfl)) (R9 hx0 (Qn h3 (rfl)) hI0))
 ·
  refine Qe ?_
  refine sn Qb [0, 3, 4, 15] [] (pl 2 code (pe 3 (Qs (decide_eq_false (p := ((k0 : Nat) : Int) < (code.length : Int)) (by omega))) p0)) ?_
  refine ckF ?_
  refine Q3 ?_
  exact Exists.intro _ (And.intro (Qd (by kernel_rfl)) (Xl hk0 (rfl) hI0))
 ·
  refine sn Qb [2] [31] (p0) ?_
  refine Qf ?_
  exact Qb6 [] 2 31 (congrArg (fun z => ([.h code, .i ((z.1 : Nat) : Int), .i z.2] : List C)) (show K4 code = (0, y0) from Wf hD0 (rfl)).symm)
def Zv (code : (List UInt8)) (ci : Nat) (ch : Int) : Int × Nat × Int := (bif decide (((ci : Nat) : Int) < (code.length : Int)) then (KO .i64 (IntKind.i64.wrap (KO .i64 (LY .i64 (KJ .i64 (IntKind.i64.wrap (IntKind.i64.wrap (ch * 6364136223846793005) + 1442695040888963407)) 33) (KJ .i64 (IntKind.i64.wrap (IntKind.i64.wrap (ch * 6364136223846793005) + 1442695040888963407)) 45)) 255 + IntKind.i64.wrap (UInt8.toNat (nth code ci) : Int))) 255, ci + 1, IntKind.i64.wrap (IntKind.i64.wrap (ch * 6364136223846793005) + 1442695040888963407)) else (KO .i64 (LY .i64 (KJ .i64 (IntKind.i64.wrap (IntKind.i64.wrap (ch * 6364136223846793005) + 1442695040888963407)) 33) (KJ .i64 (IntKind.i64.wrap (IntKind.i64.wrap (ch * 6364136223846793005) + 1442695040888963407)) 45)) 255, ci, IntKind.i64.wrap (IntKind.i64.wrap (ch * 6364136223846793005) + 1442695040888963407)))
theorem Cs (code : (List UInt8)) (ci : Nat) (ch : Int) : AGive Tryz.prog 57 [.h code, .i ((ci : Nat) : Int), .i ch] [] (.i (((Zv code ci ch)).1)) [.h code, .i ((((Zv code ci ch)).2.1 : Nat) : Int), .i (((Zv code ci ch)).2.2)] := by
 refine Kf (tt := tt) Qb Tryz.func57 (fn := Tryz.f57) rfl (by unfold C9; kernel_rfl) (Nat.le_of_ble_eq_true rfl) (Nat.le_of_ble_eq_true rfl) rfl rfl fun w0 F0 hG => ?_
 refine sn Qb [0, 2] [60000] (p0) ?_
 refine tn Qb [0, 2] [60000] (p0) ?_
 refine tU Qb Yn [(2, .i 0), (3, .i (KO .i64 (LY .i64 (KJ .i64 (IntKind.i64.wrap (IntKind.i64.wrap (ch * 6364136223846793005) + 1442695040888963407)) 33) (KJ .i64 (IntKind.i64.wrap (IntKind.i64.wrap (ch * 6364136223846793005) + 1442695040888963407)) 45)) 255))] [] [(60000, [.h code, .i ((ci : Nat) : Int), .i (IntKind.i64.wrap (IntKind.i64.wrap (ch * 6364136223846793005) + 1442695040888963407))])] [60000] (p0) ?_
 refine Qe ?_
 refine sN Qb Yn [0, 2, 3, 34] [60000] (pl 8 code p0) ?_
 refine ck (decide (((ci : Nat) : Int) < (code.length : Int))) (fun h1 => ?_) (fun h1 => ?_)
 ·
  have h1d := of_decide_eq_true h1
  refine wB 60000 0 .sh code (fun hw3 hl4 => ?_)
  have hx2 := ng code ci
  refine tN Qb Yn [0, 2, 3] [60000] (pn 9 hx2 p0) ?_
  refine qu Qb [(3, .i (KO .i64 (IntKind.i64.wrap (KO .i64 (LY .i64 (KJ .i64 (IntKind.i64.wrap (IntKind.i64.wrap (ch * 6364136223846793005) + 1442695040888963407)) 33) (KJ .i64 (IntKind.i64.wrap (IntKind.i64.wrap (ch * 6364136223846793005) + 1442695040888963407)) 45)) 255 + IntKind.i64.wrap (UInt8.toNat (nth code ci) : Int))) 255))] [3] [(60000, [.h code, .i ((ci + 1 : Nat) : Int), .i (IntKind.i64.wrap (IntKind.i64.wrap (ch * 6364136223846793005) + 1442695040888963407))])] [60000] (pe 5 (Jb (Qv ci (by omega))) p0) ?_
  refine sn Qb [0, 2] [60000] (p0) ?_
  refine Qf ?_
  have hE5 : Zv code ci ch = (KO .i64 (IntKind.i64.wrap (KO .i64 (LY .i64 (KJ .i64 (IntKind.i64.wrap (IntKind.i64.wrap (ch * 6364136223846793005) + 1442695040888963407)) 33) (KJ .i64 (IntKind.i64.wrap (IntKind.i64.wrap (ch * 6364136223846793005) + 1442695040888963407)) 45)) 255 + IntKind.i64.wrap (UInt8.toNat (nth code ci) : Int))) 255, ci + 1, IntKind.i64.wrap (IntKind.i64.wrap (ch * 6364136223846793005) + 1442695040888963407)) := Q8 h1 (rfl)
  exact He [] (congrArg (fun z => (.i z.1 : AV)) hE5.symm) (congrArg (fun z => ([.h code, .i ((z.2.1 : Nat) : Int), .i z.2.2] : List C)) hE5.symm)
 ·
  refine Qj ?_
  refine tn Qb [0, 2] [60000] (p0) ?_
  refine Qf ?_
  have hE6 : Zv code ci ch = (KO .i64 (LY .i64 (KJ .i64 (IntKind.i64.wrap (IntKind.i64.wrap (ch * 6364136223846793005) + 1442695040888963407)) 33) (KJ .i64 (IntKind.i64.wrap (IntKind.i64.wrap (ch * 6364136223846793005) + 1442695040888963407)) 45)) 255, ci, IntKind.i64.wrap (IntKind.i64.wrap (ch * 6364136223846793005) + 1442695040888963407)) := Qn h1 (rfl)
  exact He [] (congrArg (fun z => (.i z.1 : AV)) hE6.symm) (congrArg (fun z => ([.h code, .i ((z.2.1 : Nat) : Int), .i z.2.2] : List C)) hE6.symm)
end Go.Proofs.YtockoklfegpgeaaGreat
namespace Go.Proofs.YtockoklfegpgeaaGreat
open Go.RowKit
theorem Qa4 (a : Int) : 0 ≤ KO .i64 a 255 ∧ KO .i64 a 255 ≤ 255 := by
  have h : (BitVec.ofInt 64 a &&& BitVec.ofInt 64 255).toNat ≤ 255 := by
    rw [BitVec.toNat_and]
    exact Nat.le_trans Nat.and_le_right (by decide)
  have e : KO .i64 a 255 = IntKind.i64.wrap (BitVec.ofInt 64 a &&& BitVec.ofInt 64 255).toNat := rfl
  rw [e, IntWalk.i64_in _ (by omega)]
  omega
theorem K6 (code : List UInt8) (ci : Nat) (ch : Int) : 0 ≤ (Zv code ci ch).1 ∧ (Zv code ci ch).1 ≤ 255 := by
  unfold Zv
  cases decide (((ci : Nat) : Int) < (code.length : Int)) <;> exact Qa4 _
open GoE (enc wide)
def Qk (code : (List UInt8)) (ci : Nat) (ch : Int) (n : Int) : Int × Nat × Int := (bif decide (n ≤ (0 : Int)) then (0, ci, ch) else (bif decide (n ≤ (256 : Int)) then (lt (α := Int × Nat × Int) (Zv code ci ch) (fun x4 => (Int.tmod x4.1 n, x4.2.1, x4.2.2))) else (lt (α := Int × Nat × Int) (Zv code ci ch) (fun x6 => (lt (α := Int × Nat × Int) (Zv code x6.2.1 x6.2.2) (fun x7 => (lt (α := Int × Nat × Int) (Zv code x7.2.1 x7.2.2) (fun x8 => (lt (α := Int × Nat × Int) (Zv code x8.2.1 x8.2.2) (fun x9 => (Int.tmod ((((x6.1 * 16777216) + (x7.1 * 65536)) + (x8.1 * 256)) + x9.1) n, x9.2.1, x9.2.2)))))))))))
theorem Q7 (code : (List UInt8)) (ci : Nat) (ch : Int) (n : Int) : AGive Tryz.prog 28 [.h code, .i ((ci : Nat) : Int), .i ch] [.i n] (.i (((Qk code ci ch n)).1)) [.h code, .i ((((Qk code ci ch n)).2.1 : Nat) : Int), .i (((Qk code ci ch n)).2.2)] := by
 refine Kf (tt := tt) Qb Tryz.func28 (fn := Tryz.f28) rfl (by unfold C9; kernel_rfl) (Nat.le_of_ble_eq_true rfl) (Nat.le_of_ble_eq_true rfl) rfl rfl fun w0 F0 hG => ?_
 refine sn Qb [0, 1, 4] [60000] (p0) ?_
 refine Qe ?_
 refine tn Qb [0, 1, 4, 10] [60000] (p0) ?_
 refine ck (decide (n ≤ (0 : Int))) (fun h1 => ?_) (fun h1 => ?_)
 ·
  refine tu Qb [(4, .i 0)] [] [] [] (p0) ?_
  refine Qf ?_
  have hE2 : Qk code ci ch n = (0, ci, ch) := Q8 h1 (rfl)
  exact He [] (congrArg (fun z => (.i z.1 : AV)) hE2.symm) (congrArg (fun z => ([.h code, .i ((z.2.1 : Nat) : Int), .i z.2.2] : List C)) hE2.symm)
 ·
  have h1d := of_decide_eq_false h1
  refine Qj ?_
  refine Qe ?_
  refine tu Qb [(4, .i 0), (12, .b (decide (n ≤ (256 : Int))))] [] [] [] (p0) ?_
  refine ck (decide (n ≤ (256 : Int))) (fun h3 => ?_) (fun h3 => ?_)
  ·
   have h3d := of_decide_eq_true h3
   obtain ⟨x4, hx4⟩ : ∃ z : Int × Nat × Int, Zv code ci ch = z := ⟨_, rfl⟩
   have hbx4 := hx4 ▸ K6 code ci ch
   refine sn Qb [0, 1, 4] [60000] (po 1 (.give none (.i x4.1) [.h code, .i ((x4.2.1 : Nat) : Int), .i x4.2.2]) (px (Q2 (hx4 ▸ Cs code ci ch)) (px (Qaj (n := n) (by omega)) (px (PD (k := .i64) (n := Int.tmod x4.1 n) (BL (by omega))) p0)))) ?_
   refine Qf ?_
   have hE5 : Qk code ci ch n = (Int.tmod x4.1 n, x4.2.1, x4.2.2) := Qn h1 (Q8 h3 (Ys hx4 (rfl)))
   exact He [] (congrArg (fun z => (.i z.1 : AV)) hE5.symm) (congrArg (fun z => ([.h code, .i ((z.2.1 : Nat) : Int), .i z.2.2] : List C)) hE5.symm)
  ·
   have h3d := of_decide_eq_false h3
   refine Qj ?_
   obtain ⟨x6, hx6⟩ : ∃ z : Int × Nat × Int, Zv code ci ch = z := ⟨_, rfl⟩
   have hbx6 := hx6 ▸ K6 code ci ch
   refine sn Qb [0, 1, 4, 5] [60000] (po 1 (.give none (.i x6.1) [.h code, .i ((x6.2.1 : Nat) : Int), .i x6.2.2]) (px (Q2 (hx6 ▸ Cs code ci ch)) p0)) ?_
   obtain ⟨x7, hx7⟩ : ∃ z : Int × Nat × Int, Zv code x6.2.1 x6.2.2 = z := ⟨_, rfl⟩
   have hbx7 := hx7 ▸ K6 code x6.2.1 x6.2.2
   refine tn Qb [0, 1, 4, 5, 6] [60000] (po 1 (.give none (.i x7.1) [.h code, .i ((x7.2.1 : Nat) : Int), .i x7.2.2]) (px (Q2 (hx7 ▸ Cs code x6.2.1 x6.2.2)) p0)) ?_
   obtain ⟨x8, hx8⟩ : ∃ z : Int × Nat × Int, Zv code x7.2.1 x7.2.2 = z := ⟨_, rfl⟩
   have hbx8 := hx8 ▸ K6 code x7.2.1 x7.2.2
   refine tu Qb [(5, .i x6.1), (6, .i x7.1), (7, .i x8.1)] [12] [(60000, [.h code, .i ((x8.2.1 : Nat) : Int), .i x8.2.2])] [60000] (po 1 (.give none (.i x8.1) [.h code, .i ((x8.2.1 : Nat) : Int), .i x8.2.2]) (px (Q2 (hx8 ▸ Cs code x7.2.1 x7.2.2)) p0)) ?_
   obtain ⟨x9, hx9⟩ : ∃ z : Int × Nat × Int, Zv code x8.2.1 x8.2.2 = z := ⟨_, rfl⟩
   have hbx9 := hx9 ▸ K6 code x8.2.1 x8.2.2
   refine sn Qb [0, 1, 4, 5, 6, 7, 8] [60000] (po 1 (.give none (.i x9.1) [.h code, .i ((x9.2.1 : Nat) : Int), .i x9.2.2]) (px (Q2 (hx9 ▸ Cs code x8.2.1 x8.2.2)) p0)) ?_
   refine tn Qb [0, 4] [60000] (pe 1 (Jb (IntWalk.i64_in (x6.1 * 16777216) (by omega))) (pe 3 (Jb (IntWalk.i64_in (x7.1 * 65536) (by omega))) (pe 4 (Jb (IntWalk.i64_in ((x6.1 * 16777216) + (x7.1 * 65536)) (by omega))) (pe 6 (Jb (IntWalk.i64_in (x8.1 * 256) (by omega))) (pe 7 (Jb (IntWalk.i64_in (((x6.1 * 16777216) + (x7.1 * 65536)) + (x8.1 * 256)) (by omega))) (pe 9 (Jb (IntWalk.i64_in ((((x6.1 * 16777216) + (x7.1 * 65536)) + (x8.1 * 256)) + x9.1) (by omega))) (px (Qaj (n := n) (by omega)) (px (PD (k := .i64) (n := Int.tmod ((((x6.1 * 16777216) + (x7.1 * 65536)) + (x8.1 * 256)) + x9.1) n) (BL (by omega))) p0)))))))) ?_
   refine Qf ?_
   have hE10 : Qk code ci ch n = (Int.tmod ((((x6.1 * 16777216) + (x7.1 * 65536)) + (x8.1 * 256)) + x9.1) n, x9.2.1, x9.2.2) := Qn h1 (Qn h3 (Ys hx6 (Ys hx7 (Ys hx8 (Ys hx9 (rfl))))))
   exact He [] (congrArg (fun z => (.i z.1 : AV)) hE10.symm) (congrArg (fun z => ([.h code, .i ((z.2.1 : Nat) : Int), .i z.2.2] : List C)) hE10.symm)
end Go.Proofs.YtockoklfegpgeaaGreat
namespace Go.Proofs.YtockoklfegpgeaaGreat
open Go.RowKit
theorem Qy (code : List UInt8) (ci : Nat) (ch n : Int) : 0 ≤ (Qk code ci ch n).1 ∧ (0 < n → (Qk code ci ch n).1 < n) ∧ (n ≤ 0 → (Qk code ci ch n).1 = 0) := by
  unfold Qk lt
  by_cases h0 : n ≤ 0
  · rw [decide_eq_true h0]
    exact ⟨Int.le_refl _, fun h => by omega, fun _ => rfl⟩
  · rw [decide_eq_false h0]
    have hn : 0 < n := by omega
    cases decide (n ≤ (256 : Int)) with
    | true =>
      have := K6 code ci ch
      exact ⟨Int.tmod_nonneg _ this.1, fun _ => Int.tmod_lt_of_pos _ hn, fun h => by omega⟩
    | false =>
      simp only [cond_false]
      generalize hx6 : Zv code ci ch = x6
      generalize hx7 : Zv code x6.2.1 x6.2.2 = x7
      generalize hx8 : Zv code x7.2.1 x7.2.2 = x8
      generalize hx9 : Zv code x8.2.1 x8.2.2 = x9
      have h6 := hx6 ▸ K6 code ci ch
      have h7 := hx7 ▸ K6 code x6.2.1 x6.2.2
      have h8 := hx8 ▸ K6 code x7.2.1 x7.2.2
      have h9 := hx9 ▸ K6 code x8.2.1 x8.2.2
      exact ⟨Int.tmod_nonneg _ (by omega), fun _ => Int.tmod_lt_of_pos _ hn, fun h => by omega⟩
end Go.Proofs.YtockoklfegpgeaaGreat
