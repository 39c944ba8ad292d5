/- Texts of this proof, put together by a program: Isa, Isb, Ckc, Slb, Ev, Ex, Ey, Eva, Evb, Tw, Clr, Inr, Ins, Df, Eua, Eub, Enp, In, Fj, Drl, Gb, Cua, Cub, Cuc, Cud, Vsa. -/
import Derived.Test.YtkbfhiamdcoieaaGreatDoorP4
import Derived.KernelRfl
import Derived.Laws.Externs
import Derived.Lib.AppendZerosOnto
import Derived.Deep.RegionLaw
import Derived.Test.YtkbfhiamdcoieaaGreatDoorProg
import Derived.Outline
import Derived.Laws.IdiomStrings
import Derived.Lib.ItoaNum
import Derived.Lib.ConvBytes
import Derived.Lib.SlBytesRow
import Derived.Lib.SmallJoins
set_option linter.unusedVariables false
set_option linter.unusedSimpArgs false
namespace Go.Proofs.YtkbfhiamdcoieaaGreatDoor
open Go.RowKit
open GoE (enc wide)
def D1 (name : ByteArray) (_ : Nat) (a0 : Yq) (_ : Unit) : Rd (Int) (Unit) (Unit) := (bif (a0.1.toList == name.toList) then (.ret a0.2) else (.next ()))
def D2 (_ : Nat) (_ : Unit) : Unit := ()
def B7 (s_ : (List Yq)) (name : ByteArray) : Int := (Out.on (Xp (D1 name) D2 s_ 0 ()) (fun _ => 0))
theorem Ts (s_ : (List Yq)) (name : ByteArray) : ACalls Tryz.prog 156 [.h s_, .s name] (.i (B7 s_ name)) := by
 refine en Qb Tryz.func156 fun w0 F0 hG => ?_
 refine sn Qb [0, 1, 4] [] (p0) ?_
 refine Qe (tn Qb [1, 4, 7, 8, 9] [] (pl 1 s_ p0) ?_)
 refine mz [(4, .i 0), (7, .h s_), (8, .i (s_.length : Int)), (9, .i 0)] [0] [] [] ?_
 refine wT 7 0 .sh s_ (fun hw1 hl2 => ?_)
 refine L3 (D1 name) D2 s_ () (fun k0 _ => [(9, .i ((k0 : Nat) : Int))]) [9] (fun _ => []) [1, 7, 8, 9] (Qd (by kernel_rfl)) (fun k0 s0 hk0 hI0 => ?_) (fun k0 s0 hk0 hI0 => ?_) (fun y0 hD0 => ?_)
 ·
  obtain ⟨a0, hx0⟩ := Xm (l := s_) (i := k0) hk0
  refine sn Qb [1, 4, 7, 8, 9, 10] [] (pe 0 (Qo (decide_eq_true (p := ((k0 : Nat) : Int) < (s_.length : Int)) (by omega))) p0) ?_
  refine Qe (ckT ?_)
  refine Qh ?_
  refine Qe (Qs ?_)
  refine tn Qb [1, 4, 6, 7, 8, 9] [6] (pn 0 hx0 p0) ?_
  refine tu Qb [(6, .p 6 0), (16, .b (a0.1.toList == name.toList))] [] [(6, [.s a0.1, .i a0.2])] [] (p0) ?_
  refine ck (a0.1.toList == name.toList) (fun h3 => ?_) (fun h3 => ?_)
  ·
   refine sn Qb [1, 4, 7, 8, 9] [] (p0) ?_
   refine Qg ?_
   have hr4 : (Xp (D1 name) D2 s_ 0 ()) = .ret a0.2 := Zx hx0 (Q6 h3 (rfl)) hI0
   exact pi [] (Iq hr4)
  refine Qh ?_
  refine rn Qb [1, 4, 7, 8, 9] [] (pe 0 (Jn (Qp k0 (by omega))) p0) ?_
  exact Exists.intro _ (And.intro (Qd (by kernel_rfl)) (Qx hx0 (Qm h3 (rfl)) hI0))
 ·
  refine sn Qb [1, 4, 7, 8, 9, 10] [] (pe 0 (Qo (decide_eq_false (p := ((k0 : Nat) : Int) < (s_.length : Int)) (by omega))) p0) ?_
  refine Qe (ckF ?_)
  refine Q5 ?_
  exact Exists.intro _ (And.intro (Qd (by kernel_rfl)) (Xn hk0 (rfl) hI0))
 refine sn Qb [4] [] (p0) ?_
 refine Qg ?_
 exact pi [] (Wc hD0 (rfl))
def Jf (s_ : (List Yq)) (name : ByteArray) (v : Kg) : Bool := ((Kl v) && ((v.1 != (0 : Int)) && (v.1 == (B7 s_ name))))
theorem Ff (s_ : (List Yq)) (name : ByteArray) (v : Kg) : ACalls Tryz.prog 128 [.h s_, .s name, .a [.i v.1, .i v.2.1, .s v.2.2]] (.b (Jf s_ name v)) := by
 refine en Qb Tryz.func128 fun w0 F0 hG => ?_
 refine sn Qb [0, 1, 5, 6] [5] (p0) ?_
 refine Qe (mz [(5, .p 5 0), (6, .b false)] [2] [(5, [.i v.1, .i v.2.1, .s v.2.2])] [] ?_)
 refine jn [(6, .b ((Kl v) && ((v.1 != (0 : Int)) && (v.1 == (B7 s_ name)))))] [0, 1, 5, 6] [] [5] (Kl v) (fun h1 => ?_) (fun h1 => ?_) ?_
 ·
  refine Xl (v.1 != (0 : Int)) (fun h2 => ?_) (fun h2 => ?_)
  ·
   refine rN Qb Yo [6] [] (pc 1 (cb h1 (K1 v)) (pt 5 h2 (pc 12 (Ts s_ name) p0))) ?_
   exact ⟨rfl, Qd (by rw [h1, h2]; first | done | kernel_rfl)⟩
  refine rN Qb Yo [6] [] (pc 1 (cb h1 (K1 v)) (pf 5 h2 p0)) ?_
  exact ⟨rfl, Qd (by rw [h1, h2]; first | done | kernel_rfl)⟩
 ·
  refine rN Qb Yo [6] [] (pc 1 (cb h1 (K1 v)) p0) ?_
  exact ⟨rfl, Qd (by rw [h1]; first | done | kernel_rfl)⟩
 refine Qg ?_
 exact pb [] (show Jf s_ name v = ((Kl v) && ((v.1 != (0 : Int)) && (v.1 == (B7 s_ name)))) from rfl)
def Ki (n : Int) : Bool := (Ye n 0 2)
theorem Ht (n : Int) : ACalls Tryz.prog 51 [.i n] (.b (Ki n)) := by
 refine en Qb Tryz.func51 fun w0 F0 hG => ?_
 refine sn Qb [0, 2] [] (p0) ?_
 refine tn Qb [2] [] (pc 1 (Jw n 0 2) p0) ?_
 refine Qg ?_
 exact pb [] (show Ki n = (Ye n 0 2) from rfl)
def Wa (s_ : (List Yq)) (k0 : Nat) (a0 : Yq) (_ : Unit) : Rd (Bool) (Unit) (Unit) := (bif ((!(Yi a0.1)) || (bif (a0.2 != (1 : Int)) then ((a0.2 != (2 : Int)) || (decide (((k0 : Nat) : Int) > (0 : Int)) && (!(Op.bytesLess ((nth s_ (Int.toNat (((k0 : Nat) : Int) - 1))).1).toList a0.1.toList)))) else (decide (((k0 : Nat) : Int) > (0 : Int)) && (!(Op.bytesLess ((nth s_ (Int.toNat (((k0 : Nat) : Int) - 1))).1).toList a0.1.toList))))) then (.ret false) else (.next ()))
def Ui (_ : Nat) (_ : Unit) : Unit := ()
def Jg (s_ : (List Yq)) : Bool := (Out.on (Xp (Wa s_) Ui s_ 0 ()) (fun _ => decide ((s_.length : Int) ≤ (5 : Int))))
theorem Uu (s_ : (List Yq)) : ACalls Tryz.prog 83 [.h s_] (.b (Jg s_)) := by
 refine en Qb Tryz.func83 fun w0 F0 hG => ?_
 refine sn Qb [0, 2] [] (p0) ?_
 refine Qe (tn Qb [0, 2, 5, 6, 7] [] (pl 1 s_ p0) ?_)
 refine mz [(2, .b false), (5, .h s_), (6, .i (s_.length : Int)), (7, .i 0)] [] [] [] ?_
 refine wT 0 0 .sh s_ (fun hw1 hl2 => ?_)
 refine L3 (Wa s_) Ui s_ () (fun k0 _ => [(7, .i ((k0 : Nat) : Int))]) [7] (fun _ => []) [5, 6, 7] (Qd (by kernel_rfl)) (fun k0 s0 hk0 hI0 => ?_) (fun k0 s0 hk0 hI0 => ?_) (fun y0 hD0 => ?_)
 ·
  obtain ⟨a0, hx0⟩ := Xm (l := s_) (i := k0) hk0
  refine sn Qb [0, 2, 5, 6, 7, 8] [] (pe 0 (Qo (decide_eq_true (p := ((k0 : Nat) : Int) < (s_.length : Int)) (by omega))) p0) ?_
  refine Qe (ckT ?_)
  refine Qh ?_
  refine Qe (Qs ?_)
  refine tn Qb [0, 2, 3, 4, 5, 6, 7] [4] (pn 1 hx0 p0) ?_
  refine Qe (mz [(3, .i ((k0 : Nat) : Int)), (4, .p 4 0)] [] [(4, [.s a0.1, .i a0.2])] [] ?_)
  refine jn [(40, .b ((!(Yi a0.1)) || (bif (a0.2 != (1 : Int)) then ((a0.2 != (2 : Int)) || (decide (((k0 : Nat) : Int) > (0 : Int)) && (!(Op.bytesLess ((nth s_ (Int.toNat (((k0 : Nat) : Int) - 1))).1).toList a0.1.toList)))) else (decide (((k0 : Nat) : Int) > (0 : Int)) && (!(Op.bytesLess ((nth s_ (Int.toNat (((k0 : Nat) : Int) - 1))).1).toList a0.1.toList))))))] [3, 4] [] [4] (!(Yi a0.1)) (fun h3 => ?_) (fun h3 => ?_) ?_
  ·
   have h3n : (Yi a0.1) = false := Vr h3
   refine rN Qb Yo [0, 2, 5, 6, 7, 40] [] (pc 2 (cb h3n (Yr a0.1)) (pe 3 (show .b (!false) = .b true from rfl) p0)) ?_
   exact ⟨rfl, Qd (by rw [h3]; first | done | kernel_rfl)⟩
  ·
   have h3n : (Yi a0.1) = true := Ze h3
   refine Xl (a0.2 != (1 : Int)) (fun h4 => ?_) (fun h4 => ?_)
   ·
    have h4d := Oc h4
    refine Xl (a0.2 != (2 : Int)) (fun h5 => ?_) (fun h5 => ?_)
    ·
     refine rN Qb Yo [0, 2, 5, 6, 7, 40] [] (pc 2 (cb h3n (Yr a0.1)) (pe 3 (show .b (!true) = .b false from rfl) (pt 7 h4 (pt 11 h5 p0)))) ?_
     exact ⟨rfl, Qd (by rw [h3, h4, h5]; first | done | kernel_rfl)⟩
    have h5d := J3 h5
    refine Xl (decide (((k0 : Nat) : Int) > (0 : Int))) (fun h6 => ?_) (fun h6 => ?_)
    ·
     have h6d := of_decide_eq_true h6
     have hx7 := ng s_ (Int.toNat (((k0 : Nat) : Int) - 1))
     refine rN Qb Yo [0, 2, 5, 6, 7, 40] [] (pc 2 (cb h3n (Yr a0.1)) (pe 3 (show .b (!true) = .b false from rfl) (pt 7 h4 (pf 11 h5 (pt 16 h6 (pe 20 (Jn (IntWalk.i64_in (((k0 : Nat) : Int) - 1) (by omega))) (pg 21 (((k0 : Nat) : Int) - 1) hx7 p0))))))) ?_
     exact ⟨rfl, Qd (by rw [h3, h4, h5, h6]; first | done | kernel_rfl)⟩
    refine rN Qb Yo [0, 2, 5, 6, 7, 40] [] (pc 2 (cb h3n (Yr a0.1)) (pe 3 (show .b (!true) = .b false from rfl) (pt 7 h4 (pf 11 h5 (pf 16 h6 p0))))) ?_
    exact ⟨rfl, Qd (by rw [h3, h4, h5, h6]; first | done | kernel_rfl)⟩
   have h4d := J3 h4
   refine Xl (decide (((k0 : Nat) : Int) > (0 : Int))) (fun h8 => ?_) (fun h8 => ?_)
   ·
    have h8d := of_decide_eq_true h8
    have hx9 := ng s_ (Int.toNat (((k0 : Nat) : Int) - 1))
    refine rN Qb Yo [0, 2, 5, 6, 7, 40] [] (pc 2 (cb h3n (Yr a0.1)) (pe 3 (show .b (!true) = .b false from rfl) (pf 7 h4 (pt 16 h8 (pe 20 (Jn (IntWalk.i64_in (((k0 : Nat) : Int) - 1) (by omega))) (pg 21 (((k0 : Nat) : Int) - 1) hx9 p0)))))) ?_
    exact ⟨rfl, Qd (by rw [h3, h4, h8]; first | done | kernel_rfl)⟩
   refine rN Qb Yo [0, 2, 5, 6, 7, 40] [] (pc 2 (cb h3n (Yr a0.1)) (pe 3 (show .b (!true) = .b false from rfl) (pf 7 h4 (pf 16 h8 p0)))) ?_
   exact ⟨rfl, Qd (by rw [h3, h4, h8]; first | done | kernel_rfl)⟩
  refine ck ((!(Yi a0.1)) || (bif (a0.2 != (1 : Int)) then ((a0.2 != (2 : Int)) || (decide (((k0 : Nat) : Int) > (0 : Int)) && (!(Op.bytesLess ((nth s_ (Int.toNat (((k0 : Nat) : Int) - 1))).1).toList a0.1.toList)))) else (decide (((k0 : Nat) : Int) > (0 : Int)) && (!(Op.bytesLess ((nth s_ (Int.toNat (((k0 : Nat) : Int) - 1))).1).toList a0.1.toList))))) (fun h10 => ?_) (fun h10 => ?_)
  ·
   refine su Qb [] [40] [] [] (p0) ?_
   refine Qg ?_
   have hr11 : (Xp (Wa s_) Ui s_ 0 ()) = .ret false := Zx hx0 (Q6 h10 (rfl)) hI0
   exact pb [] (Iq hr11)
  refine Qh ?_
  refine rn Qb [0, 2, 5, 6, 7] [] (pe 0 (Jn (Qp k0 (by omega))) p0) ?_
  exact Exists.intro _ (And.intro (Qd (by kernel_rfl)) (Qx hx0 (Qm h10 (rfl)) hI0))
 ·
  refine sn Qb [0, 2, 5, 6, 7, 8] [] (pe 0 (Qo (decide_eq_false (p := ((k0 : Nat) : Int) < (s_.length : Int)) (by omega))) p0) ?_
  refine Qe (ckF ?_)
  refine Q5 ?_
  exact Exists.intro _ (And.intro (Qd (by kernel_rfl)) (Xn hk0 (rfl) hI0))
 refine sn Qb [2] [] (pl 1 s_ p0) ?_
 refine Qg ?_
 exact pb [] (Wc hD0 (rfl))
def Zz (s_ : (List Yq)) (f : Q9) (k0 : Nat) (a0 : Uc) (_ : Unit) : Rd (Bool) (Unit) (Unit) := (bif (bif decide (((k0 : Nat) : Int) > (0 : Int)) then ((!(Op.bytesLess ((nth f.2.2.2.2 (Int.toNat (((k0 : Nat) : Int) - 1))).1).toList a0.1.toList)) || (!(Jf s_ a0.1 a0.2))) else (!(Jf s_ a0.1 a0.2))) then (.ret false) else (.next ()))
def K3 (_ : Nat) (_ : Unit) : Unit := ()
def Zg (s_ : (List Yq)) (f : Q9) : Bool := (Out.on (Xp (Zz s_ f) K3 f.2.2.2.2 0 ()) (fun _ => ((Ye f.1 1 60) && ((Ki f.2.1) && ((Ye f.2.2.2.1 0 60) && (Jg s_))))))
theorem H3 (s_ : (List Yq)) (f : Q9) : ACalls Tryz.prog 82 [.h s_, .a [.i f.1, .i f.2.1, .b f.2.2.1, .i f.2.2.2.1, .h f.2.2.2.2]] (.b (Zg s_ f)) := by
 refine en Qb Tryz.func82 fun w0 F0 hG => ?_
 refine sn Qb [0, 3, 4] [3] (p0) ?_
 refine Qe (tn Qb [0, 3, 4, 8, 9, 10] [3] (pl 2 f.2.2.2.2 p0) ?_)
 refine mz [(3, .p 3 0), (4, .b false), (8, .h f.2.2.2.2), (9, .i (f.2.2.2.2.length : Int)), (10, .i 0)] [1] [(3, [.i f.1, .i f.2.1, .b f.2.2.1, .i f.2.2.2.1, .h f.2.2.2.2])] [] ?_
 refine wT 8 0 .sh f.2.2.2.2 (fun hw1 hl2 => ?_)
 refine L3 (Zz s_ f) K3 f.2.2.2.2 () (fun k0 _ => [(10, .i ((k0 : Nat) : Int))]) [10] (fun _ => []) [8, 9, 10] (Qd (by kernel_rfl)) (fun k0 s0 hk0 hI0 => ?_) (fun k0 s0 hk0 hI0 => ?_) (fun y0 hD0 => ?_)
 ·
  obtain ⟨a0, hx0⟩ := Xm (l := f.2.2.2.2) (i := k0) hk0
  refine su Qb [(11, .b true)] [] [] [] (pe 0 (Qo (decide_eq_true (p := ((k0 : Nat) : Int) < (f.2.2.2.2.length : Int)) (by omega))) p0) ?_
  refine Qe (ckT ?_)
  refine Qh ?_
  refine Qe (Qs ?_)
  refine sn Qb [0, 3, 4, 5, 6, 8, 9, 10] [3, 6] (pn 1 hx0 p0) ?_
  refine Qe (mz [(5, .i ((k0 : Nat) : Int)), (6, .p 6 0)] [11] [(6, [.s a0.1, .i a0.2.1, .i a0.2.2.1, .s a0.2.2.2])] [] ?_)
  refine jn [(37, .b (bif decide (((k0 : Nat) : Int) > (0 : Int)) then ((!(Op.bytesLess ((nth f.2.2.2.2 (Int.toNat (((k0 : Nat) : Int) - 1))).1).toList a0.1.toList)) || (!(Jf s_ a0.1 a0.2))) else (!(Jf s_ a0.1 a0.2))))] [5, 6] [] [6] (decide (((k0 : Nat) : Int) > (0 : Int))) (fun h3 => ?_) (fun h3 => ?_) ?_
  ·
   have h3d := of_decide_eq_true h3
   refine Xl (!(Op.bytesLess ((nth f.2.2.2.2 (Int.toNat (((k0 : Nat) : Int) - 1))).1).toList a0.1.toList)) (fun h4 => ?_) (fun h4 => ?_)
   ·
    have hx5 := ng f.2.2.2.2 (Int.toNat (((k0 : Nat) : Int) - 1))
    refine rN Qb Yo [0, 3, 4, 8, 9, 10, 37] [3] (pt 1 h3 (pe 6 (Jn (IntWalk.i64_in (((k0 : Nat) : Int) - 1) (by omega))) (pg 7 (((k0 : Nat) : Int) - 1) hx5 (pt 12 h4 p0)))) ?_
    exact ⟨rfl, Qd (by rw [h3, h4]; first | done | kernel_rfl)⟩
   have hx6 := ng f.2.2.2.2 (Int.toNat (((k0 : Nat) : Int) - 1))
   refine rN Qb Yo [0, 3, 4, 8, 9, 10, 37] [3] (pt 1 h3 (pe 6 (Jn (IntWalk.i64_in (((k0 : Nat) : Int) - 1) (by omega))) (pg 7 (((k0 : Nat) : Int) - 1) hx6 (pf 12 h4 (pc 20 (Ff s_ a0.1 a0.2) p0))))) ?_
   exact ⟨rfl, Qd (by rw [h3, h4]; first | done | kernel_rfl)⟩
  ·
   refine rN Qb Yo [0, 3, 4, 8, 9, 10, 37] [3] (pf 1 h3 (pc 20 (Ff s_ a0.1 a0.2) p0)) ?_
   exact ⟨rfl, Qd (by rw [h3]; first | done | kernel_rfl)⟩
  refine ck (bif decide (((k0 : Nat) : Int) > (0 : Int)) then ((!(Op.bytesLess ((nth f.2.2.2.2 (Int.toNat (((k0 : Nat) : Int) - 1))).1).toList a0.1.toList)) || (!(Jf s_ a0.1 a0.2))) else (!(Jf s_ a0.1 a0.2))) (fun h7 => ?_) (fun h7 => ?_)
  ·
   refine su Qb [] [37] [] [] (p0) ?_
   refine Qg ?_
   have hr8 : (Xp (Zz s_ f) K3 f.2.2.2.2 0 ()) = .ret false := Zx hx0 (Q6 h7 (rfl)) hI0
   exact pb [] (Iq hr8)
  refine Qh ?_
  refine rn Qb [0, 3, 4, 8, 9, 10] [3] (pe 0 (Jn (Qp k0 (by omega))) p0) ?_
  exact Exists.intro _ (And.intro (Qd (by kernel_rfl)) (Qx hx0 (Qm h7 (rfl)) hI0))
 ·
  refine su Qb [(11, .b false)] [] [] [] (pe 0 (Qo (decide_eq_false (p := ((k0 : Nat) : Int) < (f.2.2.2.2.length : Int)) (by omega))) p0) ?_
  refine Qe (ckF ?_)
  refine Q5 ?_
  exact Exists.intro _ (And.intro (Qd (by kernel_rfl)) (Xn hk0 (rfl) hI0))
 refine Qe (jn [(4, .b ((Ye f.1 1 60) && ((Ki f.2.1) && ((Ye f.2.2.2.1 0 60) && (Jg s_)))))] [0, 3, 4] [] [3] (Ye f.1 1 60) (fun h9 => ?_) (fun h9 => ?_) ?_)
 ·
  have h9w := L5.1 h9
  refine Xl (Ki f.2.1) (fun h10 => ?_) (fun h10 => ?_)
  ·
   refine Xl (Ye f.2.2.2.1 0 60) (fun h11 => ?_) (fun h11 => ?_)
   ·
    have h11w := L5.1 h11
    refine rn Qb [4] [] (pc 2 (cb h9 (Jw f.1 1 60)) (pc 6 (cb h10 (Ht f.2.1)) (pc 11 (cb h11 (Jw f.2.2.2.1 0 60)) (pc 15 (Uu s_) p0)))) ?_
    exact ⟨rfl, Qd (by rw [h9, h10, h11]; first | done | kernel_rfl)⟩
   refine rn Qb [4] [] (pc 2 (cb h9 (Jw f.1 1 60)) (pc 6 (cb h10 (Ht f.2.1)) (pc 11 (cb h11 (Jw f.2.2.2.1 0 60)) p0))) ?_
   exact ⟨rfl, Qd (by rw [h9, h10, h11]; first | done | kernel_rfl)⟩
  refine rn Qb [4] [] (pc 2 (cb h9 (Jw f.1 1 60)) (pc 6 (cb h10 (Ht f.2.1)) p0)) ?_
  exact ⟨rfl, Qd (by rw [h9, h10]; first | done | kernel_rfl)⟩
 ·
  refine rn Qb [4] [] (pc 2 (cb h9 (Jw f.1 1 60)) p0) ?_
  exact ⟨rfl, Qd (by rw [h9]; first | done | kernel_rfl)⟩
 refine Qg ?_
 exact pb [] (Wc hD0 (rfl))
def Y1 (s_ : Ql) (k0 : Nat) (a0 : Q9) (_ : Unit) : Rd (Bool) (Unit) (Unit) := (bif ((!(Zg s_.1 a0)) || (decide (a0.1 ≥ s_.2.2) || (decide (((k0 : Nat) : Int) > (0 : Int)) && decide ((nth s_.2.1 (Int.toNat (((k0 : Nat) : Int) - 1))).1 ≥ a0.1)))) then (.ret false) else (.next ()))
def J6 (_ : Nat) (_ : Unit) : Unit := ()
def Qz (s_ : Ql) : Bool := (Out.on (Xp (Y1 s_) J6 s_.2.1 0 ()) (fun _ => ((Jg s_.1) && (decide ((s_.2.1.length : Int) ≤ (12 : Int)) && (Ye s_.2.2 1 61)))))
theorem B8 (s_ : Ql) : ACalls Tryz.prog 50 [.a [.h s_.1, .h s_.2.1, .i s_.2.2]] (.b (Qz s_)) := by
 refine en Qb Tryz.func50 fun w0 F0 hG => ?_
 refine sn Qb [1, 2] [1] (p0) ?_
 refine Qe (tn Qb [1, 2, 6, 7, 8] [1] (pl 2 s_.2.1 p0) ?_)
 refine mz [(1, .p 1 0), (2, .b false), (6, .h s_.2.1), (7, .i (s_.2.1.length : Int)), (8, .i 0)] [0] [(1, [.h s_.1, .h s_.2.1, .i s_.2.2])] [] ?_
 refine wT 6 0 .sh s_.2.1 (fun hw1 hl2 => ?_)
 refine L3 (Y1 s_) J6 s_.2.1 () (fun k0 _ => [(8, .i ((k0 : Nat) : Int))]) [8] (fun _ => []) [6, 7, 8] (Qd (by kernel_rfl)) (fun k0 s0 hk0 hI0 => ?_) (fun k0 s0 hk0 hI0 => ?_) (fun y0 hD0 => ?_)
 ·
  obtain ⟨a0, hx0⟩ := Xm (l := s_.2.1) (i := k0) hk0
  refine sn Qb [1, 2, 6, 7, 8, 9] [1] (pe 0 (Qo (decide_eq_true (p := ((k0 : Nat) : Int) < (s_.2.1.length : Int)) (by omega))) p0) ?_
  refine Qe (ckT ?_)
  refine Qh ?_
  refine Qe (Qs ?_)
  refine tn Qb [1, 2, 3, 4, 6, 7, 8] [1, 4] (pn 1 hx0 p0) ?_
  refine Qe (mz [(3, .i ((k0 : Nat) : Int)), (4, .p 4 0)] [] [(4, [.i a0.1, .i a0.2.1, .b a0.2.2.1, .i a0.2.2.2.1, .h a0.2.2.2.2])] [] ?_)
  refine jn [(40, .b ((!(Zg s_.1 a0)) || (decide (a0.1 ≥ s_.2.2) || (decide (((k0 : Nat) : Int) > (0 : Int)) && decide ((nth s_.2.1 (Int.toNat (((k0 : Nat) : Int) - 1))).1 ≥ a0.1)))))] [3, 4] [] [4] (!(Zg s_.1 a0)) (fun h3 => ?_) (fun h3 => ?_) ?_
  ·
   have h3n : (Zg s_.1 a0) = false := Vr h3
   refine rN Qb Yo [1, 2, 6, 7, 8, 40] [1] (pc 3 (cb h3n (H3 s_.1 a0)) (pe 4 (show .b (!false) = .b true from rfl) p0)) ?_
   exact ⟨rfl, Qd (by rw [h3]; first | done | kernel_rfl)⟩
  ·
   have h3n : (Zg s_.1 a0) = true := Ze h3
   refine Xl (decide (a0.1 ≥ s_.2.2)) (fun h4 => ?_) (fun h4 => ?_)
   ·
    refine rN Qb Yo [1, 2, 6, 7, 8, 40] [1] (pc 3 (cb h3n (H3 s_.1 a0)) (pe 4 (show .b (!true) = .b false from rfl) (pt 10 h4 p0))) ?_
    exact ⟨rfl, Qd (by rw [h3, h4]; first | done | kernel_rfl)⟩
   have h4d := of_decide_eq_false h4
   refine Xl (decide (((k0 : Nat) : Int) > (0 : Int))) (fun h5 => ?_) (fun h5 => ?_)
   ·
    have h5d := of_decide_eq_true h5
    have hx6 := ng s_.2.1 (Int.toNat (((k0 : Nat) : Int) - 1))
    refine rN Qb Yo [1, 2, 6, 7, 8, 40] [1] (pc 3 (cb h3n (H3 s_.1 a0)) (pe 4 (show .b (!true) = .b false from rfl) (pf 10 h4 (pt 14 h5 (pe 19 (Jn (IntWalk.i64_in (((k0 : Nat) : Int) - 1) (by omega))) (pg 20 (((k0 : Nat) : Int) - 1) hx6 p0)))))) ?_
    exact ⟨rfl, Qd (by rw [h3, h4, h5]; first | done | kernel_rfl)⟩
   refine rN Qb Yo [1, 2, 6, 7, 8, 40] [1] (pc 3 (cb h3n (H3 s_.1 a0)) (pe 4 (show .b (!true) = .b false from rfl) (pf 10 h4 (pf 14 h5 p0)))) ?_
   exact ⟨rfl, Qd (by rw [h3, h4, h5]; first | done | kernel_rfl)⟩
  refine ck ((!(Zg s_.1 a0)) || (decide (a0.1 ≥ s_.2.2) || (decide (((k0 : Nat) : Int) > (0 : Int)) && decide ((nth s_.2.1 (Int.toNat (((k0 : Nat) : Int) - 1))).1 ≥ a0.1)))) (fun h7 => ?_) (fun h7 => ?_)
  ·
   refine su Qb [] [40] [] [] (p0) ?_
   refine Qg ?_
   have hr8 : (Xp (Y1 s_) J6 s_.2.1 0 ()) = .ret false := Zx hx0 (Q6 h7 (rfl)) hI0
   exact pb [] (Iq hr8)
  have h7r : ((decide (a0.1 ≥ s_.2.2) || (decide (((k0 : Nat) : Int) > (0 : Int)) && decide ((nth s_.2.1 (Int.toNat (((k0 : Nat) : Int) - 1))).1 ≥ a0.1)))) = false := Px h7
  have h7rl : (decide (a0.1 ≥ s_.2.2)) = false := Pw h7r
  have h7rld := of_decide_eq_false h7rl
  refine Qh ?_
  refine rn Qb [1, 2, 6, 7, 8] [1] (pe 0 (Jn (Qp k0 (by omega))) p0) ?_
  exact Exists.intro _ (And.intro (Qd (by kernel_rfl)) (Qx hx0 (Qm h7 (rfl)) hI0))
 ·
  refine sn Qb [1, 2, 6, 7, 8, 9] [1] (pe 0 (Qo (decide_eq_false (p := ((k0 : Nat) : Int) < (s_.2.1.length : Int)) (by omega))) p0) ?_
  refine Qe (ckF ?_)
  refine Q5 ?_
  exact Exists.intro _ (And.intro (Qd (by kernel_rfl)) (Xn hk0 (rfl) hI0))
 refine Qe (jn [(2, .b ((Jg s_.1) && (decide ((s_.2.1.length : Int) ≤ (12 : Int)) && (Ye s_.2.2 1 61))))] [1, 2] [] [1] (Jg s_.1) (fun h9 => ?_) (fun h9 => ?_) ?_)
 ·
  refine Xl (decide ((s_.2.1.length : Int) ≤ (12 : Int))) (fun h10 => ?_) (fun h10 => ?_)
  ·
   refine rn Qb [2] [] (pc 2 (cb h9 (Uu s_.1)) (pl 6 s_.2.1 (pt 7 h10 (pc 12 (Jw s_.2.2 1 61) p0)))) ?_
   exact ⟨rfl, Qd (by rw [h9, h10]; first | done | kernel_rfl)⟩
  refine rn Qb [2] [] (pc 2 (cb h9 (Uu s_.1)) (pl 6 s_.2.1 (pf 7 h10 p0))) ?_
  exact ⟨rfl, Qd (by rw [h9, h10]; first | done | kernel_rfl)⟩
 ·
  refine rn Qb [2] [] (pc 2 (cb h9 (Uu s_.1)) p0) ?_
  exact ⟨rfl, Qd (by rw [h9]; first | done | kernel_rfl)⟩
 refine Qg ?_
 exact pb [] (Wc hD0 (rfl))
def D3 (name : ByteArray) (_ : Nat) (a0 : Yq) (_ : Unit) : Rd (Int) (Unit) (Unit) := (bif (a0.1.toList == name.toList) then (.ret a0.2) else (.next ()))
def D4 (_ : Nat) (_ : Unit) : Unit := ()
def B9 (s_ : (List Yq)) (name : ByteArray) : Int := (Out.on (Xp (D3 name) D4 s_ 0 ()) (fun _ => 0))
theorem Tt (s_ : (List Yq)) (name : ByteArray) : ACalls Tryz.prog 111 [.h s_, .s name] (.i (B9 s_ name)) := by
 refine en Qb Tryz.func111 fun w0 F0 hG => ?_
 refine sn Qb [0, 1, 4] [] (p0) ?_
 refine Qe (tn Qb [0, 1, 4, 5] [] (p0) ?_)
 refine mz [(4, .i 0), (5, .i 0)] [] [] [] ?_
 refine wT 0 0 .sh s_ (fun hw1 hl2 => ?_)
 refine L3 (D3 name) D4 s_ () (fun k0 _ => [(5, .i ((k0 : Nat) : Int))]) [5] (fun _ => []) [0, 1, 5] (Qd (by kernel_rfl)) (fun k0 s0 hk0 hI0 => ?_) (fun k0 s0 hk0 hI0 => ?_) (fun y0 hD0 => ?_)
 ·
  obtain ⟨a0, hx0⟩ := Xm (l := s_) (i := k0) hk0
  refine Qe (sn Qb [0, 1, 4, 5, 9] [] (pl 2 s_ (pe 3 (Qo (decide_eq_true (p := ((k0 : Nat) : Int) < (s_.length : Int)) (by omega))) p0)) ?_)
  refine ckT ?_
  refine Qh ?_
  refine Qe (Qs ?_)
  refine tn Qb [0, 1, 4, 5, 18] [] (pn 2 hx0 p0) ?_
  refine ck (a0.1.toList == name.toList) (fun h3 => ?_) (fun h3 => ?_)
  ·
   refine tu Qb [(4, .i a0.2)] [4] [] [] (pn 2 hx0 p0) ?_
   refine Qg ?_
   have hr4 : (Xp (D3 name) D4 s_ 0 ()) = .ret a0.2 := Zx hx0 (Q6 h3 (rfl)) hI0
   exact pi [] (Iq hr4)
  refine Qh ?_
  refine qu Qb [(5, .i ((k0 + 1 : Nat) : Int))] [5] [] [] (pe 1 (Jn (Qp k0 (by omega))) p0) ?_
  exact Exists.intro _ (And.intro (Qd (by kernel_rfl)) (Qx hx0 (Qm h3 (rfl)) hI0))
 ·
  refine Qe (sn Qb [0, 1, 4, 5, 9] [] (pl 2 s_ (pe 3 (Qo (decide_eq_false (p := ((k0 : Nat) : Int) < (s_.length : Int)) (by omega))) p0)) ?_)
  refine ckF ?_
  refine Q5 ?_
  exact Exists.intro _ (And.intro (Qd (by kernel_rfl)) (Xn hk0 (rfl) hI0))
 refine sn Qb [4] [] (p0) ?_
 refine Qg ?_
 exact pi [] (Wc hD0 (rfl))
def Jt (s_ : (List Yq)) (name : ByteArray) (v : Kg) : Bool := ((Jb v) && ((v.1 != (0 : Int)) && (v.1 == (B9 s_ name))))
theorem Bd (s_ : (List Yq)) (name : ByteArray) (v : Kg) : ACalls Tryz.prog 66 [.h s_, .s name, .a [.i v.1, .i v.2.1, .s v.2.2]] (.b (Jt s_ name v)) := by
 refine en Qb Tryz.func66 fun w0 F0 hG => ?_
 refine sn Qb [0, 1, 5, 6] [5] (p0) ?_
 refine Qe (mz [(5, .p 5 0), (6, .b false)] [2] [(5, [.i v.1, .i v.2.1, .s v.2.2])] [] ?_)
 refine jn [(6, .b ((Jb v) && ((v.1 != (0 : Int)) && (v.1 == (B9 s_ name)))))] [0, 1, 5, 6] [] [5] (Jb v) (fun h1 => ?_) (fun h1 => ?_) ?_
 ·
  refine Xl (v.1 != (0 : Int)) (fun h2 => ?_) (fun h2 => ?_)
  ·
   refine rN Qb Yo [6] [] (pc 1 (cb h1 (Zy v)) (pt 5 h2 (pc 12 (Tt s_ name) p0))) ?_
   exact ⟨rfl, Qd (by rw [h1, h2]; first | done | kernel_rfl)⟩
  refine rN Qb Yo [6] [] (pc 1 (cb h1 (Zy v)) (pf 5 h2 p0)) ?_
  exact ⟨rfl, Qd (by rw [h1, h2]; first | done | kernel_rfl)⟩
 ·
  refine rN Qb Yo [6] [] (pc 1 (cb h1 (Zy v)) p0) ?_
  exact ⟨rfl, Qd (by rw [h1]; first | done | kernel_rfl)⟩
 refine Qg ?_
 exact pb [] (show Jt s_ name v = ((Jb v) && ((v.1 != (0 : Int)) && (v.1 == (B9 s_ name)))) from rfl)
def Wb (s_ : (List Yq)) (k0 : Nat) (a0 : Yq) (_ : Unit) : Rd (Bool) (Unit) (Unit) := (bif ((!(Xs a0.1)) || ((!(Xa a0.2 1 2)) || (decide (((k0 : Nat) : Int) > (0 : Int)) && (!(Op.bytesLess ((nth s_ (Int.toNat (((k0 : Nat) : Int) - 1))).1).toList a0.1.toList))))) then (.ret false) else (.next ()))
def Uj (_ : Nat) (_ : Unit) : Unit := ()
def Jh (s_ : (List Yq)) : Bool := (Out.on (Xp (Wb s_) Uj s_ 0 ()) (fun _ => decide ((s_.length : Int) ≤ (5 : Int))))
theorem Ks (s_ : (List Yq)) : ACalls Tryz.prog 41 [.h s_] (.b (Jh s_)) := by
 refine en Qb Tryz.func41 fun w0 F0 hG => ?_
 refine sn Qb [0, 2] [] (p0) ?_
 refine Qe (tn Qb [0, 2, 3] [] (p0) ?_)
 refine mz [(2, .b false), (3, .i 0)] [] [] [] ?_
 refine wT 0 0 .sh s_ (fun hw1 hl2 => ?_)
 refine L3 (Wb s_) Uj s_ () (fun k0 _ => [(3, .i ((k0 : Nat) : Int))]) [3] (fun _ => []) [3] (Qd (by kernel_rfl)) (fun k0 s0 hk0 hI0 => ?_) (fun k0 s0 hk0 hI0 => ?_) (fun y0 hD0 => ?_)
 ·
  obtain ⟨a0, hx0⟩ := Xm (l := s_) (i := k0) hk0
  refine Qe (sn Qb [0, 2, 3, 7] [] (pl 2 s_ (pe 3 (Qo (decide_eq_true (p := ((k0 : Nat) : Int) < (s_.length : Int)) (by omega))) p0)) ?_)
  refine ckT ?_
  refine Qh ?_
  refine Qe (Qs ?_)
  refine Qe (mz [(7, .b true)] [] [] [] ?_)
  refine jn [(43, .b ((!(Xs a0.1)) || ((!(Xa a0.2 1 2)) || (decide (((k0 : Nat) : Int) > (0 : Int)) && (!(Op.bytesLess ((nth s_ (Int.toNat (((k0 : Nat) : Int) - 1))).1).toList a0.1.toList))))))] [7] [] [] (!(Xs a0.1)) (fun h3 => ?_) (fun h3 => ?_) ?_
  ·
   have h3n : (Xs a0.1) = false := Vr h3
   refine rN Qb Yo [0, 2, 3, 43] [] (pn 2 hx0 (pc 5 (cb h3n (X1 a0.1)) (pe 6 (show .b (!false) = .b true from rfl) p0))) ?_
   exact ⟨rfl, Qd (by rw [h3]; first | done | kernel_rfl)⟩
  ·
   have h3n : (Xs a0.1) = true := Ze h3
   refine Xl (!(Xa a0.2 1 2)) (fun h4 => ?_) (fun h4 => ?_)
   ·
    have h4n : (Xa a0.2 1 2) = false := Vr h4
    refine rN Qb Yo [0, 2, 3, 43] [] (pn 2 hx0 (pc 5 (cb h3n (X1 a0.1)) (pe 6 (show .b (!true) = .b false from rfl) (pn 10 hx0 (pc 13 (cb h4n (Zd a0.2 1 2)) (pe 14 (show .b (!false) = .b true from rfl) p0)))))) ?_
    exact ⟨rfl, Qd (by rw [h3, h4]; first | done | kernel_rfl)⟩
   have h4n : (Xa a0.2 1 2) = true := Ze h4
   have h4nw := E8.1 h4n
   refine Xl (decide (((k0 : Nat) : Int) > (0 : Int))) (fun h5 => ?_) (fun h5 => ?_)
   ·
    have h5d := of_decide_eq_true h5
    have hx6 := ng s_ (Int.toNat (((k0 : Nat) : Int) - 1))
    refine rN Qb Yo [0, 2, 3, 43] [] (pn 2 hx0 (pc 5 (cb h3n (X1 a0.1)) (pe 6 (show .b (!true) = .b false from rfl) (pn 10 hx0 (pc 13 (cb h4n (Zd a0.2 1 2)) (pe 14 (show .b (!true) = .b false from rfl) (pt 18 h5 (pe 22 (Jn (IntWalk.i64_in (((k0 : Nat) : Int) - 1) (by omega))) (pg 23 (((k0 : Nat) : Int) - 1) hx6 (pn 28 hx0 p0)))))))))) ?_
    exact ⟨rfl, Qd (by rw [h3, h4, h5]; first | done | kernel_rfl)⟩
   refine rN Qb Yo [0, 2, 3, 43] [] (pn 2 hx0 (pc 5 (cb h3n (X1 a0.1)) (pe 6 (show .b (!true) = .b false from rfl) (pn 10 hx0 (pc 13 (cb h4n (Zd a0.2 1 2)) (pe 14 (show .b (!true) = .b false from rfl) (pf 18 h5 p0))))))) ?_
   exact ⟨rfl, Qd (by rw [h3, h4, h5]; first | done | kernel_rfl)⟩
  refine ck ((!(Xs a0.1)) || ((!(Xa a0.2 1 2)) || (decide (((k0 : Nat) : Int) > (0 : Int)) && (!(Op.bytesLess ((nth s_ (Int.toNat (((k0 : Nat) : Int) - 1))).1).toList a0.1.toList))))) (fun h7 => ?_) (fun h7 => ?_)
  ·
   refine sn Qb [0, 2, 3] [] (p0) ?_
   refine Qg ?_
   have hr8 : (Xp (Wb s_) Uj s_ 0 ()) = .ret false := Zx hx0 (Q6 h7 (rfl)) hI0
   exact pb [] (Iq hr8)
  have h7r : (((!(Xa a0.2 1 2)) || (decide (((k0 : Nat) : Int) > (0 : Int)) && (!(Op.bytesLess ((nth s_ (Int.toNat (((k0 : Nat) : Int) - 1))).1).toList a0.1.toList))))) = false := Px h7
  have h7rl : ((!(Xa a0.2 1 2))) = false := Pw h7r
  have h7rln : (Xa a0.2 1 2) = true := Ze h7rl
  have h7rlnw := E8.1 h7rln
  refine Qh ?_
  refine rn Qb [0, 2, 3] [] (pe 1 (Jn (Qp k0 (by omega))) p0) ?_
  exact Exists.intro _ (And.intro (Qd (by kernel_rfl)) (Qx hx0 (Qm h7 (rfl)) hI0))
 ·
  refine Qe (sn Qb [0, 2, 3, 7] [] (pl 2 s_ (pe 3 (Qo (decide_eq_false (p := ((k0 : Nat) : Int) < (s_.length : Int)) (by omega))) p0)) ?_)
  refine ckF ?_
  refine Q5 ?_
  exact Exists.intro _ (And.intro (Qd (by kernel_rfl)) (Xn hk0 (rfl) hI0))
 refine sn Qb [2] [] (pl 1 s_ p0) ?_
 refine Qg ?_
 exact pb [] (Wc hD0 (rfl))
def Y9 (s_ : (List Yq)) (f : Q9) (k0 : Nat) (a0 : Uc) (_ : Unit) : Rd (Bool) (Unit) (Unit) := (bif ((!(Jt s_ a0.1 a0.2)) || (decide (((k0 : Nat) : Int) > (0 : Int)) && (!(Op.bytesLess ((nth f.2.2.2.2 (Int.toNat (((k0 : Nat) : Int) - 1))).1).toList a0.1.toList)))) then (.ret false) else (.next ()))
def Jy (_ : Nat) (_ : Unit) : Unit := ()
def Xi (s_ : (List Yq)) (f : Q9) : Bool := (Out.on (Xp (Y9 s_ f) Jy f.2.2.2.2 0 ()) (fun _ => ((Jh s_) && ((Xa f.1 1 60) && ((Xa f.2.1 0 2) && (Xa f.2.2.2.1 0 60))))))
theorem Wh (s_ : (List Yq)) (f : Q9) : ACalls Tryz.prog 40 [.h s_, .a [.i f.1, .i f.2.1, .b f.2.2.1, .i f.2.2.2.1, .h f.2.2.2.2]] (.b (Xi s_ f)) := by
 refine en Qb Tryz.func40 fun w0 F0 hG => ?_
 refine sn Qb [0, 3, 4] [3] (p0) ?_
 refine Qe (tn Qb [0, 3, 4, 5] [3] (p0) ?_)
 refine mz [(3, .p 3 0), (4, .b false), (5, .i 0)] [1] [(3, [.i f.1, .i f.2.1, .b f.2.2.1, .i f.2.2.2.1, .h f.2.2.2.2])] [] ?_
 refine wB 3 4 .sh f.2.2.2.2 (fun hw1 hl2 => ?_)
 refine L3 (Y9 s_ f) Jy f.2.2.2.2 () (fun k0 _ => [(5, .i ((k0 : Nat) : Int))]) [5] (fun _ => []) [5] (Qd (by kernel_rfl)) (fun k0 s0 hk0 hI0 => ?_) (fun k0 s0 hk0 hI0 => ?_) (fun y0 hD0 => ?_)
 ·
  obtain ⟨a0, hx0⟩ := Xm (l := f.2.2.2.2) (i := k0) hk0
  refine Qe (sn Qb [0, 3, 4, 5, 10] [3] (pl 3 f.2.2.2.2 (pe 4 (Qo (decide_eq_true (p := ((k0 : Nat) : Int) < (f.2.2.2.2.length : Int)) (by omega))) p0)) ?_)
  refine ckT ?_
  refine Qh ?_
  refine Qe (Qs ?_)
  refine Qe (mz [(10, .b true)] [] [] [] ?_)
  refine jn [(47, .b ((!(Jt s_ a0.1 a0.2)) || (decide (((k0 : Nat) : Int) > (0 : Int)) && (!(Op.bytesLess ((nth f.2.2.2.2 (Int.toNat (((k0 : Nat) : Int) - 1))).1).toList a0.1.toList)))))] [10] [] [] (!(Jt s_ a0.1 a0.2)) (fun h3 => ?_) (fun h3 => ?_) ?_
  ·
   have h3n : (Jt s_ a0.1 a0.2) = false := Vr h3
   refine rN Qb Yo [0, 3, 4, 5, 47] [3] (pn 4 hx0 (pn 10 hx0 (pc 13 (cb h3n (Bd s_ a0.1 a0.2)) (pe 14 (show .b (!false) = .b true from rfl) p0)))) ?_
   exact ⟨rfl, Qd (by rw [h3]; first | done | kernel_rfl)⟩
  ·
   have h3n : (Jt s_ a0.1 a0.2) = true := Ze h3
   refine Xl (decide (((k0 : Nat) : Int) > (0 : Int))) (fun h4 => ?_) (fun h4 => ?_)
   ·
    have h4d := of_decide_eq_true h4
    have hx5 := ng f.2.2.2.2 (Int.toNat (((k0 : Nat) : Int) - 1))
    refine rN Qb Yo [0, 3, 4, 5, 47] [3] (pn 4 hx0 (pn 10 hx0 (pc 13 (cb h3n (Bd s_ a0.1 a0.2)) (pe 14 (show .b (!true) = .b false from rfl) (pt 17 h4 (pe 22 (Jn (IntWalk.i64_in (((k0 : Nat) : Int) - 1) (by omega))) (pg 23 (((k0 : Nat) : Int) - 1) hx5 (pn 29 hx0 p0)))))))) ?_
    exact ⟨rfl, Qd (by rw [h3, h4]; first | done | kernel_rfl)⟩
   refine rN Qb Yo [0, 3, 4, 5, 47] [3] (pn 4 hx0 (pn 10 hx0 (pc 13 (cb h3n (Bd s_ a0.1 a0.2)) (pe 14 (show .b (!true) = .b false from rfl) (pf 17 h4 p0))))) ?_
   exact ⟨rfl, Qd (by rw [h3, h4]; first | done | kernel_rfl)⟩
  refine ck ((!(Jt s_ a0.1 a0.2)) || (decide (((k0 : Nat) : Int) > (0 : Int)) && (!(Op.bytesLess ((nth f.2.2.2.2 (Int.toNat (((k0 : Nat) : Int) - 1))).1).toList a0.1.toList)))) (fun h6 => ?_) (fun h6 => ?_)
  ·
   refine su Qb [] [47] [] [] (p0) ?_
   refine Qg ?_
   have hr7 : (Xp (Y9 s_ f) Jy f.2.2.2.2 0 ()) = .ret false := Zx hx0 (Q6 h6 (rfl)) hI0
   exact pb [] (Iq hr7)
  refine Qh ?_
  refine rn Qb [0, 3, 4, 5] [3] (pe 1 (Jn (Qp k0 (by omega))) p0) ?_
  exact Exists.intro _ (And.intro (Qd (by kernel_rfl)) (Qx hx0 (Qm h6 (rfl)) hI0))
 ·
  refine Qe (sn Qb [0, 3, 4, 5, 10] [3] (pl 3 f.2.2.2.2 (pe 4 (Qo (decide_eq_false (p := ((k0 : Nat) : Int) < (f.2.2.2.2.length : Int)) (by omega))) p0)) ?_)
  refine ckF ?_
  refine Q5 ?_
  exact Exists.intro _ (And.intro (Qd (by kernel_rfl)) (Xn hk0 (rfl) hI0))
 refine Qe (jn [(4, .b ((Jh s_) && ((Xa f.1 1 60) && ((Xa f.2.1 0 2) && (Xa f.2.2.2.1 0 60)))))] [0, 3, 4] [] [3] (Jh s_) (fun h8 => ?_) (fun h8 => ?_) ?_)
 ·
  refine Xl (Xa f.1 1 60) (fun h9 => ?_) (fun h9 => ?_)
  ·
   have h9w := E8.1 h9
   refine Xl (Xa f.2.1 0 2) (fun h10 => ?_) (fun h10 => ?_)
   ·
    have h10w := E8.1 h10
    refine rn Qb [4] [] (pc 1 (cb h8 (Ks s_)) (pc 5 (cb h9 (Zd f.1 1 60)) (pc 10 (cb h10 (Zd f.2.1 0 2)) (pc 15 (Zd f.2.2.2.1 0 60) p0)))) ?_
    exact ⟨rfl, Qd (by rw [h8, h9, h10]; first | done | kernel_rfl)⟩
   refine rn Qb [4] [] (pc 1 (cb h8 (Ks s_)) (pc 5 (cb h9 (Zd f.1 1 60)) (pc 10 (cb h10 (Zd f.2.1 0 2)) p0))) ?_
   exact ⟨rfl, Qd (by rw [h8, h9, h10]; first | done | kernel_rfl)⟩
  refine rn Qb [4] [] (pc 1 (cb h8 (Ks s_)) (pc 5 (cb h9 (Zd f.1 1 60)) p0)) ?_
  exact ⟨rfl, Qd (by rw [h8, h9]; first | done | kernel_rfl)⟩
 ·
  refine rn Qb [4] [] (pc 1 (cb h8 (Ks s_)) p0) ?_
  exact ⟨rfl, Qd (by rw [h8]; first | done | kernel_rfl)⟩
 refine Qg ?_
 exact pb [] (Wc hD0 (rfl))
def Zh (s_ : Ql) (k0 : Nat) (a0 : Q9) (_ : Unit) : Rd (Bool) (Unit) (Unit) := (bif ((!(Xi s_.1 a0)) || (decide (a0.1 ≥ s_.2.2) || (decide (((k0 : Nat) : Int) > (0 : Int)) && decide ((nth s_.2.1 (Int.toNat (((k0 : Nat) : Int) - 1))).1 ≥ a0.1)))) then (.ret false) else (.next ()))
def Vd (_ : Nat) (_ : Unit) : Unit := ()
def Qw (s_ : Ql) : Bool := (Out.on (Xp (Zh s_) Vd s_.2.1 0 ()) (fun _ => ((Jh s_.1) && (decide ((s_.2.1.length : Int) ≤ (12 : Int)) && (Xa s_.2.2 1 61)))))
theorem Za (s_ : Ql) : ACalls Tryz.prog 20 [.a [.h s_.1, .h s_.2.1, .i s_.2.2]] (.b (Qw s_)) := by
 refine en Qb Tryz.func20 fun w0 F0 hG => ?_
 refine sn Qb [1, 2] [1] (p0) ?_
 refine Qe (tn Qb [1, 2, 3] [1] (p0) ?_)
 refine mz [(1, .p 1 0), (2, .b false), (3, .i 0)] [0] [(1, [.h s_.1, .h s_.2.1, .i s_.2.2])] [] ?_
 refine wB 1 1 .sh s_.2.1 (fun hw1 hl2 => ?_)
 refine L3 (Zh s_) Vd s_.2.1 () (fun k0 _ => [(3, .i ((k0 : Nat) : Int))]) [3] (fun _ => []) [3] (Qd (by kernel_rfl)) (fun k0 s0 hk0 hI0 => ?_) (fun k0 s0 hk0 hI0 => ?_) (fun y0 hD0 => ?_)
 ·
  obtain ⟨a0, hx0⟩ := Xm (l := s_.2.1) (i := k0) hk0
  refine Qe (sn Qb [1, 2, 3, 8] [1] (pl 3 s_.2.1 (pe 4 (Qo (decide_eq_true (p := ((k0 : Nat) : Int) < (s_.2.1.length : Int)) (by omega))) p0)) ?_)
  refine ckT ?_
  refine Qh ?_
  refine Qe (Qs ?_)
  refine Qe (mz [(8, .b true)] [] [] [] ?_)
  refine jn [(50, .b ((!(Xi s_.1 a0)) || (decide (a0.1 ≥ s_.2.2) || (decide (((k0 : Nat) : Int) > (0 : Int)) && decide ((nth s_.2.1 (Int.toNat (((k0 : Nat) : Int) - 1))).1 ≥ a0.1)))))] [8] [] [] (!(Xi s_.1 a0)) (fun h3 => ?_) (fun h3 => ?_) ?_
  ·
   have h3n : (Xi s_.1 a0) = false := Vr h3
   refine rN Qb Yo [1, 2, 3, 50] [1] (pn 5 hx0 (pc 7 (cb h3n (Wh s_.1 a0)) (pe 8 (show .b (!false) = .b true from rfl) p0))) ?_
   exact ⟨rfl, Qd (by rw [h3]; first | done | kernel_rfl)⟩
  ·
   have h3n : (Xi s_.1 a0) = true := Ze h3
   refine Xl (decide (a0.1 ≥ s_.2.2)) (fun h4 => ?_) (fun h4 => ?_)
   ·
    refine rN Qb Yo [1, 2, 3, 50] [1] (pn 5 hx0 (pc 7 (cb h3n (Wh s_.1 a0)) (pe 8 (show .b (!true) = .b false from rfl) (pn 13 hx0 (pt 18 h4 p0))))) ?_
    exact ⟨rfl, Qd (by rw [h3, h4]; first | done | kernel_rfl)⟩
   have h4d := of_decide_eq_false h4
   refine Xl (decide (((k0 : Nat) : Int) > (0 : Int))) (fun h5 => ?_) (fun h5 => ?_)
   ·
    have h5d := of_decide_eq_true h5
    have hx6 := ng s_.2.1 (Int.toNat (((k0 : Nat) : Int) - 1))
    refine rN Qb Yo [1, 2, 3, 50] [1] (pn 5 hx0 (pc 7 (cb h3n (Wh s_.1 a0)) (pe 8 (show .b (!true) = .b false from rfl) (pn 13 hx0 (pf 18 h4 (pt 22 h5 (pe 27 (Jn (IntWalk.i64_in (((k0 : Nat) : Int) - 1) (by omega))) (pg 28 (((k0 : Nat) : Int) - 1) hx6 (pn 34 hx0 p0))))))))) ?_
    exact ⟨rfl, Qd (by rw [h3, h4, h5]; first | done | kernel_rfl)⟩
   refine rN Qb Yo [1, 2, 3, 50] [1] (pn 5 hx0 (pc 7 (cb h3n (Wh s_.1 a0)) (pe 8 (show .b (!true) = .b false from rfl) (pn 13 hx0 (pf 18 h4 (pf 22 h5 p0)))))) ?_
   exact ⟨rfl, Qd (by rw [h3, h4, h5]; first | done | kernel_rfl)⟩
  refine ck ((!(Xi s_.1 a0)) || (decide (a0.1 ≥ s_.2.2) || (decide (((k0 : Nat) : Int) > (0 : Int)) && decide ((nth s_.2.1 (Int.toNat (((k0 : Nat) : Int) - 1))).1 ≥ a0.1)))) (fun h7 => ?_) (fun h7 => ?_)
  ·
   refine su Qb [] [50] [] [] (p0) ?_
   refine Qg ?_
   have hr8 : (Xp (Zh s_) Vd s_.2.1 0 ()) = .ret false := Zx hx0 (Q6 h7 (rfl)) hI0
   exact pb [] (Iq hr8)
  have h7r : ((decide (a0.1 ≥ s_.2.2) || (decide (((k0 : Nat) : Int) > (0 : Int)) && decide ((nth s_.2.1 (Int.toNat (((k0 : Nat) : Int) - 1))).1 ≥ a0.1)))) = false := Px h7
  have h7rl : (decide (a0.1 ≥ s_.2.2)) = false := Pw h7r
  have h7rld := of_decide_eq_false h7rl
  refine Qh ?_
  refine rn Qb [1, 2, 3] [1] (pe 1 (Jn (Qp k0 (by omega))) p0) ?_
  exact Exists.intro _ (And.intro (Qd (by kernel_rfl)) (Qx hx0 (Qm h7 (rfl)) hI0))
 ·
  refine Qe (sn Qb [1, 2, 3, 8] [1] (pl 3 s_.2.1 (pe 4 (Qo (decide_eq_false (p := ((k0 : Nat) : Int) < (s_.2.1.length : Int)) (by omega))) p0)) ?_)
  refine ckF ?_
  refine Q5 ?_
  exact Exists.intro _ (And.intro (Qd (by kernel_rfl)) (Xn hk0 (rfl) hI0))
 refine Qe (jn [(2, .b ((Jh s_.1) && (decide ((s_.2.1.length : Int) ≤ (12 : Int)) && (Xa s_.2.2 1 61))))] [1, 2] [] [1] (Jh s_.1) (fun h9 => ?_) (fun h9 => ?_) ?_)
 ·
  refine Xl (decide ((s_.2.1.length : Int) ≤ (12 : Int))) (fun h10 => ?_) (fun h10 => ?_)
  ·
   refine rn Qb [2] [] (pc 2 (cb h9 (Ks s_.1)) (pl 6 s_.2.1 (pt 7 h10 (pc 12 (Zd s_.2.2 1 61) p0)))) ?_
   exact ⟨rfl, Qd (by rw [h9, h10]; first | done | kernel_rfl)⟩
  refine rn Qb [2] [] (pc 2 (cb h9 (Ks s_.1)) (pl 6 s_.2.1 (pf 7 h10 p0))) ?_
  exact ⟨rfl, Qd (by rw [h9, h10]; first | done | kernel_rfl)⟩
 ·
  refine rn Qb [2] [] (pc 2 (cb h9 (Ks s_.1)) p0) ?_
  exact ⟨rfl, Qd (by rw [h9]; first | done | kernel_rfl)⟩
 refine Qg ?_
 exact pb [] (Wc hD0 (rfl))
end Go.Proofs.YtkbfhiamdcoieaaGreatDoor
namespace Go.Proofs.YtkbfhiamdcoieaaGreatDoor
open Go.RowKit
theorem TX (s : List Yq) (n : ByteArray) : B9 s n = B7 s n := rfl
theorem QS (s : List Yq) (n : ByteArray) (v : Kg) : Jt s n v = Jf s n v := by
  unfold Jt Jf
  rw [GT, TX]
theorem VX (s : List Yq) : Jh s = Jg s := by
  unfold Jh Jg
  rw [B0 (f := Wb s) (g := Wa s) (e := Uj) (e' := Ui) (fun k a u => by
    unfold Wb Wa
    rw [BX]
    have h : (!(Xa a.2 1 2)) = ((a.2 != 1) && (a.2 != 2)) := by
      unfold Xa
      rw [Bool.eq_iff_iff]; simp; omega
    rw [h]
    generalize (!(Op.bytesLess ((nth s (Int.toNat (((k : Nat) : Int) - 1))).1).toList a.1.toList)) = x
    cases Xs a.1 <;> cases (a.2 != (1 : Int)) <;> cases (a.2 != (2 : Int)) <;> cases decide (((k : Nat) : Int) > (0 : Int)) <;> cases x <;> rfl) (fun _ _ => rfl)]
theorem IR (s : List Yq) (f : Q9) : Xi s f = Zg s f := by
  unfold Xi Zg
  rw [B0 (f := Y9 s f) (g := Zz s f) (e := Jy) (e' := K3) (fun k a u => by
    unfold Y9 Zz
    rw [QS]
    generalize (!(Op.bytesLess ((nth f.2.2.2.2 (Int.toNat (((k : Nat) : Int) - 1))).1).toList a.1.toList)) = x
    cases Jf s a.1 a.2 <;> cases decide (((k : Nat) : Int) > (0 : Int)) <;> cases x <;> rfl) (fun _ _ => rfl), VX]
  congr 1
  funext y
  unfold Ki
  simp only [← VH]
  cases Jg s <;> cases Ye f.1 1 60 <;> cases Ye f.2.1 0 2 <;> cases Ye f.2.2.2.1 0 60 <;> rfl
theorem Ib (s : Ql) : Qw s = Qz s := by
  unfold Qw Qz
  rw [B0 (f := Zh s) (g := Y1 s) (e := Vd) (e' := J6) (fun k a u => by
    unfold Zh Y1
    rw [IR]) (fun _ _ => rfl), VX]
  rfl
open GoE (enc wide)
def U0 (name : ByteArray) (_ : Nat) (a0 : Uc) (_ : Unit) : Rd (Kg) (Unit) (Unit) := (bif (a0.1.toList == name.toList) then (.ret a0.2) else (.next ()))
def An (_ : Nat) (_ : Unit) : Unit := ()
def Yh (f : Q9) (name : ByteArray) : Kg := (Out.on (Xp (U0 name) An f.2.2.2.2 0 ()) (fun _ => (0, 0, ⟨#[]⟩)))
theorem Eo (f : Q9) (name : ByteArray) : ACalls Tryz.prog 136 [.a [.i f.1, .i f.2.1, .b f.2.2.1, .i f.2.2.2.1, .h f.2.2.2.2], .s name] (.a [.i ((Yh f name).1), .i ((Yh f name).2.1), .s ((Yh f name).2.2)]) := by
 refine en Qb Tryz.func136 fun w0 F0 hG => ?_
 refine sn Qb [1, 2, 4] [2, 4] (p0) ?_
 refine Qe (tn Qb [1, 4, 8, 9, 10] [4] (pl 2 f.2.2.2.2 p0) ?_)
 refine mz [(4, .p 4 0), (8, .h f.2.2.2.2), (9, .i (f.2.2.2.2.length : Int)), (10, .i 0)] [0] [(4, [.i 0, .i 0, .s ⟨#[]⟩])] [] ?_
 refine wT 8 0 .sh f.2.2.2.2 (fun hw1 hl2 => ?_)
 refine L3 (U0 name) An f.2.2.2.2 () (fun k0 _ => [(10, .i ((k0 : Nat) : Int))]) [10] (fun _ => []) [1, 8, 9, 10] (Qd (by kernel_rfl)) (fun k0 s0 hk0 hI0 => ?_) (fun k0 s0 hk0 hI0 => ?_) (fun y0 hD0 => ?_)
 ·
  obtain ⟨a0, hx0⟩ := Xm (l := f.2.2.2.2) (i := k0) hk0
  refine su Qb [(11, .b true)] [] [] [] (pe 0 (Qo (decide_eq_true (p := ((k0 : Nat) : Int) < (f.2.2.2.2.length : Int)) (by omega))) p0) ?_
  refine Qe (ckT ?_)
  refine Qh ?_
  refine Qe (Qs ?_)
  refine sn Qb [1, 4, 6, 8, 9, 10] [4, 6] (pn 0 hx0 p0) ?_
  refine tn Qb [1, 4, 6, 8, 9, 10, 17] [4, 6] (p0) ?_
  refine ck (a0.1.toList == name.toList) (fun h3 => ?_) (fun h3 => ?_)
  ·
   refine tu Qb [] [11] [(4, [.i a0.2.1, .i a0.2.2.1, .s a0.2.2.2])] [4] (p0) ?_
   refine Qg ?_
   have hr4 : (Xp (U0 name) An f.2.2.2.2 0 ()) = .ret a0.2 := Zx hx0 (Q6 h3 (rfl)) hI0
   exact pz [] (show Yh f name = _ from Iq hr4) (fun z => .a [.i z.1, .i z.2.1, .s z.2.2])
  refine Qh ?_
  refine qu Qb [(10, .i ((k0 + 1 : Nat) : Int))] [10, 11] [] [] (pe 0 (Jn (Qp k0 (by omega))) p0) ?_
  exact Exists.intro _ (And.intro (Qd (by kernel_rfl)) (Qx hx0 (Qm h3 (rfl)) hI0))
 ·
  refine sn Qb [1, 4, 8, 9, 10, 11] [4] (pe 0 (Qo (decide_eq_false (p := ((k0 : Nat) : Int) < (f.2.2.2.2.length : Int)) (by omega))) p0) ?_
  refine Qe (ckF ?_)
  refine Q5 ?_
  exact Exists.intro _ (And.intro (Qd (by kernel_rfl)) (Xn hk0 (rfl) hI0))
 refine sn Qb [4] [4] (p0) ?_
 refine Qg ?_
 exact pz [] (show Yh f name = _ from Wc hD0 (rfl)) (fun z => .a [.i z.1, .i z.2.1, .s z.2.2])
def V4 (f : Q9) (name : ByteArray) : Int × Bool := (bif ((Yh f name).1 != (1 : Int)) then (0, false) else ((Yh f name).2.1, true))
theorem JA (f : Q9) (name : ByteArray) : ACalls Tryz.prog 189 [.a [.i f.1, .i f.2.1, .b f.2.2.1, .i f.2.2.2.1, .h f.2.2.2.2], .s name] (.tup [(false, [.i (((V4 f name)).1)]), (false, [.b (((V4 f name)).2)])]) := by
 refine en Qb Tryz.func189 fun w0 F0 hG => ?_
 refine sn Qb [1, 2, 4, 5] [2] (p0) ?_
 refine tn Qb [4, 5, 6] [6] (pc 2 (Eo f name) p0) ?_
 refine Qe (tu Qb [(4, .i 0), (5, .b false), (6, .p 6 0), (12, .b ((Yh f name).1 != (1 : Int)))] [0, 1] [(6, [.i ((Yh f name).1), .i ((Yh f name).2.1), .s ((Yh f name).2.2)])] [] (p0) ?_)
 refine ck ((Yh f name).1 != (1 : Int)) (fun h1 => ?_) (fun h1 => ?_)
 ·
  refine su Qb [] [12] [] [] (p0) ?_
  refine Qg ?_
  exact pz [] (show V4 f name = _ from Q6 h1 (rfl)) (fun z => .tup [(false, [.i z.1]), (false, [.b z.2])])
 refine Qh ?_
 refine sn Qb [4, 5] [] (p0) ?_
 refine Qg ?_
 exact pz [] (show V4 f name = _ from Qm h1 (rfl)) (fun z => .tup [(false, [.i z.1]), (false, [.b z.2])])
def Kn (name : ByteArray) (_ : Nat) (a0 : Qr) (_ : Unit) : Rd ((List Int)) (Unit) (Unit) := (bif (a0.1.toList == name.toList) then (.ret a0.2) else (.next ()))
def V5 (_ : Nat) (_ : Unit) : Unit := ()
def Yb (r : (List Qr)) (name : ByteArray) : (List Int) := (Out.on (Xp (Kn name) V5 r 0 ()) (fun _ => []))
theorem Ca (r : (List Qr)) (name : ByteArray) : ACalls Tryz.prog 58 [.h r, .s name] (.o 0 (Yb r name)) := by
 refine en Qb Tryz.func58 fun w0 F0 hG => ?_
 refine sn Qb [0, 1, 4] [] (p0) ?_
 refine Qe (tn Qb [1, 4, 7, 8, 9] [] (pl 1 r p0) ?_)
 refine mz [(4, .e 0), (7, .h r), (8, .i (r.length : Int)), (9, .i 0)] [0] [] [] ?_
 refine wT 7 0 .sh r (fun hw1 hl2 => ?_)
 refine L3 (Kn name) V5 r () (fun k0 _ => [(9, .i ((k0 : Nat) : Int))]) [9] (fun _ => []) [1, 7, 8, 9] (Qd (by kernel_rfl)) (fun k0 s0 hk0 hI0 => ?_) (fun k0 s0 hk0 hI0 => ?_) (fun y0 hD0 => ?_)
 ·
  obtain ⟨a0, hx0⟩ := Xm (l := r) (i := k0) hk0
  refine sn Qb [1, 4, 7, 8, 9, 10] [] (pe 0 (Qo (decide_eq_true (p := ((k0 : Nat) : Int) < (r.length : Int)) (by omega))) p0) ?_
  refine Qe (ckT ?_)
  refine Qh ?_
  refine Qe (Qs ?_)
  refine tn Qb [1, 4, 6, 7, 8, 9] [6] (pn 0 hx0 p0) ?_
  refine tu Qb [(6, .p 6 0), (16, .b (a0.1.toList == name.toList))] [] [(6, [.s a0.1, .h a0.2])] [] (p0) ?_
  refine ck (a0.1.toList == name.toList) (fun h3 => ?_) (fun h3 => ?_)
  ·
   refine sn Qb [1, 4, 7, 8, 9] [] (pc 2 (DX a0.2) p0) ?_
   refine Qg ?_
   have hr4 : (Xp (Kn name) V5 r 0 ()) = .ret a0.2 := Zx hx0 (Q6 h3 (rfl)) hI0
   exact po0 [] (Iq hr4)
  refine Qh ?_
  refine rn Qb [1, 4, 7, 8, 9] [] (pe 0 (Jn (Qp k0 (by omega))) p0) ?_
  exact Exists.intro _ (And.intro (Qd (by kernel_rfl)) (Qx hx0 (Qm h3 (rfl)) hI0))
 ·
  refine sn Qb [1, 4, 7, 8, 9, 10] [] (pe 0 (Qo (decide_eq_false (p := ((k0 : Nat) : Int) < (r.length : Int)) (by omega))) p0) ?_
  refine Qe (ckF ?_)
  refine Q5 ?_
  exact Exists.intro _ (And.intro (Qd (by kernel_rfl)) (Xn hk0 (rfl) hI0))
 refine sn Qb [4] [] (p0) ?_
 refine opn [(false, 4, 0, true, 384000, 1)] ?_
 refine Qg ?_
 exact po0 [] (Wc hD0 (rfl))
def Jz (v : Int) (k0 : Nat) (a0 : Int) (_ : Unit) : Rd (Int) (Unit) (Unit) := (bif (v == a0) then (.ret ((k0 : Nat) : Int)) else (.next ()))
def Vz (_ : Nat) (_ : Unit) : Unit := ()
def Hu (s_ : (List Int)) (v : Int) : Int := (Out.on (Xp (Jz v) Vz s_ 0 ()) (fun _ => -1))
theorem P3 (s_ : (List Int)) (v : Int) : ACalls Tryz.prog 207 [.h s_, .i v] (.i (Hu s_ v)) := by
 refine en Qb Tryz.func207 fun w0 F0 hG => ?_
 refine sn Qb [0, 1, 4] [] (p0) ?_
 refine Qe (tn Qb [0, 1, 4, 7, 8] [] (pl 1 s_ p0) ?_)
 refine mz [(4, .i 0), (7, .i (s_.length : Int)), (8, .i 0)] [] [] [] ?_
 refine wT 0 0 .sh s_ (fun hw1 hl2 => ?_)
 refine L3 (Jz v) Vz s_ () (fun k0 _ => [(8, .i ((k0 : Nat) : Int))]) [8] (fun _ => []) [0, 1, 7, 8] (Qd (by kernel_rfl)) (fun k0 s0 hk0 hI0 => ?_) (fun k0 s0 hk0 hI0 => ?_) (fun y0 hD0 => ?_)
 ·
  obtain ⟨a0, hx0⟩ := Xm (l := s_) (i := k0) hk0
  refine sn Qb [0, 1, 4, 7, 8, 9] [] (pe 0 (Qo (decide_eq_true (p := ((k0 : Nat) : Int) < (s_.length : Int)) (by omega))) p0) ?_
  refine Qe (ckT ?_)
  refine Qh ?_
  refine Qe (Qs ?_)
  refine tn Qb [0, 1, 4, 5, 7, 8] [] (p0) ?_
  refine tu Qb [(5, .i ((k0 : Nat) : Int)), (16, .b (v == a0))] [] [] [] (pn 3 hx0 p0) ?_
  refine ck (v == a0) (fun h3 => ?_) (fun h3 => ?_)
  ·
   refine sn Qb [0, 1, 4, 7, 8] [] (p0) ?_
   refine Qg ?_
   have hr4 : (Xp (Jz v) Vz s_ 0 ()) = .ret ((k0 : Nat) : Int) := Zx hx0 (Q6 h3 (rfl)) hI0
   exact pi [] (Iq hr4)
  have h3d := Yg h3
  refine Qh ?_
  refine rn Qb [0, 1, 4, 7, 8] [] (pe 0 (Jn (Qp k0 (by omega))) p0) ?_
  exact Exists.intro _ (And.intro (Qd (by kernel_rfl)) (Qx hx0 (Qm h3 (rfl)) hI0))
 ·
  refine sn Qb [0, 1, 4, 7, 8, 9] [] (pe 0 (Qo (decide_eq_false (p := ((k0 : Nat) : Int) < (s_.length : Int)) (by omega))) p0) ?_
  refine Qe (ckF ?_)
  refine Q5 ?_
  exact Exists.intro _ (And.intro (Qd (by kernel_rfl)) (Xn hk0 (rfl) hI0))
 refine sn Qb [4] [] (p0) ?_
 refine Qg ?_
 exact pi [] (Wc hD0 (rfl))
def V0 (s_ : (List Int)) (v : Int) : Bool := decide ((Hu s_ v) ≥ (0 : Int))
theorem Mc (s_ : (List Int)) (v : Int) : ACalls Tryz.prog 201 [.h s_, .i v] (.b (V0 s_ v)) := by
 refine en Qb Tryz.func201 fun w0 F0 hG => ?_
 refine sn Qb [0, 1, 4] [] (p0) ?_
 refine tn Qb [4] [] (pc 2 (P3 s_ v) p0) ?_
 refine Qg ?_
 exact pb [] (show V0 s_ v = decide ((Hu s_ v) ≥ (0 : Int)) from rfl)
def Vn (ids : (List Int)) (id : Int) : Bool := (V0 ids id)
theorem Ir (ids : (List Int)) (id : Int) : ACalls Tryz.prog 190 [.h ids, .i id] (.b (Vn ids id)) := by
 refine en Qb Tryz.func190 fun w0 F0 hG => ?_
 refine sn Qb [0, 1, 4] [] (p0) ?_
 refine tn Qb [4] [] (pc 2 (Mc ids id) p0) ?_
 refine Qg ?_
 exact pb [] (show Vn ids id = (V0 ids id) from rfl)
def Yf (n_ : Nat) (q : (List X4)) (at_ : Int) (f : Q9) (r : (List Qr)) : Bool := match n_ with
 | 0 => default
 | n_ + 1 => (bif ((nth q (Int.toNat at_)).1 == (2 : Int)) then ((Yh f ((nth q (Int.toNat at_)).2.2.2.1)).1 != (0 : Int)) else (bif ((nth q (Int.toNat at_)).1 == (3 : Int)) then (((Yh f ((nth q (Int.toNat at_)).2.2.2.1)).1 == (nth q (Int.toNat at_)).2.2.2.2.1) && (((Yh f ((nth q (Int.toNat at_)).2.2.2.1)).2.1 == (nth q (Int.toNat at_)).2.2.2.2.2.1) && ((((Yh f ((nth q (Int.toNat at_)).2.2.2.1)).2.2).toList == ((nth q (Int.toNat at_)).2.2.2.2.2.2).toList) && true))) else (bif ((nth q (Int.toNat at_)).1 == (4 : Int)) then (((V4 f ((nth q (Int.toNat at_)).2.2.2.1))).2 && decide (((V4 f ((nth q (Int.toNat at_)).2.2.2.1))).1 < (nth q (Int.toNat at_)).2.2.2.2.2.1)) else (bif ((nth q (Int.toNat at_)).1 == (5 : Int)) then (!(Yf n_ q ((nth q (Int.toNat at_)).2.1) f r)) else (bif ((nth q (Int.toNat at_)).1 == (6 : Int)) then ((Yf n_ q ((nth q (Int.toNat at_)).2.1) f r) && (Yf n_ q ((nth q (Int.toNat at_)).2.2.1) f r)) else (bif ((nth q (Int.toNat at_)).1 == (7 : Int)) then ((Yf n_ q ((nth q (Int.toNat at_)).2.1) f r) || (Yf n_ q ((nth q (Int.toNat at_)).2.2.1) f r)) else (bif ((nth q (Int.toNat at_)).1 == (8 : Int)) then (Vn (Yb r ((nth q (Int.toNat at_)).2.2.2.1)) f.1) else (bif ((nth q (Int.toNat at_)).1 == (9 : Int)) then ((f.2.2.2.1 != (0 : Int)) && (Vn (Yb r ((nth q (Int.toNat at_)).2.2.2.1)) f.2.2.2.1)) else true))))))))
theorem Tu : ∀ (n_ : Nat) (q : (List X4)) (at_ : Int) (f : Q9) (r : (List Qr)) (hv : Q4 q = true) (ha : 0 ≤ at_) (hb : at_ < (q.length : Int)) (hn : at_ < ((n_ : Nat) : Int)), ACalls Tryz.prog 176 [.h q, .i at_, .a [.i f.1, .i f.2.1, .b f.2.2.1, .i f.2.2.2.1, .h f.2.2.2.2], .h r] (.b (Yf n_ q at_ f r)) := by
 intro n_
 induction n_ with
 | zero => intro q at_ f r hv ha hb hn; exact (by omega : False).elim
 | succ n_ ih =>
  intro q at_ f r hv ha hb hn
  refine en Qb Tryz.func176 fun w0 F0 hG => ?_
  refine sn Qb [0, 1, 3, 6, 8] [6] (p0) ?_
  refine wT 0 0 .sh q (fun hw2 hl3 => ?_)
  have hx1 := ng q (Int.toNat at_)
  refine tn Qb [0, 3, 6, 8, 9] [6, 9] (pg 2 at_ hx1 p0) ?_
  refine Qe (tu Qb [(6, .p 6 0), (8, .b false), (9, .p 9 0), (17, .i ((nth q (Int.toNat at_)).1))] [1, 2] [(6, [.i f.1, .i f.2.1, .b f.2.2.1, .i f.2.2.2.1, .h f.2.2.2.2]), (9, [.i ((nth q (Int.toNat at_)).1), .i ((nth q (Int.toNat at_)).2.1), .i ((nth q (Int.toNat at_)).2.2.1), .s ((nth q (Int.toNat at_)).2.2.2.1), .i ((nth q (Int.toNat at_)).2.2.2.2.1), .i ((nth q (Int.toNat at_)).2.2.2.2.2.1), .s ((nth q (Int.toNat at_)).2.2.2.2.2.2)])] [] (p0) ?_)
  refine Qs ?_
  refine sn Qb [0, 3, 6, 8, 9, 17, 18] [6, 9] (p0) ?_
  refine ck ((nth q (Int.toNat at_)).1 == (2 : Int)) (fun h4 => ?_) (fun h4 => ?_)
  ·
   refine tn Qb [8] [] (pc 3 (Eo f ((nth q (Int.toNat at_)).2.2.2.1)) p0) ?_
   refine Qg ?_
   exact pb [] (Q6 h4 (rfl))
  have h4d := Yg h4
  refine tn Qb [0, 3, 6, 8, 9, 17, 26] [6, 9] (p0) ?_
  refine ck ((nth q (Int.toNat at_)).1 == (3 : Int)) (fun h5 => ?_) (fun h5 => ?_)
  ·
   refine tU Qb Yo [(8, .b (((Yh f ((nth q (Int.toNat at_)).2.2.2.1)).1 == (nth q (Int.toNat at_)).2.2.2.2.1) && (((Yh f ((nth q (Int.toNat at_)).2.2.2.1)).2.1 == (nth q (Int.toNat at_)).2.2.2.2.2.1) && ((((Yh f ((nth q (Int.toNat at_)).2.2.2.1)).2.2).toList == ((nth q (Int.toNat at_)).2.2.2.2.2.2).toList) && true))))] [0, 3, 6, 8, 9, 17] [] [6, 9] (pc 3 (Eo f ((nth q (Int.toNat at_)).2.2.2.1)) p0) ?_
   refine Qg ?_
   exact pb [] (Qm h4 (Q6 h5 (rfl)))
  have h5d := Yg h5
  refine tu Qb [(35, .b ((nth q (Int.toNat at_)).1 == (4 : Int)))] [] [] [] (p0) ?_
  refine ck ((nth q (Int.toNat at_)).1 == (4 : Int)) (fun h6 => ?_) (fun h6 => ?_)
  ·
   refine sn Qb [8, 9, 10, 11] [9] (pc 3 (JA f ((nth q (Int.toNat at_)).2.2.2.1)) p0) ?_
   refine Qe (mz [(10, .i (((V4 f ((nth q (Int.toNat at_)).2.2.2.1))).1)), (11, .b (((V4 f ((nth q (Int.toNat at_)).2.2.2.1))).2))] [0, 3, 6, 17, 35] [] [6] ?_)
   refine jn [(8, .b (((V4 f ((nth q (Int.toNat at_)).2.2.2.1))).2 && decide (((V4 f ((nth q (Int.toNat at_)).2.2.2.1))).1 < (nth q (Int.toNat at_)).2.2.2.2.2.1)))] [8, 9, 10, 11] [] [9] (((V4 f ((nth q (Int.toNat at_)).2.2.2.1))).2) (fun h7 => ?_) (fun h7 => ?_) ?_
   ·
    refine rn Qb [8] [] (pt 0 h7 p0) ?_
    exact ⟨rfl, Qd (by rw [h7]; first | done | kernel_rfl)⟩
   ·
    refine rn Qb [8] [] (pf 0 h7 p0) ?_
    exact ⟨rfl, Qd (by rw [h7]; first | done | kernel_rfl)⟩
   refine Qg ?_
   exact pb [] (Qm h4 (Qm h5 (Q6 h6 (rfl))))
  have h6d := Yg h6
  refine sn Qb [0, 3, 6, 8, 9, 17, 52] [6, 9] (p0) ?_
  refine ck ((nth q (Int.toNat at_)).1 == (5 : Int)) (fun h8 => ?_) (fun h8 => ?_)
  ·
   have h8d := eq_of_beq h8
   refine tn Qb [8] [] (pc 5 (ih q ((nth q (Int.toNat at_)).2.1) f r hv (by have hz := RD hv ha hb h8; omega) (by have hz := RD hv ha hb h8; omega) (by have hz := RD hv ha hb h8; omega)) p0) ?_
   refine Qg ?_
   exact pb [] (Qm h4 (Qm h5 (Qm h6 (Q6 h8 (rfl)))))
  have h8d := Yg h8
  refine tn Qb [0, 3, 6, 8, 9, 17, 61] [6, 9] (p0) ?_
  refine ck ((nth q (Int.toNat at_)).1 == (6 : Int)) (fun h9 => ?_) (fun h9 => ?_)
  ·
   have h9d := eq_of_beq h9
   refine Qe (mz [(61, .b ((nth q (Int.toNat at_)).1 == (6 : Int)))] [35] [] [] ?_)
   refine jn [(8, .b ((Yf n_ q ((nth q (Int.toNat at_)).2.1) f r) && (Yf n_ q ((nth q (Int.toNat at_)).2.2.1) f r)))] [0, 3, 6, 8, 9, 17, 61] [] [6, 9] (Yf n_ q ((nth q (Int.toNat at_)).2.1) f r) (fun h10 => ?_) (fun h10 => ?_) ?_
   ·
    refine rn Qb [8] [] (pc 5 (cb h10 (ih q ((nth q (Int.toNat at_)).2.1) f r hv (by have hz := BY hv ha hb h9; omega) (by have hz := BY hv ha hb h9; omega) (by have hz := BY hv ha hb h9; omega))) (pc 12 (ih q ((nth q (Int.toNat at_)).2.2.1) f r hv (by have hz := RE hv ha hb h9; omega) (by have hz := RE hv ha hb h9; omega) (by have hz := RE hv ha hb h9; omega)) p0)) ?_
    exact ⟨rfl, Qd (by rw [h10]; first | done | kernel_rfl)⟩
   ·
    refine rn Qb [8] [] (pc 5 (cb h10 (ih q ((nth q (Int.toNat at_)).2.1) f r hv (by have hz := BY hv ha hb h9; omega) (by have hz := BY hv ha hb h9; omega) (by have hz := BY hv ha hb h9; omega))) p0) ?_
    exact ⟨rfl, Qd (by rw [h10]; first | done | kernel_rfl)⟩
   refine Qg ?_
   exact pb [] (Qm h4 (Qm h5 (Qm h6 (Qm h8 (Q6 h9 (rfl))))))
  have h9d := Yg h9
  refine tu Qb [(77, .b ((nth q (Int.toNat at_)).1 == (7 : Int)))] [35] [] [] (p0) ?_
  refine ck ((nth q (Int.toNat at_)).1 == (7 : Int)) (fun h11 => ?_) (fun h11 => ?_)
  ·
   have h11d := eq_of_beq h11
   refine Qe (jn [(8, .b ((Yf n_ q ((nth q (Int.toNat at_)).2.1) f r) || (Yf n_ q ((nth q (Int.toNat at_)).2.2.1) f r)))] [0, 3, 6, 8, 9, 17, 77] [] [6, 9] (Yf n_ q ((nth q (Int.toNat at_)).2.1) f r) (fun h12 => ?_) (fun h12 => ?_) ?_)
   ·
    refine rn Qb [8] [] (pc 5 (cb h12 (ih q ((nth q (Int.toNat at_)).2.1) f r hv (by have hz := DY hv ha hb h11; omega) (by have hz := DY hv ha hb h11; omega) (by have hz := DY hv ha hb h11; omega))) p0) ?_
    exact ⟨rfl, Qd (by rw [h12]; first | done | kernel_rfl)⟩
   ·
    refine rn Qb [8] [] (pc 5 (cb h12 (ih q ((nth q (Int.toNat at_)).2.1) f r hv (by have hz := DY hv ha hb h11; omega) (by have hz := DY hv ha hb h11; omega) (by have hz := DY hv ha hb h11; omega))) (pc 12 (ih q ((nth q (Int.toNat at_)).2.2.1) f r hv (by have hz := TP hv ha hb h11; omega) (by have hz := TP hv ha hb h11; omega) (by have hz := TP hv ha hb h11; omega)) p0)) ?_
    exact ⟨rfl, Qd (by rw [h12]; first | done | kernel_rfl)⟩
   refine Qg ?_
   exact pb [] (Qm h4 (Qm h5 (Qm h6 (Qm h8 (Qm h9 (Q6 h11 (rfl)))))))
  refine sn Qb [3, 6, 8, 9, 17, 93] [6, 9] (p0) ?_
  refine ck ((nth q (Int.toNat at_)).1 == (8 : Int)) (fun h13 => ?_) (fun h13 => ?_)
  ·
   refine tN Qb Yo [8] [] (pc 3 (Ca r ((nth q (Int.toNat at_)).2.2.2.1)) (pc 6 (Ir (Yb r ((nth q (Int.toNat at_)).2.2.2.1)) f.1) p0)) ?_
   refine Qg ?_
   exact pb [] (Qm h4 (Qm h5 (Qm h6 (Qm h8 (Qm h9 (Qm h11 (Q6 h13 (rfl))))))))
  refine tn Qb [3, 6, 8, 9, 102] [6, 9] (p0) ?_
  refine ck ((nth q (Int.toNat at_)).1 == (9 : Int)) (fun h14 => ?_) (fun h14 => ?_)
  ·
   refine Qe (mz [(102, .b ((nth q (Int.toNat at_)).1 == (9 : Int)))] [0, 17, 77] [] [] ?_)
   refine jn [(8, .b ((f.2.2.2.1 != (0 : Int)) && (Vn (Yb r ((nth q (Int.toNat at_)).2.2.2.1)) f.2.2.2.1)))] [3, 6, 8, 9, 102] [] [6, 9] (f.2.2.2.1 != (0 : Int)) (fun h15 => ?_) (fun h15 => ?_) ?_
   ·
    refine rN Qb Yo [8] [] (pt 2 h15 (pc 7 (Ca r ((nth q (Int.toNat at_)).2.2.2.1)) (pc 10 (Ir (Yb r ((nth q (Int.toNat at_)).2.2.2.1)) f.2.2.2.1) p0))) ?_
    exact ⟨rfl, Qd (by rw [h15]; first | done | kernel_rfl)⟩
   ·
    refine rN Qb Yo [8] [] (pf 2 h15 p0) ?_
    exact ⟨rfl, Qd (by rw [h15]; first | done | kernel_rfl)⟩
   refine Qg ?_
   exact pb [] (Qm h4 (Qm h5 (Qm h6 (Qm h8 (Qm h9 (Qm h11 (Qm h13 (Q6 h14 (rfl)))))))))
  refine Qh ?_
  refine tu Qb [(8, .b true)] [0, 3, 6, 8, 9, 17, 77] [] [6, 9] (p0) ?_
  refine Qg ?_
  exact pb [] (Qm h4 (Qm h5 (Qm h6 (Qm h8 (Qm h9 (Qm h11 (Qm h13 (Qm h14 (rfl)))))))))
def V6 (q : (List X4)) (f : Q9) (r : (List Qr)) : Bool := ((Q4 q) && (Yf (List.length q) q ((q.length : Int) - 1) f r))
theorem JB (q : (List X4)) (f : Q9) (r : (List Qr)) : ACalls Tryz.prog 162 [.h q, .a [.i f.1, .i f.2.1, .b f.2.2.1, .i f.2.2.2.1, .h f.2.2.2.2], .h r] (.b (V6 q f r)) := by
 refine en Qb Tryz.func162 fun w0 F0 hG => ?_
 refine sn Qb [0, 2, 4, 6] [4] (p0) ?_
 refine Qe (mz [(4, .p 4 0), (6, .b false)] [1] [(4, [.i f.1, .i f.2.1, .b f.2.2.1, .i f.2.2.2.1, .h f.2.2.2.2])] [] ?_)
 refine jn [(6, .b ((Q4 q) && (Yf (List.length q) q ((q.length : Int) - 1) f r)))] [0, 2, 4, 6] [] [4] (Q4 q) (fun h1 => ?_) (fun h1 => ?_) ?_
 ·
  refine wT 0 0 .sh q (fun hw2 hl3 => ?_)
  refine rn Qb [6] [] (pc 1 (cb h1 (W1 q)) (pl 5 q (pe 6 (Jn (IntWalk.i64_in ((q.length : Int) - 1) (by omega))) (pc 9 (Tu (List.length q) q ((q.length : Int) - 1) f r h1 (by have := Tg h1; omega) (by omega) (by omega)) p0)))) ?_
  exact ⟨rfl, Qd (by rw [h1]; first | done | kernel_rfl)⟩
 ·
  refine rn Qb [6] [] (pc 1 (cb h1 (W1 q)) p0) ?_
  exact ⟨rfl, Qd (by rw [h1]; first | done | kernel_rfl)⟩
 refine Qg ?_
 exact pb [] (show V6 q f r = ((Q4 q) && (Yf (List.length q) q ((q.length : Int) - 1) f r)) from rfl)
def W5 (q : (List X4)) (r : (List Qr)) (_ : Nat) (a0 : Q9) (s0 : (List Int)) : Rd ((List Int)) ((List Int)) ((List Int)) := (bif (V6 q a0 r) then (.next (s0 ++ [a0.1])) else (.next s0))
def Cb (_ : Nat) (s0 : (List Int)) : (List Int) := s0
def X7 (s_ : Ql) (q : (List X4)) (r : (List Qr)) : (List Int) := (Out.on (Xp (W5 q r) Cb s_.2.1 0 []) (fun y0 => y0))
theorem P4 (s_ : Ql) (q : (List X4)) (r : (List Qr)) : ACalls Tryz.prog 132 [.a [.h s_.1, .h s_.2.1, .i s_.2.2], .h q, .h r] (.o 0 (X7 s_ q r)) := by
 refine en Qb Tryz.func132 fun w0 F0 hG => ?_
 refine sn Qb [1, 2, 3, 6] [3] (p0) ?_
 refine tn Qb [1, 2, 3, 6, 7] [3] (p0) ?_
 refine Qe (tu Qb [(6, .e 0), (7, .one (.slc (.own true 640) 1 [])), (12, .h s_.2.1), (13, .i (s_.2.1.length : Int)), (14, .i 0)] [0] [] [] (pl 2 s_.2.1 p0) ?_)
 refine wT 12 0 .sh s_.2.1 (fun hw1 hl2 => ?_)
 refine GN (W5 q r) Cb s_.2.1 [] (fun k0 s0 => [(7, .o 147203 s0), (14, .i ((k0 : Nat) : Int))]) [7, 14] (fun y0 => [(7, .o 147353 y0)]) [1, 2, 7, 12, 13, 14] (fun k0 s0 => List.length s0 ≤ k0) (X2 [(640, 147203)] (by kernel_rfl)) (by simp) (fun k0 s0 hk0 hI0 => ?_) (fun k0 s0 hk0 hI0 => ?_) (fun y0 hD0 => ?_)
 ·
  have hA0_0 := hI0.2
  obtain ⟨a0, hx0⟩ := Xm (l := s_.2.1) (i := k0) hk0
  refine su Qb [(15, .b true)] [] [] [] (pe 0 (Qo (decide_eq_true (p := ((k0 : Nat) : Int) < (s_.2.1.length : Int)) (by omega))) p0) ?_
  refine Qe (ckT ?_)
  refine Qh ?_
  refine Qe (Qs ?_)
  refine sn Qb [1, 2, 6, 7, 9, 12, 13, 14] [9] (pn 0 hx0 p0) ?_
  refine tn Qb [1, 2, 6, 7, 9, 12, 13, 14, 21] [9] (pc 3 (JB q a0 r) p0) ?_
  refine ck (V6 q a0 r) (fun h3 => ?_) (fun h3 => ?_)
  ·
   refine wT 7 0 (.own true 147203) s0 (fun hw4 hl5 => ?_)
   refine qu Qb [(7, .one (.slc (.own true 1664) 1 ((eL s0) ++ [[.i a0.1]])))] [7, 15] [] [] (pa s0 [a0.1] p0) ?_
   refine eqn [(7, .o 1664 (s0 ++ [a0.1]))] [7] [] [] (by rw [show ((eL s0) ++ [[.i a0.1]]) = (eL (s0 ++ [a0.1])) from Kj (rfl) (rfl)]; first | done | kernel_rfl) ?_
   refine rn Qb [1, 2, 6, 7, 12, 13, 14] [] (pe 0 (Jn (Qp k0 (by omega))) p0) ?_
   exact Exists.intro (s0 ++ [a0.1]) (And.intro (X2 [(1664, 147203)] (by kernel_rfl)) ⟨Qx hx0 (Q6 h3 (rfl)) hI0.1, by first | omega | (simp; omega) | simp⟩)
  refine Qh ?_
  refine qu Qb [(14, .i ((k0 + 1 : Nat) : Int))] [14, 15] [] [] (pe 0 (Jn (Qp k0 (by omega))) p0) ?_
  exact Exists.intro s0 (And.intro (Qd (by kernel_rfl)) ⟨Qx hx0 (Qm h3 (rfl)) hI0.1, by first | omega | (simp; omega) | simp⟩)
 ·
  have hA0_0 := hI0.2
  refine su Qb [(15, .b false)] [] [] [] (pe 0 (Qo (decide_eq_false (p := ((k0 : Nat) : Int) < (s_.2.1.length : Int)) (by omega))) p0) ?_
  refine Qe (ckF ?_)
  refine Q5 ?_
  exact Exists.intro _ (And.intro (X2 [(147203, 147353)] (by kernel_rfl)) (Xn hk0 (rfl) hI0.1))
 refine sn Qb [6] [] (p0) ?_
 refine Qg ?_
 exact po0 [] (Wc hD0 (rfl))
def F6 (name : ByteArray) (_ : Nat) (a0 : Uc) (_ : Unit) : Rd (Kg) (Unit) (Unit) := (bif (a0.1.toList == name.toList) then (.ret a0.2) else (.next ()))
def F7 (_ : Nat) (_ : Unit) : Unit := ()
def Y6 (f : Q9) (name : ByteArray) : Kg := (Out.on (Xp (F6 name) F7 f.2.2.2.2 0 ()) (fun _ => (0, 0, ⟨#[]⟩)))
theorem Ow (f : Q9) (name : ByteArray) : ACalls Tryz.prog 164 [.a [.i f.1, .i f.2.1, .b f.2.2.1, .i f.2.2.2.1, .h f.2.2.2.2], .s name] (.a [.i ((Y6 f name).1), .i ((Y6 f name).2.1), .s ((Y6 f name).2.2)]) := by
 refine en Qb Tryz.func164 fun w0 F0 hG => ?_
 refine sn Qb [1, 2, 4] [2, 4] (p0) ?_
 refine Qe (tn Qb [1, 2, 4, 5] [2, 4] (p0) ?_)
 refine mz [(2, .p 2 0), (4, .p 4 0), (5, .i 0)] [0] [(2, [.i f.1, .i f.2.1, .b f.2.2.1, .i f.2.2.2.1, .h f.2.2.2.2]), (4, [.i 0, .i 0, .s ⟨#[]⟩])] [] ?_
 refine wB 2 4 .sh f.2.2.2.2 (fun hw1 hl2 => ?_)
 refine GO (F6 name) F7 f.2.2.2.2 () (fun k0 _ => [(5, .i ((k0 : Nat) : Int))]) [5] (fun _ _ => []) [] (fun _ => []) [1, 2, 5] (fun _ => []) [2] (Qd (by kernel_rfl)) (fun k0 s0 hk0 hI0 => ?_) (fun k0 s0 hk0 hI0 => ?_) (fun y0 hD0 => ?_)
 ·
  obtain ⟨a0, hx0⟩ := Xm (l := f.2.2.2.2) (i := k0) hk0
  refine Qe (sn Qb [1, 2, 4, 5, 10] [2, 4] (pl 3 f.2.2.2.2 (pe 4 (Qo (decide_eq_true (p := ((k0 : Nat) : Int) < (f.2.2.2.2.length : Int)) (by omega))) p0)) ?_)
  refine ckT ?_
  refine Qh ?_
  refine Qe (Qs ?_)
  refine tn Qb [1, 2, 4, 5, 20] [2, 4] (pn 3 hx0 p0) ?_
  refine ck (a0.1.toList == name.toList) (fun h3 => ?_) (fun h3 => ?_)
  ·
   refine tu Qb [] [] [(4, [.i a0.2.1, .i a0.2.2.1, .s a0.2.2.2])] [4] (pn 3 hx0 p0) ?_
   refine Qg ?_
   have hr4 : (Xp (F6 name) F7 f.2.2.2.2 0 ()) = .ret a0.2 := Zx hx0 (Q6 h3 (rfl)) hI0
   exact pz [] (show Y6 f name = _ from Iq hr4) (fun z => .a [.i z.1, .i z.2.1, .s z.2.2])
  refine Qh ?_
  refine qu Qb [(5, .i ((k0 + 1 : Nat) : Int))] [5] [] [] (pe 1 (Jn (Qp k0 (by omega))) p0) ?_
  exact Exists.intro _ (And.intro (Qd (by kernel_rfl)) (Qx hx0 (Qm h3 (rfl)) hI0))
 ·
  refine Qe (sn Qb [1, 2, 4, 5, 10] [2, 4] (pl 3 f.2.2.2.2 (pe 4 (Qo (decide_eq_false (p := ((k0 : Nat) : Int) < (f.2.2.2.2.length : Int)) (by omega))) p0)) ?_)
  refine ckF ?_
  refine Q5 ?_
  exact Exists.intro _ (And.intro (Qd (by kernel_rfl)) (Xn hk0 (rfl) hI0))
 refine sn Qb [4] [4] (p0) ?_
 refine Qg ?_
 exact pz [] (show Y6 f name = _ from Wc hD0 (rfl)) (fun z => .a [.i z.1, .i z.2.1, .s z.2.2])
def D5 (name : ByteArray) (_ : Nat) (a0 : Qr) (_ : Unit) : Rd ((List Int)) (Unit) (Unit) := (bif (a0.1.toList == name.toList) then (.ret a0.2) else (.next ()))
def D6 (_ : Nat) (_ : Unit) : Unit := ()
def Vo (a_ : (List Qr)) (name : ByteArray) : (List Int) := (Out.on (Xp (D5 name) D6 a_ 0 ()) (fun _ => []))
theorem Fg (a_ : (List Qr)) (name : ByteArray) : ACalls Tryz.prog 59 [.h a_, .s name] (.o 0 (Vo a_ name)) := by
 refine en Qb Tryz.func59 fun w0 F0 hG => ?_
 refine sn Qb [0, 1, 4] [] (p0) ?_
 refine Qe (tn Qb [0, 1, 4, 5] [] (p0) ?_)
 refine mz [(4, .e 0), (5, .i 0)] [] [] [] ?_
 refine wT 0 0 .sh a_ (fun hw1 hl2 => ?_)
 refine L3 (D5 name) D6 a_ () (fun k0 _ => [(5, .i ((k0 : Nat) : Int))]) [5] (fun _ => []) [0, 1, 5] (Qd (by kernel_rfl)) (fun k0 s0 hk0 hI0 => ?_) (fun k0 s0 hk0 hI0 => ?_) (fun y0 hD0 => ?_)
 ·
  obtain ⟨a0, hx0⟩ := Xm (l := a_) (i := k0) hk0
  refine Qe (sn Qb [0, 1, 4, 5, 9] [] (pl 2 a_ (pe 3 (Qo (decide_eq_true (p := ((k0 : Nat) : Int) < (a_.length : Int)) (by omega))) p0)) ?_)
  refine ckT ?_
  refine Qh ?_
  refine Qe (Qs ?_)
  refine tn Qb [0, 1, 4, 5, 18] [] (pn 2 hx0 p0) ?_
  refine ck (a0.1.toList == name.toList) (fun h3 => ?_) (fun h3 => ?_)
  ·
   have hl4 : List.length a0.2 ≤ 1073741824 := Ao (BT (BS hx0 (hw1)))
   refine tu Qb [(4, .o 1600 a0.2)] [4] [] [] (pn 3 hx0 (po 6 (.flat) (px (Ds (n := (([] : List (List PV)).length + ((eL a0.2) : List (List PV)).length)) (Gi (rfl) (Y5 a0.2) (by first | omega | (simp only [List.length_cons, List.length_nil]; omega) | (simp; omega) | simp))) (px (A7 (Af a0.2)) p0)))) ?_
   refine Qg ?_
   have hr5 : (Xp (D5 name) D6 a_ 0 ()) = .ret a0.2 := Zx hx0 (Q6 h3 (rfl)) hI0
   exact po0 [] (Iq hr5)
  refine Qh ?_
  refine qu Qb [(5, .i ((k0 + 1 : Nat) : Int))] [5] [] [] (pe 1 (Jn (Qp k0 (by omega))) p0) ?_
  exact Exists.intro _ (And.intro (Qd (by kernel_rfl)) (Qx hx0 (Qm h3 (rfl)) hI0))
 ·
  refine Qe (sn Qb [0, 1, 4, 5, 9] [] (pl 2 a_ (pe 3 (Qo (decide_eq_false (p := ((k0 : Nat) : Int) < (a_.length : Int)) (by omega))) p0)) ?_)
  refine ckF ?_
  refine Q5 ?_
  exact Exists.intro _ (And.intro (Qd (by kernel_rfl)) (Xn hk0 (rfl) hI0))
 refine sn Qb [4] [] (p0) ?_
 refine Qg ?_
 exact po0 [] (Wc hD0 (rfl))
def Wi (id : Int) (_ : Nat) (a0 : Int) (_ : Unit) : Rd (Bool) (Unit) (Unit) := (bif (a0 == id) then (.ret true) else (.next ()))
def H4 (_ : Nat) (_ : Unit) : Unit := ()
def U1 (ids : (List Int)) (id : Int) : Bool := (Out.on (Xp (Wi id) H4 ids 0 ()) (fun _ => false))
theorem Is (ids : (List Int)) (id : Int) : ACalls Tryz.prog 195 [.h ids, .i id] (.b (U1 ids id)) := by
 refine en Qb Tryz.func195 fun w0 F0 hG => ?_
 refine sn Qb [0, 1, 4] [] (p0) ?_
 refine Qe (tn Qb [0, 1, 4, 5] [] (p0) ?_)
 refine mz [(4, .b false), (5, .i 0)] [] [] [] ?_
 refine wT 0 0 .sh ids (fun hw1 hl2 => ?_)
 refine L3 (Wi id) H4 ids () (fun k0 _ => [(5, .i ((k0 : Nat) : Int))]) [5] (fun _ => []) [0, 1, 5] (Qd (by kernel_rfl)) (fun k0 s0 hk0 hI0 => ?_) (fun k0 s0 hk0 hI0 => ?_) (fun y0 hD0 => ?_)
 ·
  obtain ⟨a0, hx0⟩ := Xm (l := ids) (i := k0) hk0
  refine Qe (sn Qb [0, 1, 4, 5, 9] [] (pl 2 ids (pe 3 (Qo (decide_eq_true (p := ((k0 : Nat) : Int) < (ids.length : Int)) (by omega))) p0)) ?_)
  refine ckT ?_
  refine Qh ?_
  refine Qe (Qs ?_)
  refine tn Qb [0, 1, 4, 5, 17] [] (pn 2 hx0 p0) ?_
  refine ck (a0 == id) (fun h3 => ?_) (fun h3 => ?_)
  ·
   refine tu Qb [(4, .b true)] [4] [] [] (p0) ?_
   refine Qg ?_
   have hr4 : (Xp (Wi id) H4 ids 0 ()) = .ret true := Zx hx0 (Q6 h3 (rfl)) hI0
   exact pb [] (Iq hr4)
  have h3d := Yg h3
  refine Qh ?_
  refine qu Qb [(5, .i ((k0 + 1 : Nat) : Int))] [5] [] [] (pe 1 (Jn (Qp k0 (by omega))) p0) ?_
  exact Exists.intro _ (And.intro (Qd (by kernel_rfl)) (Qx hx0 (Qm h3 (rfl)) hI0))
 ·
  refine Qe (sn Qb [0, 1, 4, 5, 9] [] (pl 2 ids (pe 3 (Qo (decide_eq_false (p := ((k0 : Nat) : Int) < (ids.length : Int)) (by omega))) p0)) ?_)
  refine ckF ?_
  refine Q5 ?_
  exact Exists.intro _ (And.intro (Qd (by kernel_rfl)) (Xn hk0 (rfl) hI0))
 refine sn Qb [4] [] (p0) ?_
 refine Qg ?_
 exact pb [] (Wc hD0 (rfl))
def J7 (n_ : Nat) (q : (List X4)) (at_ : Int) (f : Q9) (a_ : (List Qr)) : Bool := match n_ with
 | 0 => default
 | n_ + 1 => (bif ((nth q (Int.toNat at_)).1 == (1 : Int)) then true else (bif ((nth q (Int.toNat at_)).1 == (2 : Int)) then ((Y6 f ((nth q (Int.toNat at_)).2.2.2.1)).1 != (0 : Int)) else (bif ((nth q (Int.toNat at_)).1 == (3 : Int)) then (((Y6 f ((nth q (Int.toNat at_)).2.2.2.1)).1 == (nth q (Int.toNat at_)).2.2.2.2.1) && (((Y6 f ((nth q (Int.toNat at_)).2.2.2.1)).2.1 == (nth q (Int.toNat at_)).2.2.2.2.2.1) && ((((Y6 f ((nth q (Int.toNat at_)).2.2.2.1)).2.2).toList == ((nth q (Int.toNat at_)).2.2.2.2.2.2).toList) && true))) else (bif ((nth q (Int.toNat at_)).1 == (4 : Int)) then (((Y6 f ((nth q (Int.toNat at_)).2.2.2.1)).1 == (1 : Int)) && decide ((Y6 f ((nth q (Int.toNat at_)).2.2.2.1)).2.1 < (nth q (Int.toNat at_)).2.2.2.2.2.1)) else (bif ((nth q (Int.toNat at_)).1 == (5 : Int)) then (!(J7 n_ q ((nth q (Int.toNat at_)).2.1) f a_)) else (bif ((nth q (Int.toNat at_)).1 == (6 : Int)) then ((J7 n_ q ((nth q (Int.toNat at_)).2.1) f a_) && (J7 n_ q ((nth q (Int.toNat at_)).2.2.1) f a_)) else (bif ((nth q (Int.toNat at_)).1 == (7 : Int)) then ((J7 n_ q ((nth q (Int.toNat at_)).2.1) f a_) || (J7 n_ q ((nth q (Int.toNat at_)).2.2.1) f a_)) else (bif ((nth q (Int.toNat at_)).1 == (8 : Int)) then (U1 (Vo a_ ((nth q (Int.toNat at_)).2.2.2.1)) f.1) else ((f.2.2.2.1 != (0 : Int)) && (U1 (Vo a_ ((nth q (Int.toNat at_)).2.2.2.1)) f.2.2.2.1))))))))))
theorem JC : ∀ (n_ : Nat) (q : (List X4)) (at_ : Int) (f : Q9) (a_ : (List Qr)) (hv : Q4 q = true) (ha : 0 ≤ at_) (hb : at_ < (q.length : Int)) (hn : at_ < ((n_ : Nat) : Int)), ACalls Tryz.prog 178 [.h q, .i at_, .a [.i f.1, .i f.2.1, .b f.2.2.1, .i f.2.2.2.1, .h f.2.2.2.2], .h a_] (.b (J7 n_ q at_ f a_)) := by
 intro n_
 induction n_ with
 | zero => intro q at_ f a_ hv ha hb hn; exact (by omega : False).elim
 | succ n_ ih =>
  intro q at_ f a_ hv ha hb hn
  refine en Qb Tryz.func178 fun w0 F0 hG => ?_
  refine sn Qb [0, 1, 3, 6, 8] [6] (p0) ?_
  refine wT 0 0 .sh q (fun hw2 hl3 => ?_)
  have hx1 := ng q (Int.toNat at_)
  refine tn Qb [0, 3, 6, 8, 9] [6, 9] (pg 2 at_ hx1 p0) ?_
  refine tu Qb [(6, .p 6 0), (8, .b false), (9, .p 9 0), (10, .p 10 0)] [1, 2] [(6, [.i f.1, .i f.2.1, .b f.2.2.1, .i f.2.2.2.1, .h f.2.2.2.2]), (9, [.i ((nth q (Int.toNat at_)).1), .i ((nth q (Int.toNat at_)).2.1), .i ((nth q (Int.toNat at_)).2.2.1), .s ((nth q (Int.toNat at_)).2.2.2.1), .i ((nth q (Int.toNat at_)).2.2.2.2.1), .i ((nth q (Int.toNat at_)).2.2.2.2.2.1), .s ((nth q (Int.toNat at_)).2.2.2.2.2.2)]), (10, [.i ((Y6 f ((nth q (Int.toNat at_)).2.2.2.1)).1), .i ((Y6 f ((nth q (Int.toNat at_)).2.2.2.1)).2.1), .s ((Y6 f ((nth q (Int.toNat at_)).2.2.2.1)).2.2)])] [] (pc 3 (Ow f ((nth q (Int.toNat at_)).2.2.2.1)) p0) ?_
  refine Qe (sn Qb [0, 3, 6, 8, 9, 10, 20] [6, 9, 10] (p0) ?_)
  refine Qs ?_
  refine tn Qb [0, 3, 6, 8, 9, 10, 20, 21] [6, 9, 10] (p0) ?_
  refine ck ((nth q (Int.toNat at_)).1 == (1 : Int)) (fun h4 => ?_) (fun h4 => ?_)
  ·
   refine tu Qb [(8, .b true)] [0, 8, 10] [] [10] (p0) ?_
   refine Qg ?_
   exact pb [] (Q6 h4 (rfl))
  have h4d := Yg h4
  refine tu Qb [(20, .i ((nth q (Int.toNat at_)).1)), (23, .b ((nth q (Int.toNat at_)).1 == (2 : Int)))] [] [] [] (p0) ?_
  refine ck ((nth q (Int.toNat at_)).1 == (2 : Int)) (fun h5 => ?_) (fun h5 => ?_)
  ·
   refine sn Qb [3, 6, 8, 9] [6, 9] (p0) ?_
   refine Qg ?_
   exact pb [] (Qm h4 (Q6 h5 (rfl)))
  have h5d := Yg h5
  refine sn Qb [0, 3, 6, 8, 9, 10, 20, 28] [6, 9, 10] (p0) ?_
  refine ck ((nth q (Int.toNat at_)).1 == (3 : Int)) (fun h6 => ?_) (fun h6 => ?_)
  ·
   refine tn Qb [3, 6, 8, 9] [6, 9] (p0) ?_
   refine Qg ?_
   exact pb [] (Qm h4 (Qm h5 (Q6 h6 (rfl))))
  have h6d := Yg h6
  refine tn Qb [0, 3, 6, 8, 9, 10, 20, 34] [6, 9, 10] (p0) ?_
  refine ck ((nth q (Int.toNat at_)).1 == (4 : Int)) (fun h7 => ?_) (fun h7 => ?_)
  ·
   refine Qe (mz [(34, .b ((nth q (Int.toNat at_)).1 == (4 : Int)))] [23] [] [] ?_)
   refine jn [(8, .b (((Y6 f ((nth q (Int.toNat at_)).2.2.2.1)).1 == (1 : Int)) && decide ((Y6 f ((nth q (Int.toNat at_)).2.2.2.1)).2.1 < (nth q (Int.toNat at_)).2.2.2.2.2.1)))] [0, 8, 10, 20, 34] [] [10] ((Y6 f ((nth q (Int.toNat at_)).2.2.2.1)).1 == (1 : Int)) (fun h8 => ?_) (fun h8 => ?_) ?_
   ·
    refine rn Qb [3, 6, 8, 9] [6, 9] (pt 2 h8 p0) ?_
    exact ⟨rfl, Qd (by rw [h8]; first | done | kernel_rfl)⟩
   ·
    refine rn Qb [3, 6, 8, 9] [6, 9] (pf 2 h8 p0) ?_
    exact ⟨rfl, Qd (by rw [h8]; first | done | kernel_rfl)⟩
   refine Qg ?_
   exact pb [] (Qm h4 (Qm h5 (Qm h6 (Q6 h7 (rfl)))))
  have h7d := Yg h7
  refine tu Qb [(47, .b ((nth q (Int.toNat at_)).1 == (5 : Int)))] [10, 23] [] [10] (p0) ?_
  refine ck ((nth q (Int.toNat at_)).1 == (5 : Int)) (fun h9 => ?_) (fun h9 => ?_)
  ·
   have h9d := eq_of_beq h9
   refine sn Qb [3, 6, 8, 9] [6, 9] (pc 5 (ih q ((nth q (Int.toNat at_)).2.1) f a_ hv (by have hz := RD hv ha hb h9; omega) (by have hz := RD hv ha hb h9; omega) (by have hz := RD hv ha hb h9; omega)) p0) ?_
   refine Qg ?_
   exact pb [] (Qm h4 (Qm h5 (Qm h6 (Qm h7 (Q6 h9 (rfl))))))
  have h9d := Yg h9
  refine sn Qb [0, 3, 6, 8, 9, 20, 56] [6, 9] (p0) ?_
  refine ck ((nth q (Int.toNat at_)).1 == (6 : Int)) (fun h10 => ?_) (fun h10 => ?_)
  ·
   have h10d := eq_of_beq h10
   refine Qe (mz [(56, .b ((nth q (Int.toNat at_)).1 == (6 : Int)))] [47] [] [] ?_)
   refine jn [(8, .b ((J7 n_ q ((nth q (Int.toNat at_)).2.1) f a_) && (J7 n_ q ((nth q (Int.toNat at_)).2.2.1) f a_)))] [0, 8, 20, 56] [] [] (J7 n_ q ((nth q (Int.toNat at_)).2.1) f a_) (fun h11 => ?_) (fun h11 => ?_) ?_
   ·
    refine rn Qb [3, 6, 8, 9] [6, 9] (pc 5 (cb h11 (ih q ((nth q (Int.toNat at_)).2.1) f a_ hv (by have hz := BY hv ha hb h10; omega) (by have hz := BY hv ha hb h10; omega) (by have hz := BY hv ha hb h10; omega))) (pc 12 (ih q ((nth q (Int.toNat at_)).2.2.1) f a_ hv (by have hz := RE hv ha hb h10; omega) (by have hz := RE hv ha hb h10; omega) (by have hz := RE hv ha hb h10; omega)) p0)) ?_
    exact ⟨rfl, Qd (by rw [h11]; first | done | kernel_rfl)⟩
   ·
    refine rn Qb [3, 6, 8, 9] [6, 9] (pc 5 (cb h11 (ih q ((nth q (Int.toNat at_)).2.1) f a_ hv (by have hz := BY hv ha hb h10; omega) (by have hz := BY hv ha hb h10; omega) (by have hz := BY hv ha hb h10; omega))) p0) ?_
    exact ⟨rfl, Qd (by rw [h11]; first | done | kernel_rfl)⟩
   refine Qg ?_
   exact pb [] (Qm h4 (Qm h5 (Qm h6 (Qm h7 (Qm h9 (Q6 h10 (rfl)))))))
  have h10d := Yg h10
  refine tn Qb [0, 3, 6, 8, 9, 20, 72] [6, 9] (p0) ?_
  refine ck ((nth q (Int.toNat at_)).1 == (7 : Int)) (fun h12 => ?_) (fun h12 => ?_)
  ·
   have h12d := eq_of_beq h12
   refine Qe (mz [(72, .b ((nth q (Int.toNat at_)).1 == (7 : Int)))] [47] [] [] ?_)
   refine jn [(8, .b ((J7 n_ q ((nth q (Int.toNat at_)).2.1) f a_) || (J7 n_ q ((nth q (Int.toNat at_)).2.2.1) f a_)))] [0, 8, 20, 72] [] [] (J7 n_ q ((nth q (Int.toNat at_)).2.1) f a_) (fun h13 => ?_) (fun h13 => ?_) ?_
   ·
    refine rn Qb [3, 6, 8, 9] [6, 9] (pc 5 (cb h13 (ih q ((nth q (Int.toNat at_)).2.1) f a_ hv (by have hz := DY hv ha hb h12; omega) (by have hz := DY hv ha hb h12; omega) (by have hz := DY hv ha hb h12; omega))) p0) ?_
    exact ⟨rfl, Qd (by rw [h13]; first | done | kernel_rfl)⟩
   ·
    refine rn Qb [3, 6, 8, 9] [6, 9] (pc 5 (cb h13 (ih q ((nth q (Int.toNat at_)).2.1) f a_ hv (by have hz := DY hv ha hb h12; omega) (by have hz := DY hv ha hb h12; omega) (by have hz := DY hv ha hb h12; omega))) (pc 12 (ih q ((nth q (Int.toNat at_)).2.2.1) f a_ hv (by have hz := TP hv ha hb h12; omega) (by have hz := TP hv ha hb h12; omega) (by have hz := TP hv ha hb h12; omega)) p0)) ?_
    exact ⟨rfl, Qd (by rw [h13]; first | done | kernel_rfl)⟩
   refine Qg ?_
   exact pb [] (Qm h4 (Qm h5 (Qm h6 (Qm h7 (Qm h9 (Qm h10 (Q6 h12 (rfl))))))))
  refine tu Qb [(88, .b ((nth q (Int.toNat at_)).1 == (8 : Int)))] [0, 20, 47] [] [] (p0) ?_
  refine ck ((nth q (Int.toNat at_)).1 == (8 : Int)) (fun h14 => ?_) (fun h14 => ?_)
  ·
   refine sN Qb Yo [3, 6, 8, 9] [6, 9] (pc 3 (Fg a_ ((nth q (Int.toNat at_)).2.2.2.1)) (pc 6 (Is (Vo a_ ((nth q (Int.toNat at_)).2.2.2.1)) f.1) p0)) ?_
   refine Qg ?_
   exact pb [] (Qm h4 (Qm h5 (Qm h6 (Qm h7 (Qm h9 (Qm h10 (Qm h12 (Q6 h14 (rfl)))))))))
  refine Qh ?_
  refine Qe (jn [(8, .b ((f.2.2.2.1 != (0 : Int)) && (U1 (Vo a_ ((nth q (Int.toNat at_)).2.2.2.1)) f.2.2.2.1)))] [3, 6, 8, 9, 88] [] [6, 9] (f.2.2.2.1 != (0 : Int)) (fun h15 => ?_) (fun h15 => ?_) ?_)
  ·
   refine rN Qb Yo [8] [] (pt 2 h15 (pc 7 (Fg a_ ((nth q (Int.toNat at_)).2.2.2.1)) (pc 10 (Is (Vo a_ ((nth q (Int.toNat at_)).2.2.2.1)) f.2.2.2.1) p0))) ?_
   exact ⟨rfl, Qd (by rw [h15]; first | done | kernel_rfl)⟩
  ·
   refine rN Qb Yo [8] [] (pf 2 h15 p0) ?_
   exact ⟨rfl, Qd (by rw [h15]; first | done | kernel_rfl)⟩
  refine Qg ?_
  exact pb [] (Qm h4 (Qm h5 (Qm h6 (Qm h7 (Qm h9 (Qm h10 (Qm h12 (Qm h14 (rfl)))))))))
def C6 (q : (List X4)) (f : Q9) (a_ : (List Qr)) : Bool := ((Ym q) && (J7 (List.length q) q ((q.length : Int) - 1) f a_))
theorem JD (q : (List X4)) (f : Q9) (a_ : (List Qr)) : ACalls Tryz.prog 165 [.h q, .a [.i f.1, .i f.2.1, .b f.2.2.1, .i f.2.2.2.1, .h f.2.2.2.2], .h a_] (.b (C6 q f a_)) := by
 refine en Qb Tryz.func165 fun w0 F0 hG => ?_
 refine sn Qb [0, 2, 4, 6] [4] (p0) ?_
 refine Qe (mz [(4, .p 4 0), (6, .b false)] [1] [(4, [.i f.1, .i f.2.1, .b f.2.2.1, .i f.2.2.2.1, .h f.2.2.2.2])] [] ?_)
 refine jn [(6, .b ((Ym q) && (J7 (List.length q) q ((q.length : Int) - 1) f a_)))] [0, 2, 4, 6] [] [4] (Ym q) (fun h1 => ?_) (fun h1 => ?_) ?_
 ·
  refine wT 0 0 .sh q (fun hw2 hl3 => ?_)
  refine rn Qb [6] [] (pc 1 (cb h1 (Vx q)) (pl 5 q (pe 6 (Jn (IntWalk.i64_in ((q.length : Int) - 1) (by omega))) (pc 9 (JC (List.length q) q ((q.length : Int) - 1) f a_ (Na h1) (by have := Tg (Na h1); omega) (by omega) (by omega)) p0)))) ?_
  exact ⟨rfl, Qd (by rw [h1]; first | done | kernel_rfl)⟩
 ·
  refine rn Qb [6] [] (pc 1 (cb h1 (Vx q)) p0) ?_
  exact ⟨rfl, Qd (by rw [h1]; first | done | kernel_rfl)⟩
 refine Qg ?_
 exact pb [] (show C6 q f a_ = ((Ym q) && (J7 (List.length q) q ((q.length : Int) - 1) f a_)) from rfl)
def Ha (q : (List X4)) (a_ : (List Qr)) (_ : Nat) (a0 : Q9) (s0 : (List Int)) : Rd ((List Int)) ((List Int)) ((List Int)) := (bif (C6 q a0 a_) then (.next (s0 ++ [a0.1])) else (.next s0))
def Cc (_ : Nat) (s0 : (List Int)) : (List Int) := s0
def Zi (s_ : Ql) (q : (List X4)) (a_ : (List Qr)) : (List Int) := (Out.on (Xp (Ha q a_) Cc s_.2.1 0 []) (fun y0 => y0))
theorem P5 (s_ : Ql) (q : (List X4)) (a_ : (List Qr)) : ACalls Tryz.prog 142 [.a [.h s_.1, .h s_.2.1, .i s_.2.2], .h q, .h a_] (.o 0 (Zi s_ q a_)) := by
 refine en Qb Tryz.func142 fun w0 F0 hG => ?_
 refine sn Qb [1, 2, 3, 6] [3] (p0) ?_
 refine tn Qb [1, 2, 3, 6, 7] [3] (p0) ?_
 refine Qe (tu Qb [(3, .p 3 0), (6, .e 0), (7, .one (.slc (.own true 576) 1 [])), (8, .i 0)] [0] [(3, [.h s_.1, .h s_.2.1, .i s_.2.2])] [] (p0) ?_)
 refine wB 3 1 .sh s_.2.1 (fun hw1 hl2 => ?_)
 refine Rw (Ha q a_) Cc s_.2.1 [] (fun k0 s0 => [(7, .o 147204 s0), (8, .i ((k0 : Nat) : Int))]) [7, 8] (fun _ _ => []) [] (fun y0 => [(7, .o 147354 y0)]) [1, 2, 3, 7, 8] (fun _ => []) [3] (fun k0 s0 => List.length s0 ≤ k0) (X2 [(576, 147204)] (by kernel_rfl)) (by simp) (fun k0 s0 hk0 hI0 => ?_) (fun k0 s0 hk0 hI0 => ?_) (fun y0 hD0 => ?_)
 ·
  have hA0_0 := hI0.2
  obtain ⟨a0, hx0⟩ := Xm (l := s_.2.1) (i := k0) hk0
  refine Qe (su Qb [(14, .b true)] [] [] [] (pl 3 s_.2.1 (pe 4 (Qo (decide_eq_true (p := ((k0 : Nat) : Int) < (s_.2.1.length : Int)) (by omega))) p0)) ?_)
  refine ckT ?_
  refine Qh ?_
  refine Qe (Qs ?_)
  refine sn Qb [1, 2, 3, 6, 7, 8, 24] [3] (pn 4 hx0 (pc 7 (JD q a0 a_) p0)) ?_
  refine ck (C6 q a0 a_) (fun h3 => ?_) (fun h3 => ?_)
  ·
   refine wT 7 0 (.own true 147204) s0 (fun hw4 hl5 => ?_)
   refine qu Qb [(7, .one (.slc (.own true 2112) 1 ((eL s0) ++ [[.i a0.1]])))] [7, 14] [] [] (pn 4 hx0 (pa s0 [a0.1] p0)) ?_
   refine eqn [(7, .o 2112 (s0 ++ [a0.1]))] [7] [] [] (by rw [show ((eL s0) ++ [[.i a0.1]]) = (eL (s0 ++ [a0.1])) from Kj (rfl) (rfl)]; first | done | kernel_rfl) ?_
   refine rn Qb [1, 2, 3, 6, 7, 8] [3] (pe 1 (Jn (Qp k0 (by omega))) p0) ?_
   exact Exists.intro (s0 ++ [a0.1]) (And.intro (X2 [(2112, 147204)] (by kernel_rfl)) ⟨Qx hx0 (Q6 h3 (rfl)) hI0.1, by first | omega | (simp; omega) | simp⟩)
  refine Qh ?_
  refine qn Qb [1, 2, 3, 6, 7, 8] [3] (pe 1 (Jn (Qp k0 (by omega))) p0) ?_
  exact Exists.intro s0 (And.intro (Qd (by kernel_rfl)) ⟨Qx hx0 (Qm h3 (rfl)) hI0.1, by first | omega | (simp; omega) | simp⟩)
 ·
  have hA0_0 := hI0.2
  refine Qe (su Qb [(14, .b false)] [] [] [] (pl 3 s_.2.1 (pe 4 (Qo (decide_eq_false (p := ((k0 : Nat) : Int) < (s_.2.1.length : Int)) (by omega))) p0)) ?_)
  refine ckF ?_
  refine Q5 ?_
  exact Exists.intro _ (And.intro (X2 [(147204, 147354)] (by kernel_rfl)) (Xn hk0 (rfl) hI0.1))
 refine sn Qb [6] [] (p0) ?_
 refine Qg ?_
 exact po0 [] (Wc hD0 (rfl))
end Go.Proofs.YtkbfhiamdcoieaaGreatDoor
namespace Go.Proofs.YtkbfhiamdcoieaaGreatDoor
open Go.RowKit
theorem Qbg (l : List Int) (x : Int) : Vn l x = U1 l x := by
  unfold Vn V0 Hu U1
  have key : ∀ (l : List Int) (k : Nat), decide (((Xp (Jz x) Vz l k ()).on fun _ => -1) ≥ 0) = ((Xp (Wi x) H4 l k ()).on fun _ => false) := by
    intro l
    induction l with
    | nil => intro k; rfl
    | cons a l ih =>
      intro k
      by_cases h : x = a
      · subst h; simp [Xp, Jz, Wi, Out.on]
      have e1 : (x == a) = false := beq_eq_false_iff_ne.2 h
      have e2 : (a == x) = false := beq_eq_false_iff_ne.2 (Ne.symm h)
      simp only [Xp, Jz, Wi, e1, e2, cond_false]
      exact ih (k + 1)
  exact key l 0
theorem TY (r : List Qr) (s : ByteArray) : Yb r s = Vo r s := rfl
theorem IS (f : Q9) (s : ByteArray) : Yh f s = Y6 f s := rfl
theorem Qbh {n : X4} {k : Int} (h : Zf n k = true) : n.1 = 1 ∨ n.1 = 2 ∨ n.1 = 3 ∨ n.1 = 4 ∨ n.1 = 5 ∨ n.1 = 6 ∨ n.1 = 7 ∨ n.1 = 8 ∨ n.1 = 9 := by
  refine Classical.byContradiction fun hn => ?_
  simp only [not_or] at hn
  obtain ⟨h1, h2, h3, h4, h5, h6, h7, h8, h9⟩ := hn
  unfold Zf at h
  simp only [beq_eq_false_iff_ne.2 h1, beq_eq_false_iff_ne.2 h2, beq_eq_false_iff_ne.2 h3, beq_eq_false_iff_ne.2 h4, beq_eq_false_iff_ne.2 h5, beq_eq_false_iff_ne.2 h6, beq_eq_false_iff_ne.2 h7, beq_eq_false_iff_ne.2 h8, beq_eq_false_iff_ne.2 h9, cond_false] at h
  cases h
theorem CO {q : List X4} (hv : Q4 q = true) (f : Q9) (r : List Qr) : ∀ (n : Nat) (k : Int), 0 ≤ k → k < (q.length : Int) → Yf n q k f r = J7 n q k f r
  | 0, _, _, _ => rfl
  | n + 1, k, h0, h1 => by
    have hn := HP hv (K9 (l := q) (i := Int.toNat k) (by omega))
    rw [Int.toNat_of_nonneg h0] at hn
    obtain ⟨hl, hr⟩ := D0 hv h0 h1
    unfold Yf J7
    have ih := CO hv f r n
    unfold V4
    simp only [IS, TY, Qbg]
    generalize nth q (Int.toNat k) = m at hn hl hr ⊢
    rcases Qbh hn with h | h | h | h | h | h | h | h | h
    · simp [h]
    · simp [h]
    · simp [h]
    · rw [h]
      cases hz : ((Y6 f m.2.2.2.1).1 == (1 : Int)) with
      | true => simp [bne, hz]
      | false => simp [bne, hz]
    · simp [h, ih _ (hl (by simp [h])).1 (by have := (hl (by simp [h])).2; omega)]
    · simp [h, ih _ (hl (by simp [h])).1 (by have := (hl (by simp [h])).2; omega), ih _ (hr (by simp [h])).1 (by have := (hr (by simp [h])).2; omega)]
    · simp [h, ih _ (hl (by simp [h])).1 (by have := (hl (by simp [h])).2; omega), ih _ (hr (by simp [h])).1 (by have := (hr (by simp [h])).2; omega)]
    · simp [h]
    simp [h]
theorem EC (q : List X4) (f : Q9) (r : List Qr) : V6 q f r = C6 q f r := by
  unfold V6 C6
  rw [← OA]
  cases hv : Q4 q with
  | false => rfl
  | true => rw [CO hv f r _ _ (by have := Tg hv; omega) (by omega)]
theorem VY (s : Ql) (q : List X4) (r : List Qr) : X7 s q r = Zi s q r := by
  unfold X7 Zi
  rw [B0 (f := W5 q r) (g := Ha q r) (e := Cb) (e' := Cc) (fun i a s => by
    unfold W5 Ha
    rw [EC]) (fun _ _ => rfl)]
end Go.Proofs.YtkbfhiamdcoieaaGreatDoor
namespace Go.Proofs.YtkbfhiamdcoieaaGreatDoor
section
variable {φ : Type} (fs : List φ) (idOf : φ → Int)
def sel (p : φ → Bool) : List Int := (fs.filter p).map idOf
theorem Tv {p q : φ → Bool} : ∀ (l : List φ), (∀ f, f ∈ l → p f = true → q f = true) → (l.filter p).length ≤ (l.filter q).length ∧ ((l.filter q).length ≤ (l.filter p).length → l.filter p = l.filter q)
  | [], _ => ⟨Nat.le_refl _, fun _ => rfl⟩
  | f :: l, h => by
    obtain ⟨h1, h2⟩ := Tv l fun g hg => h g (List.mem_cons_of_mem _ hg)
    have h0 := h f (List.mem_cons_self ..)
    cases hp : p f with
    | true =>
      have hq := h0 hp
      simp only [List.filter_cons, hp, hq, if_true, List.length_cons]
      exact ⟨by omega, fun hl => by rw [h2 (by omega)]⟩
    | false =>
      cases hq : q f with
      | true =>
        simp only [List.filter_cons, hp, hq, if_true, List.length_cons, Bool.false_eq_true, if_false]
        exact ⟨by omega, fun hl => absurd hl (by omega)⟩
      | false =>
        simp only [List.filter_cons, hp, hq, Bool.false_eq_true, if_false]
        exact ⟨h1, h2⟩
theorem IT (p : φ → Bool) : (sel fs idOf p).length ≤ fs.length := by
  unfold sel; rw [List.length_map]; exact List.length_filter_le _ _
variable {fs idOf}
theorem OJ {p q : φ → Bool} (h : ∀ f, f ∈ fs → p f = true → q f = true) (hn : sel fs idOf p ≠ sel fs idOf q) : (sel fs idOf p).length + 1 ≤ (sel fs idOf q).length := by
  obtain ⟨h1, h2⟩ := Tv fs h
  unfold sel at hn ⊢
  rw [List.length_map, List.length_map]
  refine Nat.lt_of_le_of_ne h1 fun e => hn ?_
  rw [h2 (by omega)]
theorem TZ {p q : φ → Bool} (h : ∀ f, f ∈ fs → p f = true → q f = true) {x : Int} (hx : x ∈ sel fs idOf p) : x ∈ sel fs idOf q := by
  unfold sel at hx ⊢
  obtain ⟨f, hf, rfl⟩ := List.mem_map.1 hx
  obtain ⟨h1, h2⟩ := List.mem_filter.1 hf
  exact List.mem_map.2 ⟨f, List.mem_filter.2 ⟨h1, h f h1 h2⟩, rfl⟩
end
abbrev CD := ByteArray × List Int
def IU (out : List CD) (k : Nat) (ids : List Int) : List CD := out.set k ((nth out k).1, ids)
theorem Sf {out : List CD} {k : Nat} (x : CD) (hk : k < out.length) (j : Nat) : nth (out.set k x) j = if j = k then x else nth out j := by
  unfold nth
  simp only [List.getD_eq_getElem?_getD, List.getElem?_set]
  by_cases h : k = j
  · subst h; simp [hk]
  simp [h, Ne.symm h]
theorem ED {out : List CD} {k : Nat} (ids : List Int) (hk : k < out.length) : (IU out k ids).map (·.1) = out.map (·.1) := by
  unfold IU
  rw [List.map_set]
  refine List.ext_getElem (by simp) fun i h1 h2 => ?_
  rw [List.getElem_set]
  split
  · rename_i h; subst h; simp [nth, List.getD, hk]
  rfl
def Tw (B : Nat) (act : Nat → Bool) : Nat → List CD → Nat
  | _, [] => 0
  | k, r :: l => (bif act k then B - r.2.length else 0) + Tw B act (k + 1) l
theorem IV (B : Nat) (act : Nat → Bool) : ∀ (l : List CD) (k : Nat), Tw B act k l ≤ l.length * B
  | [], k => by simp [Tw]
  | r :: l, k => by
    have := IV B act l (k + 1)
    simp only [Tw, List.length_cons, Nat.add_mul, Nat.one_mul]
    cases act k with
    | true => simp only [cond_true]; omega
    | false => simp only [cond_false]; omega
theorem CP (B : Nat) (act : Nat → Bool) (x : CD) : ∀ (l : List CD) (k i : Nat), i < l.length → act (k + i) = true → (nth l i).2.length + 1 ≤ x.2.length → x.2.length ≤ B → Tw B act k (l.set i x) + 1 ≤ Tw B act k l
  | [], k, i, hi, _, _, _ => by simp at hi
  | r :: l, k, 0, _, ha, h1, h2 => by
    have e : nth (r :: l) 0 = r := rfl
    rw [e] at h1
    rw [Nat.add_zero] at ha
    simp only [List.set, Tw, ha, cond_true]
    omega
  | r :: l, k, i + 1, hi, ha, h1, h2 => by
    have := CP B act x l (k + 1) i (by simpa using hi) (by rwa [show k + 1 + i = k + (i + 1) by omega]) h1 h2
    simp only [List.set, Tw]
    omega
section
variable {φ : Type} {fs : List φ} {idOf : φ → Int} (m : Nat → List CD → φ → Bool) (act : Nat → Bool)
def LeC (a b : List CD) : Prop := ∀ j, (∀ x, x ∈ (nth a j).2 → x ∈ (nth b j).2) ∧ (act j = false → (nth a j).2 = (nth b j).2)
variable (fs idOf)
def Qcm (out : List CD) : Prop := ∀ k, k < out.length → act k = true → ∃ p : φ → Bool, (nth out k).2 = sel fs idOf p ∧ ∀ f, f ∈ fs → p f = true → m k out f = true
def OK (nm : List ByteArray) : Prop := ∀ a b : List CD, a.map (·.1) = nm → b.map (·.1) = nm → LeC act a b → ∀ k, k < nm.length → act k = true → ∀ f, f ∈ fs → m k a f = true → m k b f = true
def VZ (s : List CD × Bool) (k : Nat) : List CD × Bool := bif act k then (if sel fs idOf (m k s.1) = (nth s.1 k).2 then s else (IU s.1 k (sel fs idOf (m k s.1)), true)) else s
def JE (ks : List Nat) (s : List CD × Bool) : List CD × Bool := ks.foldl (VZ fs idOf m act) s
variable {fs idOf m act} {nm : List ByteArray}
structure StateC (fs : List φ) (idOf : φ → Int) (m : Nat → List CD → φ → Bool) (act : Nat → Bool) (nm : List ByteArray) (o out : List CD) : Prop where
  names : out.map (·.1) = nm
  good : Qcm fs idOf m act out
  rest : ∀ j, act j = false → nth out j = nth o j
theorem OL (hm : OK fs m act nm) {o : List CD} {s : List CD × Bool} (h : StateC fs idOf m act nm o s.1) {k : Nat} (hk : k < nm.length) :
    StateC fs idOf m act nm o (VZ fs idOf m act s k).1 ∧ Tw fs.length act 0 (VZ fs idOf m act s k).1 ≤ Tw fs.length act 0 s.1 ∧ ((VZ fs idOf m act s k).2 = true → s.2 = true ∨ Tw fs.length act 0 (VZ fs idOf m act s k).1 + 1 ≤ Tw fs.length act 0 s.1) := by
  unfold VZ
  cases ha : act k with
  | false => exact ⟨h, Nat.le_refl _, .inl⟩
  | true =>
    simp only [cond_true]
    split
    · exact ⟨h, Nat.le_refl _, .inl⟩
    rename_i hne
    have hlen : nm.length = s.1.length := by rw [← h.names, List.length_map]
    have hk' : k < s.1.length := by omega
    obtain ⟨p, hp1, hp2⟩ := h.good k hk' ha
    rw [hp1] at hne
    have hgrow := OJ (idOf := idOf) hp2 (Ne.symm hne)
    have hnames : (IU s.1 k (sel fs idOf (m k s.1))).map (·.1) = nm := by rw [ED _ hk', h.names]
    have hle : LeC act s.1 (IU s.1 k (sel fs idOf (m k s.1))) := fun j => by
      unfold IU
      rw [Sf _ hk']
      by_cases hj : j = k
      · subst hj
        rw [if_pos rfl]
        exact ⟨fun x hx => TZ hp2 (hp1 ▸ hx), fun hf => absurd ha (by simp [hf])⟩
      rw [if_neg hj]
      exact ⟨fun _ hx => hx, fun _ => rfl⟩
    have hmono := hm _ _ h.names hnames hle
    have hr : Tw fs.length act 0 (IU s.1 k (sel fs idOf (m k s.1))) + 1 ≤ Tw fs.length act 0 s.1 :=
      CP _ _ _ _ 0 k hk' (by rw [Nat.zero_add]; exact ha) (by rw [hp1]; exact hgrow) (IT _ _ _)
    refine ⟨⟨hnames, fun j hj hja => ?_, fun j hj => ?_⟩, Nat.le_of_succ_le hr, fun _ => .inr hr⟩
    · have hj' : j < s.1.length := by unfold IU at hj; rwa [List.length_set] at hj
      by_cases e : j = k
      · subst e
        refine ⟨m j s.1, ?_, fun f hf hmf => hmono j (by omega) hja f hf hmf⟩
        unfold IU; rw [Sf _ hk', if_pos rfl]
      obtain ⟨p', h1, h2⟩ := h.good j hj' hja
      refine ⟨p', ?_, fun f hf hpf => hmono j (by omega) hja f hf (h2 f hf hpf)⟩
      unfold IU; rw [Sf _ hk', if_neg e]; exact h1
    have e : j ≠ k := fun e => absurd ha (by simp [← e, hj])
    unfold IU; rw [Sf _ hk', if_neg e]; exact h.rest j hj
theorem CQ (hm : OK fs m act nm) {o : List CD} : ∀ (ks : List Nat) (s : List CD × Bool), (∀ k, k ∈ ks → k < nm.length) → StateC fs idOf m act nm o s.1 →
    StateC fs idOf m act nm o (JE fs idOf m act ks s).1 ∧ Tw fs.length act 0 (JE fs idOf m act ks s).1 ≤ Tw fs.length act 0 s.1 ∧ ((JE fs idOf m act ks s).2 = true → s.2 = true ∨ Tw fs.length act 0 (JE fs idOf m act ks s).1 + 1 ≤ Tw fs.length act 0 s.1)
  | [], s, _, h => ⟨h, Nat.le_refl _, .inl⟩
  | k :: ks, s, hks, h => by
    obtain ⟨h1, h2, h3⟩ := OL hm h (hks k (List.mem_cons_self ..))
    obtain ⟨g1, g2, g3⟩ := CQ hm ks _ (fun j hj => hks j (List.mem_cons_of_mem _ hj)) h1
    refine ⟨g1, Nat.le_trans g2 h2, fun hc => ?_⟩
    rcases g3 hc with hc | hc
    · rcases h3 hc with hc | hc
      · exact .inl hc
      exact .inr (Nat.le_trans (Nat.add_le_add_right g2 1) hc)
    exact .inr (Nat.le_trans hc h2)
theorem Qcs {R S T : Type} {F : S → Rd R S T} {out : S → List CD} {ch : S → Bool} {n : Nat} (hn : n = nm.length)
    (hF : ∀ s, ch s = true → ∃ s', F s = .next s' ∧ (out s', ch s') = JE fs idOf m act (List.range n) (out s, false))
    (hE : ∀ s, ch s = false → ∃ t, F s = .brk t)
    (hm : OK fs m act nm) {o : List CD} : ∀ (k : Nat) (s : S), StateC fs idOf m act nm o (out s) → Tw fs.length act 0 (out s) + (bif ch s then 2 else 1) ≤ k →
    ∃ s', StateC fs idOf m act nm o (out s') ∧ ch s' = false ∧ ∃ t, F s' = .brk t ∧ whl F k s = some (.brk t)
  | 0, s, _, hk => by cases hc : ch s <;> simp [hc] at hk
  | k + 1, s, h, hk => by
    cases hc : ch s with
    | false =>
      obtain ⟨t, ht⟩ := hE s hc
      exact ⟨s, h, hc, t, ht, by simp only [whl, ht]⟩
    | true =>
      rw [hc] at hk
      simp only [cond_true] at hk
      obtain ⟨s', h1, h2⟩ := hF s hc
      obtain ⟨g1, g2, g3⟩ := CQ hm (o := o) (List.range n) (out s, false) (fun j hj => by rw [← hn]; exact List.mem_range.1 hj) h
      rw [← h2] at g1 g2 g3
      simp only [whl, h1]
      refine Qcs hn hF hE hm k s' g1 ?_
      simp only [Bool.false_eq_true, false_or] at g3
      cases hc' : ch s' with
      | false => simp only [cond_false]; have : Tw fs.length act 0 (out s') ≤ Tw fs.length act 0 (out s) := g2; omega
      | true => simp only [cond_true]; have : Tw fs.length act 0 (out s') + 1 ≤ Tw fs.length act 0 (out s) := g3 hc'; omega
end
/-! ### a slice that is nil, handed on -/
open Go.RowKit in
def ArgLe (a b : AV) : Prop := ∀ (J : Inj) (w : World) (v : Value), AR J w v a → AR J w v b
theorem ArgLe.rfl (a : AV) : ArgLe a a := fun _ _ _ h => h
theorem ArgLe.nil (n : Nat) : ArgLe (.one (.slc .sh 0 [])) (.one (.slc .sh n [])) := fun J w v h => by
  have h' : VV J.F w v (.slc 0 []) := h
  show VV J.F w v (.slc n [])
  generalize hp : PV.slc 0 ([] : List (List PV)) = p at h'
  cases h' with
  | int | bool | str | any => cases hp
  | emp oa m hc => exact .emp oa n hc
  | @slc b off cap m cs l hx hcells hr hle hcap =>
    cases hp
    exact .emp _ n hcap.1
theorem AA {P : Program} {f : Nat} {r : AV} {args args' : List AV} (h : All2 ArgLe args args') (c : ACalls P f args' r) : ACalls P f args r := ⟨c.1, fun w hg F vals hF hall => c.2 w hg F vals hF (by
  clear c
  induction h generalizing vals with
  | nil => exact hall
  | cons h1 h2 ih =>
    cases hall with
    | cons g1 g2 => exact .cons (h1 _ _ _ g1) (ih _ g2))⟩
/-! ### a flat row of ours, handed back -/
theorem WA {s : St} {t k n : Nat} {l : List (List PV)} (ht : get s.tm t = some (.one (.slc (.own false k) n l))) (hf : Bv l) : Weak s ⟨[(t, .one (.slc (.own true k) n l))], []⟩ := fun N w0 F0 J a w h =>
  ⟨J, { h with
    bo := fun k c hc => by simp [get] at hc
    bi := fun k k' c c' hc => by simp [get] at hc
    tm := fun t' v hv => by
      have h1 := h.tm t _ ht
      by_cases e : t' = t
      · subst e
        obtain rfl : AV.one (.slc (.own true k) n l) = v := by simpa [get] using hv
        exact KS h1 hf
      simp [get, Ne.symm e] at hv }⟩
theorem AB {P : Program} {N : Nat} {w0 : Base} {F0 : Nat → Prop} {Q : Exit → St → Prop} {s : St} {c : Code} (t : Nat) {k n : Nat} {l : List (List PV)} (ht : get s.tm t = some (.one (.slc (.own false k) n l))) (hf : Bv l) (h : AWP P N w0 F0 c Q ⟨[(t, .one (.slc (.own true k) n l))], []⟩) : AWP P N w0 F0 c Q s := Fs (WA ht hf) h
end Go.Proofs.YtkbfhiamdcoieaaGreatDoor
namespace Go.Proofs.YtkbfhiamdcoieaaGreatDoor
open Go.RowKit
/-! ### each node but the last is named once -/
def Be (n : X4) (c : Int) : Bool := ((n.2.1 == c) && (n.1 == 6 || n.1 == 7 || n.1 == 5)) || ((n.2.2.1 == c) && (n.1 == 6 || n.1 == 7))
theorem IW (c : Int) (k : Nat) (a : X4) (s : Int) (h0 : 0 ≤ s) (h1 : s ≤ 1000) : ∃ s', Jx c k a s = .next s' ∧ s + (bif Be a c then 1 else 0) ≤ s' ∧ s' ≤ s + 2 := by
  have w1 : IntKind.i64.wrap (s + 1) = s + 1 := IntWalk.i64_in _ (by omega)
  have w2 : IntKind.i64.wrap (s + 1 + 1) = s + 1 + 1 := IntWalk.i64_in _ (by omega)
  unfold Jx Be
  rw [w1, w2]
  cases (a.2.1 == c) <;> cases (a.2.2.1 == c) <;> cases (a.1 == 6) <;> cases (a.1 == 7) <;> cases (a.1 == 5) <;> exact ⟨_, rfl, by first | (simp; done) | (simp; omega) | omega, by omega⟩
theorem WB (c : Int) : ∀ (l : List X4) (k : Nat) (s : Int), 0 ≤ s → s + 2 * l.length ≤ 1000 → ∃ s', Xp (Jx c) Ws l k s = .brk s' ∧ s + (l.filter fun n => Be n c).length ≤ s'
  | [], k, s, _, _ => ⟨s, rfl, by simp⟩
  | a :: l, k, s, h0, h1 => by
    rw [List.length_cons] at h1
    obtain ⟨s1, e1, g1, g2⟩ := IW c k a s h0 (by omega)
    have hp : 0 ≤ s1 := by cases hb : Be a c <;> (rw [hb] at g1; simp at g1; omega)
    obtain ⟨s2, e2, g3⟩ := WB c l (k + 1) s1 hp (by omega)
    refine ⟨s2, by simp only [Xp, e1]; exact e2, ?_⟩
    rw [List.filter_cons]
    cases hb : Be a c with
    | true => rw [hb] at g1; simp only [cond_true] at g1; simp only [if_true, List.length_cons]; omega
    | false => rw [hb] at g1; simp only [cond_false] at g1; simp only [Bool.false_eq_true, if_false]; omega
theorem Qbi {α : Type} {p : α → Bool} {l : List α} {i j : Nat} {a b : α} (hij : i < j) (hi : l[i]? = some a) (hj : l[j]? = some b) (ha : p a = true) (hb : p b = true) : 2 ≤ (l.filter p).length := by
  have e : l = l.take j ++ l.drop j := (List.take_append_drop j l).symm
  rw [e, List.filter_append, List.length_append]
  have h1 : 1 ≤ ((l.take j).filter p).length := List.length_pos_of_mem (a := a) (List.mem_filter.2 ⟨List.mem_of_getElem? (i := i) (by rw [List.getElem?_take, if_pos hij]; exact hi), ha⟩)
  have h2 : 1 ≤ ((l.drop j).filter p).length := List.length_pos_of_mem (a := b) (List.mem_filter.2 ⟨List.mem_of_getElem? (i := 0) (by rw [List.getElem?_drop]; exact hj), hb⟩)
  omega
theorem Qaa {q : List X4} (h : Q4 q = true) {i : Nat} (hi : i + 1 < q.length) : Jo q (i : Int) = 1 := by
  obtain ⟨⟨t, ht⟩, _⟩ := GU h
  have := Od (fun k a t => by unfold Y0; generalize (_ || _ : Bool) = c; cases c <;> simp) ht i (nth q i) (K9 (by omega))
  unfold Y0 at this
  rw [Nat.zero_add] at this
  have hd : decide (((i : Nat) : Int) < ((q.length : Int) - 1)) = true := decide_eq_true (by omega)
  rw [hd, Bool.true_and] at this
  cases hn : (Jo q ((i : Nat) : Int) != (1 : Int)) with
  | false => exact J3 hn
  | true => rw [hn, Bool.or_true] at this; simp at this
theorem OM {q : List X4} (h : Q4 q = true) {c i j : Nat} (hc : c + 1 < q.length) (hij : i < j) (hj : j < q.length) (h1 : Be (nth q i) (c : Int) = true) (h2 : Be (nth q j) (c : Int) = true) : False := by
  have hr := Qaa h hc
  have hl := (Tg h).2
  obtain ⟨s, e, g⟩ := WB (c : Int) q 0 0 (by omega) (by omega)
  unfold Jo at hr
  rw [e] at hr
  have := Qbi (p := fun n => Be n (c : Int)) hij (K9 (by omega)) (K9 hj) h1 h2
  simp only [Out.on] at hr
  omega
theorem IX {q : List X4} (h : Q4 q = true) {c i : Nat} (hi : i < q.length) (hr : Be (nth q i) (c : Int) = true) : c < i := by
  obtain ⟨h1, h2⟩ := D0 h (k := (i : Int)) (by omega) (by omega)
  rw [Int.toNat_natCast] at h1 h2
  unfold Be at hr
  simp only [Bool.or_eq_true, Bool.and_eq_true, beq_iff_eq] at hr
  rcases hr with ⟨e, hop⟩ | ⟨e, hop⟩
  · have := h1 (by omega); omega
  have := h2 (by omega); omega
/-! ### below a negation -/
theorem JF {L : List Bool} {i : Nat} (x : Bool) (hi : i < L.length) (j : Nat) : nth (L.set i x) j = if j = i then x else nth L j := by
  unfold nth
  simp only [List.getD_eq_getElem?_getD, List.getElem?_set]
  by_cases h : i = j
  · subst h; simp [hi]
  simp [h, Ne.symm h]
theorem ON {q : List X4} (h : Q4 q = true) {k : Nat} (hk : k < q.length) (s : List Bool) (hs : s.length = q.length) : ∃ s', Zc q k s = .next s' ∧ s'.length = q.length ∧
    (∀ j : Nat, Be (nth q (q.length - 1 - k)) (j : Int) = false → nth s' j = nth s j) ∧
    (∀ j : Nat, Be (nth q (q.length - 1 - k)) (j : Int) = true → nth s' j = (nth s (q.length - 1 - k) || ((nth q (q.length - 1 - k)).1 == 5))) := by
  have hdn : Int.toNat (dn ((q.length : Int) - 1) k) = q.length - 1 - k := by rw [HL]; omega
  obtain ⟨hl, hr⟩ := D0 h (k := ((q.length - 1 - k : Nat) : Int)) (by omega) (by omega)
  rw [Int.toNat_natCast] at hl hr
  have hlt : q.length - 1 - k < s.length := by omega
  unfold Zc
  rw [hdn]
  generalize q.length - 1 - k = i at hl hr hlt ⊢
  generalize nth q i = n at hl hr ⊢
  generalize (nth s i || (n.1 == 5)) = b
  have both : ∀ (e5 : (n.1 == (5 : Int)) = false), (n.1 = 6 ∨ n.1 = 7) → (List.set (List.set s (Int.toNat n.2.1) b) (Int.toNat n.2.2.1) b).length = q.length ∧ (∀ j : Nat, Be n (j : Int) = false → nth (List.set (List.set s (Int.toNat n.2.1) b) (Int.toNat n.2.2.1) b) j = nth s j) ∧ (∀ j : Nat, Be n (j : Int) = true → nth (List.set (List.set s (Int.toNat n.2.1) b) (Int.toNat n.2.2.1) b) j = b) := fun e5 h67 => by
    obtain ⟨g1, g2⟩ := hl (.inr h67)
    obtain ⟨g3, g4⟩ := hr h67
    have hop : (n.1 == 6 || n.1 == 7) = true := by rcases h67 with e | e <;> simp [e]
    have hlen : (List.set s (Int.toNat n.2.1) b).length = s.length := List.length_set ..
    refine ⟨by rw [List.length_set, hlen, hs], fun j hj => ?_, fun j hj => ?_⟩
    · simp only [Be, hop, Bool.true_or, Bool.and_true, Bool.or_eq_false_iff, beq_eq_false_iff_ne, ne_eq] at hj
      rw [Gk _ (by omega), Gk _ (by omega)]
    simp only [Be, hop, Bool.true_or, Bool.and_true, Bool.or_eq_true, beq_iff_eq] at hj
    rw [JF _ (by omega), JF _ (by omega)]
    split
    · rfl
    rw [if_pos (by omega)]
  by_cases h5 : n.1 = 5
  · obtain ⟨g1, g2⟩ := hl (.inl h5)
    simp only [h5, beq_self_eq_true, cond_true]
    refine ⟨_, rfl, by rw [List.length_set, hs], fun j hj => ?_, fun j hj => ?_⟩
    · have : n.2.1 ≠ (j : Int) := by simpa [Be, h5] using hj
      exact Gk _ (by omega)
    have : n.2.1 = (j : Int) := by simpa [Be, h5] using hj
    rw [JF _ (by omega), if_pos (by omega)]
  have e5 : (n.1 == (5 : Int)) = false := beq_eq_false_iff_ne.2 h5
  rw [e5, cond_false]
  by_cases h6 : n.1 = 6
  · simp only [h6, beq_self_eq_true, cond_true]
    exact ⟨_, rfl, both e5 (.inl h6)⟩
  by_cases h7 : n.1 = 7
  · simp only [h7, beq_self_eq_true, cond_true]
    exact ⟨_, rfl, both e5 (.inr h7)⟩
  have e6 : (n.1 == (6 : Int)) = false := beq_eq_false_iff_ne.2 h6
  have e7 : (n.1 == (7 : Int)) = false := beq_eq_false_iff_ne.2 h7
  rw [e6, e7, cond_false, cond_false]
  refine ⟨_, rfl, hs, fun _ _ => rfl, fun j hj => ?_⟩
  simp [Be, e5, e6, e7] at hj
def IY (q : List X4) (k : Nat) (s : List Bool) : Prop := s.length = q.length ∧ ∀ i, q.length ≤ i + k → i < q.length → ∀ c : Nat, Be (nth q i) (c : Int) = true → nth s c = (nth s i || ((nth q i).1 == 5))
theorem OO {q : List X4} (h : Q4 q = true) {k : Nat} (hk : k < q.length) {s : List Bool} (hs : IY q k s) : ∃ s', Zc q k s = .next s' ∧ IY q (k + 1) s' := by
  obtain ⟨s', h1, h2, h3, h4⟩ := ON h hk s hs.1
  have hself : nth s' (q.length - 1 - k) = nth s (q.length - 1 - k) := h3 _ (by
    cases hr : Be (nth q (q.length - 1 - k)) ((q.length - 1 - k : Nat) : Int) with
    | false => rfl
    | true => have := IX h (by omega) hr; omega)
  refine ⟨s', h1, h2, fun i hi1 hi2 c hc => ?_⟩
  by_cases e : i = q.length - 1 - k
  · subst e
    rw [h4 c hc, hself]
  have hci := IX h hi2 hc
  have n1 : Be (nth q (q.length - 1 - k)) (c : Int) = false := by
    cases hr : Be (nth q (q.length - 1 - k)) (c : Int) with
    | false => rfl
    | true => exact (OM h (c := c) (i := q.length - 1 - k) (j := i) (by omega) (by omega) hi2 hr hc).elim
  have n2 : Be (nth q (q.length - 1 - k)) (i : Int) = false := by
    cases hr : Be (nth q (q.length - 1 - k)) (i : Int) with
    | false => rfl
    | true => have := IX h (by omega) hr; omega
  rw [h3 c n1, h3 i n2]
  exact hs.2 i (by omega) hi2 c hc
theorem CS {q : List X4} (h : Q4 q = true) : ∀ (n k : Nat) (s : List Bool), k + n = q.length → IY q k s → ∃ s', Wd (Zc q) Wn n k s = .brk s' ∧ IY q q.length s'
  | 0, k, s, hk, hs => ⟨s, rfl, by rw [show k = q.length by omega] at hs; exact hs⟩
  | n + 1, k, s, hk, hs => by
    obtain ⟨s1, h1, h2⟩ := OO h (by omega) hs
    obtain ⟨s2, h3, h4⟩ := CS h n (k + 1) s1 (by omega) h2
    exact ⟨s2, by simp only [Wd, h1]; exact h3, h4⟩
theorem OP {q : List X4} (h : Q4 q = true) : IY q q.length (Xq q) := by
  unfold Xq
  obtain ⟨s, h1, h2⟩ := CS h (List.length q) 0 (List.replicate (Int.toNat (q.length : Int)) false) (by omega) ⟨by simp, fun i h1 h2 => by omega⟩
  rw [h]
  simp only [Bool.not_true, cond_false, h1, Out.on]
  exact h2
theorem OQ {q : List X4} {i : Nat} (hi : i < (Xq q).length) (hn : nth (Xq q) i = true) (hd : J5 (nth q i) = true) : (nth q i).2.2.2.1 ∈ Xr q := by
  have key : ∀ (l : List Bool) (k : Nat) (s : List ByteArray), ∃ t, Xp (K7 q true) Wv l k s = .brk t ∧ (∀ x, x ∈ s → x ∈ t) ∧ ∀ j, l[j]? = some true → J5 (nth q (k + j)) = true → (nth q (k + j)).2.2.2.1 ∈ t := by
    intro l
    induction l with
    | nil => intro k s; exact ⟨s, rfl, fun _ h => h, fun j h => by simp at h⟩
    | cons a l ih =>
      intro k s
      simp only [Xp, K7]
      cases hc : (J5 (nth q k) && (a == true)) with
      | true =>
        obtain ⟨t, h1, h2, h3⟩ := ih (k + 1) (s ++ [(nth q k).2.2.2.1])
        refine ⟨t, h1, fun x hx => h2 x (List.mem_append_left _ hx), fun j hj hnm => ?_⟩
        cases j with
        | zero => exact h2 _ (List.mem_append_right _ (by simp))
        | succ j =>
          have := h3 j (by simpa using hj) (by rwa [show k + 1 + j = k + (j + 1) by omega])
          rwa [show k + 1 + j = k + (j + 1) by omega] at this
      | false =>
        obtain ⟨t, h1, h2, h3⟩ := ih (k + 1) s
        refine ⟨t, h1, h2, fun j hj hnm => ?_⟩
        cases j with
        | zero =>
          obtain rfl : a = true := by simpa using hj
          rw [Nat.add_zero] at hnm
          rw [hnm] at hc; cases hc
        | succ j =>
          have := h3 j (by simpa using hj) (by rwa [show k + 1 + j = k + (j + 1) by omega])
          rwa [show k + 1 + j = k + (j + 1) by omega] at this
  unfold Xr Vl
  obtain ⟨t, h1, _, h3⟩ := key (Xq q) 0 []
  rw [h1]
  simp only [Out.on]
  have := h3 i (by rw [K9 hi, hn]) (by rwa [Nat.zero_add])
  rw [Nat.zero_add] at this
  exact ((Tl t).2 _).2 this
/-! ### what a node says -/
theorem JG (l : List Int) (x : Int) : Vn l x = true ↔ x ∈ l := by
  unfold Vn V0 Hu
  have key : ∀ (l : List Int) (k : Nat), decide (((Xp (Jz x) Vz l k ()).on fun _ => -1) ≥ 0) = true ↔ x ∈ l := by
    intro l
    induction l with
    | nil => intro k; simp [Xp, Out.on, Vz]
    | cons a l ih =>
      intro k
      by_cases h : x = a
      · subst h; simp [Xp, Jz, Out.on]
      have e1 : (x == a) = false := beq_eq_false_iff_ne.2 h
      simp only [Xp, Jz, e1, cond_false]
      rw [ih (k + 1)]
      simp [h]
  exact key l 0
structure Seen (q : List X4) (a b : List Qr) : Prop where
  grow : ∀ nm x, x ∈ Yb a nm → x ∈ Yb b nm
  same : ∀ nm, nm ∈ Xr q → Yb a nm = Yb b nm
theorem YO {q : List X4} (hv : Q4 q = true) {a b : List Qr} (hs : Seen q a b) (f : Q9) : ∀ (n : Nat) (k : Nat), k < n → k < q.length →
    (nth (Xq q) k = true → Yf n q (k : Int) f a = Yf n q (k : Int) f b) ∧ (Yf n q (k : Int) f a = true → Yf n q (k : Int) f b = true)
  | 0, _, h, _ => absurd h (by omega)
  | n + 1, k, hkn, hk => by
    obtain ⟨hl, hr⟩ := D0 hv (k := (k : Int)) (by omega) (by omega)
    rw [Int.toNat_natCast] at hl hr
    obtain ⟨hlen, hneg⟩ := OP hv
    have hneg := hneg k (by omega) hk
    have hop := Qbh (HP hv (K9 hk))
    have hnm := OQ (q := q) (i := k) (by omega)
    have ih := YO hv hs f n
    unfold Yf
    rw [Int.toNat_natCast]
    generalize nth q k = m at hl hr hneg hop hnm ⊢
    have kid : ∀ c : Int, 0 ≤ c → c < (k : Int) → Be m c = true → ((nth (Xq q) k || (m.1 == 5)) = true → Yf n q c f a = Yf n q c f b) ∧ (Yf n q c f a = true → Yf n q c f b = true) := fun c h0 h1 hrf => by
      obtain ⟨j, rfl⟩ : ∃ j : Nat, c = (j : Int) := ⟨Int.toNat c, by omega⟩
      obtain ⟨g1, g2⟩ := ih j (by omega) (by omega)
      exact ⟨fun hn => g1 ((hneg j hrf).trans hn), g2⟩
    rcases hop with h | h | h | h | h | h | h | h | h
    · simp [h]
    · simp [h]
    · simp [h]
    · simp [h]
    · obtain ⟨k1, k2⟩ := hl (.inl h)
      obtain ⟨g1, _⟩ := kid m.2.1 k1 k2 (by simp [Be, h])
      have := g1 (by simp [h])
      simp [h, this]
    · obtain ⟨k1, k2⟩ := hl (.inr (.inl h))
      obtain ⟨k3, k4⟩ := hr (.inl h)
      obtain ⟨g1, g2⟩ := kid m.2.1 k1 k2 (by simp [Be, h])
      obtain ⟨g3, g4⟩ := kid m.2.2.1 k3 k4 (by simp [Be, h])
      refine ⟨fun hn => ?_, fun hm => ?_⟩
      · simp [h, g1 (by simp [hn]), g3 (by simp [hn])]
      simp [h] at hm ⊢
      exact ⟨g2 hm.1, g4 hm.2⟩
    · obtain ⟨k1, k2⟩ := hl (.inr (.inr h))
      obtain ⟨k3, k4⟩ := hr (.inr h)
      obtain ⟨g1, g2⟩ := kid m.2.1 k1 k2 (by simp [Be, h])
      obtain ⟨g3, g4⟩ := kid m.2.2.1 k3 k4 (by simp [Be, h])
      refine ⟨fun hn => ?_, fun hm => ?_⟩
      · simp [h, g1 (by simp [hn]), g3 (by simp [hn])]
      simp [h] at hm ⊢
      exact hm.imp g2 g4
    · refine ⟨fun hn => ?_, fun hm => ?_⟩
      · simp [h, hs.same _ (hnm hn (by simp [J5, h]))]
      simp [h] at hm ⊢
      exact (JG _ _).2 (hs.grow _ _ ((JG _ _).1 hm))
    refine ⟨fun hn => ?_, fun hm => ?_⟩
    · simp [h, hs.same _ (hnm hn (by simp [J5, h]))]
    simp [h] at hm ⊢
    exact ⟨hm.1, (JG _ _).2 (hs.grow _ _ ((JG _ _).1 hm.2))⟩
theorem WC {q : List X4} {a b : List Qr} (hs : Seen q a b) (f : Q9) (h : V6 q f a = true) : V6 q f b = true := by
  unfold V6 at h ⊢
  cases hv : Q4 q with
  | false => rw [hv] at h; cases h
  | true =>
    rw [hv, Bool.true_and] at h
    rw [Bool.true_and]
    have hl := Tg hv
    have e : ((q.length : Int) - 1) = ((q.length - 1 : Nat) : Int) := by omega
    rw [e] at h ⊢
    exact (YO hv hs f q.length (q.length - 1) (by omega) (by omega)).2 h
theorem EE (s : Ql) (q : List X4) (r : List Qr) : X7 s q r = sel s.2.1 (fun f => f.1) fun f => V6 q f r := by
  unfold X7
  rw [C1 (f := W5 q r) (p := fun f => V6 q f r) (g := fun f => f.1) (fun _ _ _ => rfl)]
  rfl
/-! ### strata that hold -/
theorem Tx {d : List Yd} {L : List Int} (h : Qu d = (L, true)) : Jp d = true ∧ L.length = d.length ∧ Sat (J0 d) d.length L ∧ ∀ j, 0 ≤ nth L j := by
  unfold Qu at h
  cases hv : Jp d with
  | false => rw [hv] at h; simp at h
  | true =>
    rw [hv] at h
    simp only [Bool.not_true, cond_false] at h
    have h5 := Fe hv
    have hw := Gm (d := d) (f := W3 d) (e := W4) (F := Vm d) (fun _ _ _ => rfl) (fun _ _ => rfl) (fun _ => rfl) (by omega) (d.length * d.length + 3) (List.replicate d.length 0) true (Aq _).1 (Aq _).2
    have hsome : (Py (J0 d) d.length d.length (d.length * d.length + 3) (true, List.replicate d.length 0)).isSome = true := by
      have := Dv d h5
      rw [Int.toNat_natCast, hw, Option.isSome_map] at this
      exact this
    obtain ⟨r, hr⟩ := Option.isSome_iff_exists.1 hsome
    unfold Fp at h
    rw [Int.toNat_natCast, hw, hr] at h
    have hw' : ∀ i e, e ∈ J0 d i → e.2 ≤ 1 ∧ e.1 < d.length := fun i e he => ⟨(Lk d i e he).1, (Lk d i e he).2.1⟩
    obtain ⟨h1, _⟩ := Sc hw' _ 0 true r (fun e => by cases e) hr
    cases r with
    | none => simp [Qat, Out.on] at h
    | some M =>
      have e : M = L := by simpa [Qat, Out.on] using h
      subst e
      obtain ⟨hrest, hM⟩ := h1 M rfl
      rw [hM]
      exact ⟨rfl, V9 _ _ _, Om (V9 _ _ _) hrest, fun j => Ho _ _ j _⟩
theorem IZ {d : List Yd} {L : List Int} (h : Qu d = (L, true)) : ∀ j, nth L j ≤ (d.length : Int) := by
  obtain ⟨hv, hlen, _, _⟩ := Tx h
  have h5 := Fe hv
  unfold Qu at h
  rw [hv] at h
  simp only [Bool.not_true, cond_false] at h
  have hw := Gm (d := d) (f := W3 d) (e := W4) (F := Vm d) (fun _ _ _ => rfl) (fun _ _ => rfl) (fun _ => rfl) (by omega) (d.length * d.length + 3) (List.replicate d.length 0) true (Aq _).1 (Aq _).2
  have hsome : (Py (J0 d) d.length d.length (d.length * d.length + 3) (true, List.replicate d.length 0)).isSome = true := by
    have := Dv d h5
    rw [Int.toNat_natCast, hw, Option.isSome_map] at this
    exact this
  obtain ⟨r, hr⟩ := Option.isSome_iff_exists.1 hsome
  unfold Fp at h
  rw [Int.toNat_natCast, hw, hr] at h
  have hw' : ∀ i e, e ∈ J0 d i → e.2 ≤ 1 ∧ e.1 < d.length := fun i e he => ⟨(Lk d i e he).1, (Lk d i e he).2.1⟩
  obtain ⟨h1, _⟩ := Sc hw' _ 0 true r (fun e => by cases e) hr
  cases r with
  | none => simp [Qat, Out.on] at h
  | some M =>
    have e : M = L := by simpa [Qat, Out.on] using h
    subst e
    obtain ⟨hrest, hM⟩ := h1 M rfl
    intro j
    by_cases hj : j < d.length
    · rw [hM]; exact Int.le_of_lt (HU hw' hrest j hj)
    have : nth M j = 0 := Tm (by omega)
    omega
theorem Lm {d : List Yd} {w : Int} {nm : ByteArray} : ∀ {l : List ByteArray}, nm ∈ l → 0 ≤ Xt d nm → (Int.toNat (Xt d nm), w) ∈ Km d w l
  | x :: l, h, h0 => by
    simp only [Km]
    rcases List.mem_cons.1 h with rfl | h
    · rw [if_pos h0]; exact List.mem_cons_self ..
    split
    · exact List.mem_cons_of_mem _ (Lm h h0)
    exact Lm h h0
theorem EF {d : List Yd} {L : List Int} (h : Qu d = (L, true)) {i : Nat} (hi : i < d.length) {nm : ByteArray} (hn : nm ∈ Xr (nth d i).2) (h0 : 0 ≤ Xt d nm) : nth L (Int.toNat (Xt d nm)) < nth L i := by
  obtain ⟨_, _, hs, _⟩ := Tx h
  have hm : (Int.toNat (Xt d nm), (1 : Int)) ∈ J0 d i := by
    unfold J0
    rw [if_pos hi]
    exact List.mem_append_right _ (Lm hn h0)
  have := (Ba.1 (hs i hi)).2 _ hm
  simp only at this
  omega
end Go.Proofs.YtkbfhiamdcoieaaGreatDoor
namespace Go.Proofs.YtkbfhiamdcoieaaGreatDoor
open Go.RowKit
theorem LA (nm : ByteArray) : ∀ (d : List Yd) (o : List Qr) (k : Nat), o.map (·.1) = d.map (·.1) →
    (Xp (X0 nm) Yl d k () = .brk () ∧ Xp (Kn nm) V5 o k () = .brk ()) ∨
    ∃ i : Nat, i < d.length ∧ Xp (X0 nm) Yl d k () = .ret (((k + i : Nat)) : Int) ∧ Xp (Kn nm) V5 o k () = .ret (nth o i).2
  | [], [], _, _ => .inl ⟨rfl, rfl⟩
  | [], _ :: _, _, h => by simp at h
  | _ :: _, [], _, h => by simp at h
  | a :: d, b :: o, k, h => by
    simp only [List.map_cons, List.cons.injEq] at h
    obtain ⟨h1, h2⟩ := h
    simp only [Xp, X0, Kn, Bc, h1]
    cases (a.1.toList == nm.toList) with
    | true => exact .inr ⟨0, by simp, rfl, rfl⟩
    | false =>
      simp only [cond_false]
      rcases LA nm d o (k + 1) h2 with h | ⟨i, hi, h3, h4⟩
      · exact .inl h
      exact .inr ⟨i + 1, by simpa using hi, by rw [h3, show k + 1 + i = k + (i + 1) by omega], h4⟩
theorem Ty {d : List Yd} {o : List Qr} (h : o.map (·.1) = d.map (·.1)) (nm : ByteArray) : (Xt d nm < 0 ∧ Yb o nm = []) ∨ (0 ≤ Xt d nm ∧ Int.toNat (Xt d nm) < d.length ∧ Yb o nm = (nth o (Int.toNat (Xt d nm))).2) := by
  unfold Xt Je Yb
  rcases LA nm d o 0 h with ⟨h1, h2⟩ | ⟨i, hi, h1, h2⟩
  · rw [h1, h2]
    refine .inl ⟨?_, ?_⟩
    · show (-1 : Int) < 0; omega
    rfl
  rw [h1, h2]
  simp only [Out.on, Nat.zero_add, Int.toNat_natCast]
  exact .inr ⟨by omega, hi, trivial⟩
abbrev JH (d : List Yd) (k : Nat) (o : List Qr) (f : Q9) : Bool := V6 (nth d k).2 f o
theorem Qab {d : List Yd} {L : List Int} (h : Qu d = (L, true)) (fs : List Q9) {act : Nat → Bool} {level : Int} (ha : ∀ k, act k = true → nth L k = level) : OK fs (JH d) act (d.map (·.1)) := by
  intro a b hna hnb hle k hk hact f _ hm
  rw [List.length_map] at hk
  refine WC (⟨fun nm x hx => ?_, fun nm hn => ?_⟩ : Seen (nth d k).2 a b) f hm
  · rcases Ty hna nm with ⟨h1, h2⟩ | ⟨h1, h2, h3⟩
    · rw [h2] at hx; simp at hx
    rcases Ty hnb nm with ⟨g1, _⟩ | ⟨_, _, g3⟩
    · omega
    rw [h3] at hx
    rw [g3]
    exact (hle _).1 x hx
  rcases Ty hna nm with ⟨h1, h2⟩ | ⟨h1, h2, h3⟩
  · rcases Ty hnb nm with ⟨_, g2⟩ | ⟨g1, _, _⟩
    · rw [h2, g2]
    omega
  rcases Ty hnb nm with ⟨g1, _⟩ | ⟨_, _, g3⟩
  · omega
  rw [h3, g3]
  refine (hle _).2 ?_
  have hlt := EF h hk hn h1
  cases hp : act (Int.toNat (Xt d nm)) with
  | false => rfl
  | true => have := ha _ hp; have := ha _ hact; omega
structure EvS (d : List Yd) (L : List Int) (on : Nat → Bool) (fs : List Q9) (k : Int) (o : List Qr) : Prop where
  names : o.map (·.1) = d.map (·.1)
  none : ∀ j, k ≤ nth L j → on j = true → (nth o j).2 = []
  some_ : ∀ j, j < d.length → on j = true → ∃ p : Q9 → Bool, (nth o j).2 = sel fs (fun f => f.1) p
def UO (L : List Int) (on : Nat → Bool) (k : Int) (j : Nat) : Bool := (nth L j == k) && on j
theorem LB {d : List Yd} {L : List Int} {on : Nat → Bool} {fs : List Q9} {k : Int} {o : List Qr} (h : EvS d L on fs k o) : StateC fs (fun f : Q9 => f.1) (JH d) (UO L on k) (d.map (·.1)) o o :=
  ⟨h.names, fun j _ hj => ⟨fun _ => false, by
    unfold UO at hj
    simp only [Bool.and_eq_true, beq_iff_eq] at hj
    rw [h.none j (by omega) hj.2]; simp [sel], fun f _ hf => by cases hf⟩, fun _ _ => rfl⟩
theorem OS {d : List Yd} {L : List Int} {on : Nat → Bool} {k : Int} {o o' : List Qr} {fs : List Q9} (h : EvS d L on fs k o) (h' : StateC fs (fun f : Q9 => f.1) (JH d) (UO L on k) (d.map (·.1)) o o') : EvS d L on fs (k + 1) o' :=
  ⟨h'.names, fun j hj hon => by
    rw [h'.rest j (by unfold UO; rw [Bool.and_eq_false_iff]; exact .inl (beq_eq_false_iff_ne.2 (by omega)))]
    exact h.none j (by omega) hon, fun j hj hon => by
    cases ha : UO L on k j with
    | false => rw [h'.rest j ha]; exact h.some_ j hj hon
    | true =>
      have hlen : o'.length = d.length := by have := congrArg List.length h'.names; simpa using this
      obtain ⟨p, hp, _⟩ := h'.good j (by omega) ha
      exact ⟨p, hp⟩⟩
theorem D7 {d : List Yd} {L : List Int} {on : Nat → Bool} {fs : List Q9} {k : Int} {o : List Qr} (h : EvS d L on fs k o) : List.length o = List.length d := by have := congrArg List.length h.names; simpa using this
theorem JI (a b : List Int) : Z4 a b = decide (a = b) := by
  by_cases h : a.length = b.length
  · exact IQ a b h
  have hb : ((a.length : Int) != (b.length : Int)) = true := by simpa using fun e : (a.length : Int) = (b.length : Int) => h (by omega)
  unfold Z4
  rw [hb, decide_eq_false (fun e => h (congrArg List.length e))]
  rfl
def OT (s : Ql) (d : List Yd) (L : List Int) (on : Nat → Bool) (lv : Int) {R T : Type} (f : Nat → Yd → List Qr × Bool → Rd R (List Qr × Bool) T) : Prop :=
  ∀ k a o c, d[k]? = some a → f k a (o, c) = bif UO L on lv k then (bif !(decide (X7 s a.2 o = (nth o k).2)) then .next (List.set o k ((nth o k).1, X7 s a.2 o), true) else .next (o, c)) else .next (o, c)
theorem JJ {R : Type} {s : Ql} {d : List Yd} {L : List Int} {on : Nat → Bool} {lv : Int} {f : Nat → Yd → List Qr × Bool → Rd R (List Qr × Bool) (List Qr × Bool)} {e : Nat → List Qr × Bool → List Qr × Bool}
    (hf : OT s d L on lv f) (he : ∀ k s, e k s = s) : ∀ (l : List Yd) (k : Nat) (o : List Qr) (c : Bool), d.drop k = l → Xp f e l k (o, c) = .brk (JE s.2.1 (fun f : Q9 => f.1) (JH d) (UO L on lv) (List.range' k l.length) (o, c))
  | [], k, o, c, _ => by simp [Xp, JE, he]
  | a :: l, k, o, c, hl => by
    have hk : d[k]? = some a := by
      have := congrArg (·[0]?) hl
      simpa using this
    have ha : nth d k = a := Ip hk
    have hrest : d.drop (k + 1) = l := by rw [← List.drop_drop, hl]; rfl
    have hp : JE s.2.1 (fun f : Q9 => f.1) (JH d) (UO L on lv) (List.range' k (a :: l).length) (o, c) = JE s.2.1 (fun f : Q9 => f.1) (JH d) (UO L on lv) (List.range' (k + 1) l.length) (VZ s.2.1 (fun f : Q9 => f.1) (JH d) (UO L on lv) (o, c) k) := by
      rw [List.length_cons, List.range'_succ]; rfl
    have hsel : sel s.2.1 (fun f : Q9 => f.1) (JH d k o) = X7 s a.2 o := by rw [EE, ← ha]
    rw [hp]
    simp only [Xp, hf k a o c hk]
    unfold VZ
    cases UO L on lv k with
    | false => simp only [cond_false]; exact JJ hf he l (k + 1) o c hrest
    | true =>
      simp only [cond_true, hsel]
      by_cases hq : X7 s a.2 o = (nth o k).2
      · rw [decide_eq_true hq, if_pos hq]; exact JJ hf he l (k + 1) o c hrest
      rw [decide_eq_false hq, if_neg hq]; exact JJ hf he l (k + 1) _ true hrest
theorem RJ {R' : Type} {s : Ql} {d : List Yd} {L : List Int} {on : Nat → Bool} {lv : Int} {f : Nat → Yd → List Qr × Bool → Rd (Rd R' (List Qr × Int × Bool) (List Qr × Int)) (List Qr × Bool) (List Qr × Bool)} {e : Nat → List Qr × Bool → List Qr × Bool} {F : List Qr × Int × Bool → Rd R' (List Qr × Int × Bool) (List Qr × Int)}
    (hf : OT s d L on lv f) (he : ∀ k s, e k s = s) (hF : ∀ x, F x = bif x.2.2 then (Out.on (Xp f e d 0 (x.1, false)) fun y => .next (y.1, IntKind.i64.wrap (x.2.1 + 1), y.2)) else .brk (x.1, x.2.1))
    (hS : Qu d = (L, true)) {o : List Qr} (h : EvS d L on s.2.1 lv o) (p : Int) :
    ∃ o' p', whl F (List.length d * List.length s.2.1 + 2) (o, p, true) = some (.brk (o', p')) ∧ EvS d L on s.2.1 (lv + 1) o' := by
  have hlen : o.length = d.length := by have := congrArg List.length h.names; simpa using this
  have hroom := IV s.2.1.length (UO L on lv) o 0
  rw [hlen] at hroom
  obtain ⟨s', h1, hc, t, h2, h3⟩ := Qcs (fs := s.2.1) (idOf := fun f : Q9 => f.1) (m := JH d) (act := UO L on lv) (nm := d.map (·.1)) (F := F) (out := fun x => x.1) (ch := fun x => x.2.2) (n := d.length) (by simp)
    (fun x hx => ⟨_, by rw [hF, hx, cond_true, JJ hf he d 0 x.1 false rfl]; rfl, by rw [List.range_eq_range']⟩)
    (fun x hx => ⟨_, by rw [hF, hx, cond_false]⟩) (Qab hS s.2.1 fun k hk => by unfold UO at hk; simp only [Bool.and_eq_true, beq_iff_eq] at hk; exact hk.1) (o := o) (List.length d * List.length s.2.1 + 2) (o, p, true) (LB h) (by simp only [cond_true]; omega)
  have hc' : s'.2.2 = false := hc
  have hb : F s' = .brk (s'.1, s'.2.1) := by rw [hF, hc']; rfl
  rw [hb] at h2
  cases h2
  exact ⟨s'.1, s'.2.1, h3, OS h h1⟩
theorem Sg {R T : Type} {d : List Yd} {L : List Int} {on : Nat → Bool} {fs : List Q9} {g : Yd → List Int} {f : Nat → Yd → List Qr → Rd R (List Qr) T} {e : Nat → List Qr → T} (hf : ∀ k a s, f k a s = .next (s ++ [(a.1, g a)])) (hg : ∀ j, j < d.length → on j = true → g (nth d j) = []) :
    Xp f e d 0 [] = .brk (e d.length (d.map fun a => (a.1, g a))) ∧ EvS d L on fs 0 (d.map fun a => (a.1, g a)) := by
  refine ⟨by rw [Sa (g := fun a => ((a.1, g a) : Qr)) hf]; simp, ?_, fun j _ hj => ?_, fun j hj hon => ?_⟩
  · rw [List.map_map]; rfl
  · by_cases hjl : j < d.length
    · have : nth (d.map fun a => ((a.1, g a) : Qr)) j = ((nth d j).1, g (nth d j)) := by simp [nth, List.getD, hjl]
      rw [this]; exact hg j hjl hj
    have : nth (d.map fun a => ((a.1, g a) : Qr)) j = default := by simp [nth, List.getD, hjl]
    rw [this]; rfl
  have : nth (d.map fun a => ((a.1, g a) : Qr)) j = ((nth d j).1, g (nth d j)) := by simp [nth, List.getD, hj]
  exact ⟨fun _ => false, by rw [this, hg j hj hon]; simp [sel]⟩
theorem Fx {d : List Yd} (h : ((Qu d)).2 = true) : List.length ((Qu d)).1 = List.length d ∧ List.length d ≤ 5 ∧ ∀ x, x ∈ ((Qu d)).1 → 0 ≤ x ∧ x ≤ 5 := by
  have hS : Qu d = ((Qu d).1, true) := Prod.ext rfl h
  obtain ⟨hv, hlen, hs, h0⟩ := Tx hS
  have h5 := Fe hv
  refine ⟨hlen, h5, fun x hx => ?_⟩
  obtain ⟨i, hi, rfl⟩ := ZW hx
  refine ⟨h0 i, ?_⟩
  have hb := IZ hS i
  omega
open GoE (enc wide)
def Fh (_ : Nat) (a0 : Yd) (s0 : (List ByteArray)) : Rd ((List ByteArray)) ((List ByteArray)) ((List ByteArray)) := (.next (s0 ++ [a0.1]))
def Fi (_ : Nat) (s0 : (List ByteArray)) : (List ByteArray) := s0
def Ys (d : (List Yd)) : (List ByteArray) := (Out.on (Xp Fh Fi d 0 []) (fun y0 => y0))
theorem QT (d : (List Yd)) : ACalls Tryz.prog 86 [.h d] (.o 0 (Ys d)) := by
 refine en Qb Tryz.func86 fun w0 F0 hG => ?_
 refine sn Qb [0, 2] [] (p0) ?_
 refine tn Qb [0, 2, 3] [] (p0) ?_
 refine Qe (tu Qb [(2, .e 0), (3, .one (.slc (.own true 384) 1 [])), (7, .h d), (8, .i (d.length : Int)), (9, .i 0)] [0] [] [] (pl 1 d p0) ?_)
 refine wT 7 0 .sh d (fun hw1 hl2 => ?_)
 refine GN Fh Fi d [] (fun k0 s0 => [(3, .o 147201 s0), (9, .i ((k0 : Nat) : Int))]) [3, 9] (fun y0 => [(3, .o 147351 y0)]) [3, 7, 8, 9] (fun k0 s0 => List.length s0 ≤ k0) (X2 [(384, 147201)] (by kernel_rfl)) (by simp) (fun k0 s0 hk0 hI0 => ?_) (fun k0 s0 hk0 hI0 => ?_) (fun y0 hD0 => ?_)
 ·
  have hA0_0 := hI0.2
  obtain ⟨a0, hx0⟩ := Xm (l := d) (i := k0) hk0
  refine sn Qb [2, 3, 7, 8, 9, 10] [] (pe 0 (Qo (decide_eq_true (p := ((k0 : Nat) : Int) < (d.length : Int)) (by omega))) p0) ?_
  refine Qe (ckT ?_)
  refine Qh ?_
  refine Qe (Qs ?_)
  refine tn Qb [2, 3, 5, 7, 8, 9] [5] (pn 0 hx0 p0) ?_
  refine wT 3 0 (.own true 147201) s0 (fun hw3 hl4 => ?_)
  refine qu Qb [(3, .one (.slc (.own true 1088) 1 ((eL s0) ++ [[.s a0.1]])))] [3] [] [] (pa s0 [a0.1] p0) ?_
  refine eqn [(3, .o 1088 (s0 ++ [a0.1]))] [3] [] [] (by rw [show ((eL s0) ++ [[.s a0.1]]) = (eL (s0 ++ [a0.1])) from Kj (rfl) (rfl)]; first | done | kernel_rfl) ?_
  refine rn Qb [2, 3, 7, 8, 9] [] (pe 0 (Jn (Qp k0 (by omega))) p0) ?_
  exact Exists.intro (s0 ++ [a0.1]) (And.intro (X2 [(1088, 147201)] (by kernel_rfl)) ⟨Qx hx0 (rfl) hI0.1, by first | omega | (simp; omega) | simp⟩)
 ·
  have hA0_0 := hI0.2
  refine sn Qb [2, 3, 7, 8, 9, 10] [] (pe 0 (Qo (decide_eq_false (p := ((k0 : Nat) : Int) < (d.length : Int)) (by omega))) p0) ?_
  refine Qe (ckF ?_)
  refine Q5 ?_
  exact Exists.intro _ (And.intro (X2 [(147201, 147351)] (by kernel_rfl)) (Xn hk0 (rfl) hI0.1))
 refine sn Qb [2] [] (p0) ?_
 refine Qg ?_
 exact po0 [] (Wc hD0 (rfl))
def Vt (v : ByteArray) (k0 : Nat) (a0 : ByteArray) (_ : Unit) : Rd (Int) (Unit) (Unit) := (bif (v.toList == a0.toList) then (.ret ((k0 : Nat) : Int)) else (.next ()))
def W6 (_ : Nat) (_ : Unit) : Unit := ()
def Hb (s_ : (List ByteArray)) (v : ByteArray) : Int := (Out.on (Xp (Vt v) W6 s_ 0 ()) (fun _ => -1))
theorem Md (s_ : (List ByteArray)) (v : ByteArray) : ACalls Tryz.prog 137 [.h s_, .s v] (.i (Hb s_ v)) := by
 refine en Qb Tryz.func137 fun w0 F0 hG => ?_
 refine sn Qb [0, 1, 4] [] (p0) ?_
 refine Qe (tn Qb [0, 1, 4, 7, 8] [] (pl 1 s_ p0) ?_)
 refine mz [(4, .i 0), (7, .i (s_.length : Int)), (8, .i 0)] [] [] [] ?_
 refine wT 0 0 .sh s_ (fun hw1 hl2 => ?_)
 refine L3 (Vt v) W6 s_ () (fun k0 _ => [(8, .i ((k0 : Nat) : Int))]) [8] (fun _ => []) [0, 1, 7, 8] (Qd (by kernel_rfl)) (fun k0 s0 hk0 hI0 => ?_) (fun k0 s0 hk0 hI0 => ?_) (fun y0 hD0 => ?_)
 ·
  obtain ⟨a0, hx0⟩ := Xm (l := s_) (i := k0) hk0
  refine sn Qb [0, 1, 4, 7, 8, 9] [] (pe 0 (Qo (decide_eq_true (p := ((k0 : Nat) : Int) < (s_.length : Int)) (by omega))) p0) ?_
  refine Qe (ckT ?_)
  refine Qh ?_
  refine Qe (Qs ?_)
  refine tn Qb [0, 1, 4, 5, 7, 8] [] (p0) ?_
  refine tu Qb [(5, .i ((k0 : Nat) : Int)), (16, .b (v.toList == a0.toList))] [] [] [] (pn 3 hx0 p0) ?_
  refine ck (v.toList == a0.toList) (fun h3 => ?_) (fun h3 => ?_)
  ·
   refine sn Qb [0, 1, 4, 7, 8] [] (p0) ?_
   refine Qg ?_
   have hr4 : (Xp (Vt v) W6 s_ 0 ()) = .ret ((k0 : Nat) : Int) := Zx hx0 (Q6 h3 (rfl)) hI0
   exact pi [] (Iq hr4)
  refine Qh ?_
  refine rn Qb [0, 1, 4, 7, 8] [] (pe 0 (Jn (Qp k0 (by omega))) p0) ?_
  exact Exists.intro _ (And.intro (Qd (by kernel_rfl)) (Qx hx0 (Qm h3 (rfl)) hI0))
 ·
  refine sn Qb [0, 1, 4, 7, 8, 9] [] (pe 0 (Qo (decide_eq_false (p := ((k0 : Nat) : Int) < (s_.length : Int)) (by omega))) p0) ?_
  refine Qe (ckF ?_)
  refine Q5 ?_
  exact Exists.intro _ (And.intro (Qd (by kernel_rfl)) (Xn hk0 (rfl) hI0))
 refine sn Qb [4] [] (p0) ?_
 refine Qg ?_
 exact pi [] (Wc hD0 (rfl))
def Qy (s_ : (List ByteArray)) (v : ByteArray) : Bool := decide ((Hb s_ v) ≥ (0 : Int))
theorem Uv (s_ : (List ByteArray)) (v : ByteArray) : ACalls Tryz.prog 92 [.h s_, .s v] (.b (Qy s_ v)) := by
 refine en Qb Tryz.func92 fun w0 F0 hG => ?_
 refine sn Qb [0, 1, 4] [] (p0) ?_
 refine tn Qb [4] [] (pc 2 (Md s_ v) p0) ?_
 refine Qg ?_
 exact pb [] (show Qy s_ v = decide ((Hb s_ v) ≥ (0 : Int)) from rfl)
def Ww (x : (List Int)) (k0 : Nat) (s0 : Int) : Rd (Int) (Int) (Int) := (.next (max s0 (nth x (k0 + 1))))
def Ar (_ : Nat) (s0 : Int) : Int := s0
def Ep (x : (List Int)) : Int := (Out.on (Wd (Ww x) Ar (x.length - 1) 0 (nth x 0)) (fun y0 => y0))
theorem Tz (x : (List Int)) (hp : 0 < x.length) : ACalls Tryz.prog 161 [.h x] (.i (Ep x)) := by
 refine en Qb Tryz.func161 fun w0 F0 hG => ?_
 refine sn Qb [0, 2] [] (p0) ?_
 refine Qe (tn Qb [0, 2, 7] [] (pl 1 x (pe 2 (show .b (decide ((x.length : Int) < (1 : Int))) = .b false from Qo (decide_eq_false (by omega))) p0)) ?_)
 refine ckF ?_
 refine Qh ?_
 refine wT 0 0 .sh x (fun hw2 hl3 => ?_)
 have hx1 := ng x 0
 refine tu Qb [(2, .i 0), (3, .i (nth x 0))] [] [] [] (pg 1 0 hx1 p0) ?_
 refine Qe (sn Qb [0, 2, 3, 4] [] (p0) ?_)
 refine mz [(4, .i 1)] [] [] [] ?_
 refine Qb2 (Ww x) Ar (x.length - 1) (nth x 0) (fun k0 s0 => [(3, .i s0), (4, .i ((k0 + 1 : Nat) : Int))]) [3, 4] (fun y0 => [(3, .i y0)]) [0, 3, 4] (Qd (by kernel_rfl)) (fun k0 s0 hk0 hI0 => ?_) (fun k0 s0 hk0 hI0 => ?_) (fun y0 hD0 => ?_)
 ·
  refine Qe (sn Qb [0, 2, 3, 4, 15] [] (pl 2 x (pe 3 (Qo (decide_eq_true (p := ((k0 + 1 : Nat) : Int) < (x.length : Int)) (by omega))) p0)) ?_)
  refine ckT ?_
  refine Qh ?_
  refine Qe (Qs ?_)
  have hx4 := ng x (k0 + 1)
  refine qn Qb [0, 2, 3, 4] [] (pg 3 ((k0 + 1 : Nat) : Int) hx4 p0) ?_
  refine qu Qb [(3, .i (max s0 (nth x (k0 + 1)))), (4, .i ((k0 + 2 : Nat) : Int))] [3, 4] [] [] (pe 1 (show .i (IntKind.i64.wrap (((k0 + 1 : Nat) : Int) + 1)) = .i ((k0 + 2 : Nat) : Int) from Jn ((IntWalk.i64_in _ (by omega)).trans (by omega))) p0) ?_
  exact Exists.intro _ (And.intro (Qd (by kernel_rfl)) (K0 hk0 (rfl) hI0))
 ·
  refine Qe (sn Qb [0, 2, 3, 4, 15] [] (pl 2 x (pe 3 (Qo (decide_eq_false (p := ((k0 + 1 : Nat) : Int) < (x.length : Int)) (by omega))) p0)) ?_)
  refine ckF ?_
  refine Q5 ?_
  exact Exists.intro _ (And.intro (Qd (by kernel_rfl)) (Bz hk0 (rfl) hI0))
 refine sn Qb [2] [] (p0) ?_
 refine Qg ?_
 exact pi [] (Wc hD0 (rfl))
def Kk (d : (List Yd)) : Int := (bif ((!(((Qu d)).2)) || (((((Qu d)).1).length : Int) == (0 : Int))) then -1 else (Ep (((Qu d)).1)))
theorem It (d : (List Yd)) : ACalls Tryz.prog 131 [.h d] (.i (Kk d)) := by
 refine en Qb Tryz.func131 fun w0 F0 hG => ?_
 refine sn Qb [0, 2] [] (p0) ?_
 refine tn Qb [2, 3, 4] [] (pc 1 (Rs d) p0) ?_
 refine Qe (Qe (mz [(2, .i 0), (3, .o 448 (((Qu d)).1)), (4, .b (((Qu d)).2))] [0] [] [] ?_))
 refine jn [(16, .b ((!(((Qu d)).2)) || (((((Qu d)).1).length : Int) == (0 : Int))))] [4] [] [] (!(((Qu d)).2)) (fun h1 => ?_) (fun h1 => ?_) ?_
 ·
  have h1n : (((Qu d)).2) = false := Vr h1
  refine rn Qb [2, 3, 16] [] (pf 0 h1n (pe 1 (show .b (!false) = .b true from rfl) p0)) ?_
  exact ⟨rfl, Qd (by rw [h1]; first | done | kernel_rfl)⟩
 ·
  have h1n : (((Qu d)).2) = true := Ze h1
  refine rn Qb [2, 3, 16] [] (pt 0 h1n (pe 1 (show .b (!true) = .b false from rfl) (pl 4 (((Qu d)).1) p0))) ?_
  exact ⟨rfl, Qd (by rw [h1]; first | done | kernel_rfl)⟩
 refine ck ((!(((Qu d)).2)) || (((((Qu d)).1).length : Int) == (0 : Int))) (fun h2 => ?_) (fun h2 => ?_)
 ·
  refine sn Qb [2, 3] [] (p0) ?_
  refine Qg ?_
  exact pi [] (Q6 h2 (rfl))
 have h2l : ((!(((Qu d)).2))) = false := Pw h2
 have h2ln : (((Qu d)).2) = true := Ze h2l
 have h2r : ((((((Qu d)).1).length : Int) == (0 : Int))) = false := Px h2
 have h2rd := Yg h2r
 refine Qh ?_
 refine sn Qb [2] [] (pc 1 (Tz (((Qu d)).1) (by first | omega | (simp_all; omega))) p0) ?_
 refine Qg ?_
 exact pi [] (Qm h2 (rfl))
def W7 (s2_ : (List Int)) (k0 : Nat) (a0 : Int) (_ : Unit) : Rd (Bool) (Unit) (Unit) := (bif (a0 != (nth s2_ k0)) then (.ret false) else (.next ()))
def Hc (_ : Nat) (_ : Unit) : Unit := ()
def Y7 (s1_ : (List Int)) (s2_ : (List Int)) : Bool := (bif ((s1_.length : Int) != (s2_.length : Int)) then false else (Out.on (Xp (W7 s2_) Hc s1_ 0 ()) (fun _ => true)))
theorem C7 (s1_ : (List Int)) (s2_ : (List Int)) : ACalls Tryz.prog 28 [.h s1_, .h s2_] (.b (Y7 s1_ s2_)) := by
 refine en Qb Tryz.func28 fun w0 F0 hG => ?_
 refine sn Qb [0, 1, 4] [] (p0) ?_
 refine Qe (tn Qb [0, 1, 4, 10] [] (pl 1 s1_ (pl 3 s2_ p0)) ?_)
 refine ck ((s1_.length : Int) != (s2_.length : Int)) (fun h1 => ?_) (fun h1 => ?_)
 ·
  refine tu Qb [(4, .b false)] [] [] [] (p0) ?_
  refine Qg ?_
  exact pb [] (Q6 h1 (rfl))
 have h1d := J3 h1
 refine Qh ?_
 refine Qe (tu Qb [(4, .b false), (12, .i (s1_.length : Int)), (13, .i 0)] [] [] [] (pl 1 s1_ p0) ?_)
 refine wT 0 0 .sh s1_ (fun hw2 hl3 => ?_)
 refine L3 (W7 s2_) Hc s1_ () (fun k0 _ => [(13, .i ((k0 : Nat) : Int))]) [13] (fun _ => []) [0, 1, 12, 13] (Qd (by kernel_rfl)) (fun k0 s0 hk0 hI0 => ?_) (fun k0 s0 hk0 hI0 => ?_) (fun y0 hD0 => ?_)
 ·
  obtain ⟨a0, hx0⟩ := Xm (l := s1_) (i := k0) hk0
  refine su Qb [(14, .b true)] [] [] [] (pe 0 (Qo (decide_eq_true (p := ((k0 : Nat) : Int) < (s1_.length : Int)) (by omega))) p0) ?_
  refine Qe (ckT ?_)
  refine Qh ?_
  refine Qe (Qs ?_)
  refine sn Qb [0, 1, 4, 5, 12, 13] [] (p0) ?_
  refine wT 1 0 .sh s2_ (fun hw5 hl6 => ?_)
  have hx4 := ng s2_ k0
  refine tN Qb Yo [0, 1, 4, 12, 13, 24] [] (pn 2 hx0 (pn 6 hx4 p0)) ?_
  refine ck (a0 != (nth s2_ k0)) (fun h7 => ?_) (fun h7 => ?_)
  ·
   refine tu Qb [] [14] [] [] (p0) ?_
   refine Qg ?_
   have hr8 : (Xp (W7 s2_) Hc s1_ 0 ()) = .ret false := Zx hx0 (Q6 h7 (rfl)) hI0
   exact pb [] (Qm h1 (Iq hr8))
  have h7d := J3 h7
  refine Qh ?_
  refine qu Qb [(13, .i ((k0 + 1 : Nat) : Int))] [13, 14] [] [] (pe 0 (Jn (Qp k0 (by omega))) p0) ?_
  exact Exists.intro _ (And.intro (Qd (by kernel_rfl)) (Qx hx0 (Qm h7 (rfl)) hI0))
 ·
  refine sn Qb [0, 1, 4, 12, 13, 14] [] (pe 0 (Qo (decide_eq_false (p := ((k0 : Nat) : Int) < (s1_.length : Int)) (by omega))) p0) ?_
  refine Qe (ckF ?_)
  refine Q5 ?_
  exact Exists.intro _ (And.intro (Qd (by kernel_rfl)) (Xn hk0 (rfl) hI0))
 refine sn Qb [4] [] (p0) ?_
 refine Qg ?_
 exact pb [] (Qm h1 (Wc hD0 (rfl)))
def Jq (r : (List Qr)) (names : (List ByteArray)) (_ : Nat) (a0 : Yd) (s0 : (List Qr)) : Rd ((List Qr) × Int × Bool) ((List Qr)) ((List Qr)) := (bif (!(Qy names a0.1)) then (.next (s0 ++ [(a0.1, (Yb r a0.1))])) else (.next (s0 ++ [((a0.1, []) : Qr)])))
def Ko (_ : Nat) (s0 : (List Qr)) : (List Qr) := s0
def Jr (s_ : Ql) (d : (List Yd)) (names : (List ByteArray)) (k1 : Nat) (k3 : Nat) (a3 : Yd) (s3 : (List Qr) × Bool) : Rd (Rd (Rd ((List Qr) × Int × Bool) ((List Qr) × Int) ((List Qr) × Int)) ((List Qr) × Int × Bool) ((List Qr) × Int)) ((List Qr) × Bool) ((List Qr) × Bool) := (bif (((nth (((Qu d)).1) k3) != ((k1 : Nat) : Int)) || (!(Qy names a3.1))) then (.next (s3.1, s3.2)) else (bif (!(Y7 (X7 s_ a3.2 s3.1) ((nth s3.1 k3).2))) then (.next (List.set s3.1 k3 ((nth s3.1 k3).1, (X7 s_ a3.2 s3.1)), true)) else (.next (s3.1, s3.2))))
def Au (_ : Nat) (s3 : (List Qr) × Bool) : (List Qr) × Bool := (s3.1, s3.2)
def Jc (s_ : Ql) (d : (List Yd)) (names : (List ByteArray)) (k1 : Nat) (s2 : (List Qr) × Int × Bool) : Rd (Rd ((List Qr) × Int × Bool) ((List Qr) × Int) ((List Qr) × Int)) ((List Qr) × Int × Bool) ((List Qr) × Int) := (bif s2.2.2 then (Out.on (Xp (Jr s_ d names k1) Au d 0 (s2.1, false)) (fun y3 => (.next (y3.1, IntKind.i64.wrap (s2.2.1 + 1), y3.2)))) else (.brk (s2.1, s2.2.1)))
def Js (s_ : Ql) (d : (List Yd)) (names : (List ByteArray)) (k1 : Nat) (s1 : (List Qr) × Int) : Rd ((List Qr) × Int × Bool) ((List Qr) × Int) ((List Qr) × Int) := (Out.on (Fp (Jc s_ d names k1) (List.length d * List.length s_.2.1 + 2) (s1.1, s1.2, true)) (fun y2 => (.next (y2.1, y2.2))))
def Av (_ : Nat) (s1 : (List Qr) × Int) : (List Qr) × Int := (s1.1, s1.2)
def Yp (s_ : Ql) (d : (List Yd)) (r : (List Qr)) (names : (List ByteArray)) : (List Qr) × Int × Bool := (bif ((!(((Qu d)).2)) || (!(Qz s_))) then ([], 0, false) else (Out.on (Xp (Jq r names) Ko d 0 []) (fun y0 => (Out.on (Wd (Js s_ d names) Av (Int.toNat ((Kk d) + 1)) 0 (y0, 0)) (fun y1 => (y1.1, y1.2, true))))))
theorem RK {B : Int} {x : List Int} (hx : ∀ a, a ∈ x → a ≤ B) (hB : 0 ≤ B) : ∀ (n k : Nat) (s : Int), s ≤ B → ∃ t, Wd (Ww x) Ar n k s = .brk t ∧ t ≤ B
  | 0, k, s, h => ⟨s, rfl, h⟩
  | n + 1, k, s, h => by
    obtain ⟨t, h1, h2⟩ := RK hx hB n (k + 1) (max s (nth x (k + 1))) (by
      by_cases hk : k + 1 < x.length
      · have := hx _ (HT hk); omega
      rw [Tm (by omega)]; omega)
    exact ⟨t, by simp only [Wd, Ww]; exact h1, h2⟩
theorem Ox {d : List Yd} (h : ((Qu d)).2 = true) : List.length ((Qu d)).1 = List.length d ∧ List.length d ≤ 5 ∧ Kk d ≤ 5 := by
 obtain ⟨h1, h2, h3⟩ := Fx h
 refine ⟨h1, h2, ?_⟩
 unfold Kk
 rw [h]
 simp only [Bool.not_true, Bool.false_or]
 cases hl : (((((Qu d)).1).length : Int) == (0 : Int)) with
 | true => simp only [cond_true]; omega
 | false =>
  simp only [cond_false]
  have hp : 0 < (((Qu d)).1).length := by have := Yg hl; omega
  unfold Ep
  obtain ⟨t, e, ht⟩ := RK (B := 5) (x := ((Qu d)).1) (fun a ha => (h3 a ha).2) (by omega) ((((Qu d)).1).length - 1) 0 (nth ((Qu d)).1 0) (h3 _ (HT hp)).2
  rw [e]; exact ht
theorem RL (b : List Int) : ∀ (l : List Int) (k : Nat), l.length = (b.drop k).length → Out.on (Xp (W7 b) Hc l k ()) (fun _ => true) = decide (l = b.drop k)
  | [], k, h => by
    have : b.drop k = [] := List.eq_nil_of_length_eq_zero (by rw [← h]; rfl)
    rw [this]; rfl
  | a :: l, k, h => by
    have hk : k < b.length := by simp only [List.length_cons, List.length_drop] at h; omega
    have hd : b.drop k = nth b k :: b.drop (k + 1) := by
      rw [List.drop_eq_getElem_cons hk, show nth b k = b[k] by simp [nth, List.getD, hk]]
    rw [hd] at h ⊢
    simp only [Xp, W7]
    by_cases e : a = nth b k
    · rw [show (a != nth b k) = false by simp [e], cond_false, RL b l (k + 1) (by simpa using h)]
      simp [e]
    rw [show (a != nth b k) = true by simp [e], cond_true]
    simp [e, Out.on]
theorem Qbj (a b : List Int) (h : a.length = b.length) : Y7 a b = decide (a = b) := by
 unfold Y7
 rw [show ((a.length : Int) != (b.length : Int)) = false by simp [h], cond_false, RL b a 0 (by simpa using h), List.drop_zero]
theorem JK (a b : List Int) : Y7 a b = decide (a = b) := by
  by_cases h : a.length = b.length
  · exact Qbj a b h
  have hb : ((a.length : Int) != (b.length : Int)) = true := by simpa using fun e : (a.length : Int) = (b.length : Int) => h (by omega)
  unfold Y7
  rw [hb, decide_eq_false (fun e => h (congrArg List.length e))]
  rfl
def onD (d : List Yd) (names : List ByteArray) (j : Nat) : Bool := Qy names (nth d j).1
theorem QU (s_ : Ql) (d : List Yd) (names : List ByteArray) (k1 : Nat) : OT s_ d (Qu d).1 (onD d names) (k1 : Int) (Jr s_ d names k1) := by
 intro k a o c hk
 have ha : nth d k = a := Ip hk
 unfold Jr UO onD
 rw [ha, JK]
 simp only [bne]
 cases (nth (Qu d).1 k == (k1 : Int)) <;> cases Qy names a.1 <;> rfl
section
variable {s_ : Ql} {d : List Yd} {names : List ByteArray} {k1 : Nat} {o : List Qr} {p : Int}
theorem Er (hS : ((Qu d)).2 = true) (h : EvS d ((Qu d)).1 (onD d names) s_.2.1 (k1 : Int) o) : ∃ o' p', whl (Jc s_ d names k1) (List.length d * List.length s_.2.1 + 2) (o, p, true) = some (.brk (o', p')) ∧ EvS d ((Qu d)).1 (onD d names) s_.2.1 ((k1 : Int) + 1) o' :=
 RJ (f := Jr s_ d names k1) (e := Au) (QU s_ d names k1) (fun _ _ => rfl) (fun _ => rfl) (Prod.ext rfl hS) h p
theorem AC (hS : ((Qu d)).2 = true) (h : EvS d ((Qu d)).1 (onD d names) s_.2.1 (((k1 : Nat)) : Int) o) : (whl (Jc s_ d names k1) (List.length d * List.length s_.2.1 + 2) (o, p, true)).isSome = true := by
 obtain ⟨o', p', h1, _⟩ := Er (p := p) hS h
 rw [h1]; rfl
theorem Dg {y : List Qr × Int} (hS : ((Qu d)).2 = true) (h : EvS d ((Qu d)).1 (onD d names) s_.2.1 (((k1 : Nat)) : Int) o) (hy : Fp (Jc s_ d names k1) (List.length d * List.length s_.2.1 + 2) (o, p, true) = .brk y) : EvS d ((Qu d)).1 (onD d names) s_.2.1 ((((k1 + 1) : Nat)) : Int) y.1 := by
 obtain ⟨o', p', h1, h2⟩ := Er (p := p) hS h
 unfold Fp at hy
 rw [h1] at hy
 have e : (o', p') = y := by simpa using hy
 rw [← e, Int.natCast_add]; exact h2
def Mq (r : List Qr) (names : List ByteArray) (a : Yd) : List Int := bif (!(Qy names a.1)) then (Yb r a.1) else []
theorem Vu {r : List Qr} (hy : Xp (Jq r names) Ko d 0 [] = .brk o) : EvS d ((Qu d)).1 (onD d names) s_.2.1 (((0 : Nat)) : Int) o := by
 obtain ⟨h1, h2⟩ := Sg (L := ((Qu d)).1) (on := onD d names) (fs := s_.2.1) (g := Mq r names) (f := Jq r names) (e := Ko) (d := d) (fun k a s => by
  unfold Jq Mq
  cases Qy names a.1 <;> rfl) (fun j _ hj => by unfold onD at hj; unfold Mq; rw [hj]; rfl)
 rw [h1] at hy
 have e : (d.map fun a => ((a.1, Mq r names a) : Qr)) = o := Out.brk.inj hy
 rw [← e]; exact h2
end
theorem T0 (s_ : Ql) (d : (List Yd)) (r : (List Qr)) (names : (List ByteArray)) : ACalls Tryz.prog 85 [.a [.h s_.1, .h s_.2.1, .i s_.2.2], .h d, .h r, .h names] (.tup [(false, [.o 0 (((Yp s_ d r names)).1)]), (false, [.i (((Yp s_ d r names)).2.1)]), (false, [.b (((Yp s_ d r names)).2.2)])]) := by
 refine en Qb Tryz.func85 fun w0 F0 hG => ?_
 refine sn Qb [1, 2, 3, 4, 8, 9, 10] [4] (p0) ?_
 refine tn Qb [1, 2, 3, 4, 8, 9, 10, 11, 12] [4] (pc 1 (Rs d) p0) ?_
 refine Qe (Qe (mz [(4, .p 4 0), (8, .e 0), (9, .i 0), (10, .b false), (11, .o 1600 (((Qu d)).1)), (12, .b (((Qu d)).2))] [0] [(4, [.h s_.1, .h s_.2.1, .i s_.2.2])] [] ?_))
 refine jn [(34, .b ((!(((Qu d)).2)) || (!(Qz s_))))] [12] [] [] (!(((Qu d)).2)) (fun h1 => ?_) (fun h1 => ?_) ?_
 ·
  have h1n : (((Qu d)).2) = false := Vr h1
  refine ru Qb [(34, .b true)] [12] [] [] (pf 0 h1n (pe 1 (show .b (!false) = .b true from rfl) p0)) ?_
  exact ⟨rfl, Qd (by rw [h1]; first | done | kernel_rfl)⟩
 ·
  have h1n : (((Qu d)).2) = true := Ze h1
  have h1nsf := Ox h1n
  refine rn Qb [1, 2, 3, 4, 8, 9, 10, 11, 34] [4] (pt 0 h1n (pe 1 (show .b (!true) = .b false from rfl) (pc 4 (B8 s_) p0))) ?_
  exact ⟨rfl, Qd (by rw [h1]; first | done | kernel_rfl)⟩
 refine ck ((!(((Qu d)).2)) || (!(Qz s_))) (fun h2 => ?_) (fun h2 => ?_)
 ·
  refine su Qb [] [34] [] [] (p0) ?_
  refine opn [(false, 8, 0, true, 384000, 2)] ?_
  refine Qg ?_
  exact pz [] (show Yp s_ d r names = _ from Q6 h2 (rfl)) (fun z => .tup [(false, [.o 0 z.1]), (false, [.i z.2.1]), (false, [.b z.2.2])])
 have h2l : ((!(((Qu d)).2))) = false := Pw h2
 have h2ln : (((Qu d)).2) = true := Ze h2l
 have h2lnsf := Ox h2ln
 have h2r : ((!(Qz s_))) = false := Px h2
 have h2rn : (Qz s_) = true := Ze h2r
 refine Qh ?_
 refine sn Qb [1, 2, 3, 4, 8, 9, 10, 11, 13] [4] (p0) ?_
 refine Qe (tn Qb [1, 2, 3, 4, 8, 9, 10, 11, 13, 36, 37, 38] [4] (pl 1 d p0) ?_)
 refine mz [(13, .one (.slc (.own true 2240) 2 [])), (36, .h d), (37, .i (d.length : Int)), (38, .i 0)] [34] [] [] ?_
 refine wT 1 0 .sh d (fun hw3 hl4 => ?_)
 refine GN (Jq r names) Ko d [] (fun k0 s0 => [(13, .o 147208 s0), (38, .i ((k0 : Nat) : Int))]) [13, 38] (fun y0 => [(13, .o 147358 y0)]) [2, 13, 36, 37, 38] (fun k0 s0 => List.length s0 ≤ k0) (X2 [(2240, 147208)] (by kernel_rfl)) (by simp) (fun k0 s0 hk0 hI0 => ?_) (fun k0 s0 hk0 hI0 => ?_) (fun y0 hD0 => ?_)
 ·
  have hA0_0 := hI0.2
  obtain ⟨a0, hx0⟩ := Xm (l := d) (i := k0) hk0
  refine su Qb [(39, .b true)] [] [] [] (pe 0 (Qo (decide_eq_true (p := ((k0 : Nat) : Int) < (d.length : Int)) (by omega))) p0) ?_
  refine Qe (ckT ?_)
  refine Qh ?_
  refine Qe (Qs ?_)
  refine su Qb [(15, .p 15 0)] [39] [(15, [.s a0.1, .h a0.2])] [] (pn 0 hx0 p0) ?_
  refine su Qb [(16, .p 16 0)] [] [(16, [.s a0.1, .e 1])] [] (p0) ?_
  refine Qe (su Qb [(49, .b (!(Qy names a0.1)))] [] [] [] (pc 3 (Uv names a0.1) p0) ?_)
  refine ck (!(Qy names a0.1)) (fun h5 => ?_) (fun h5 => ?_)
  ·
   have h5n : (Qy names a0.1) = false := Vr h5
   refine rn Qb [1, 2, 3, 4, 8, 9, 10, 11, 13, 16, 36, 37, 38] [4, 16] (pc 3 (Ca r a0.1) p0) ?_
   refine wT 13 0 (.own true 147208) s0 (fun hw6 hl7 => ?_)
   refine qu Qb [(13, .one (.slc (.own true 3712) 2 ((eL s0) ++ [[.s a0.1, .h (Yb r a0.1)]])))] [13, 15, 16, 49] [] [15, 16] (pa s0 [(a0.1, (Yb r a0.1))] p0) ?_
   refine eqn [(13, .o 3712 (s0 ++ [(a0.1, (Yb r a0.1))]))] [13] [] [] (by rw [show ((eL s0) ++ [[.s a0.1, .h (Yb r a0.1)]]) = (eL (s0 ++ [(a0.1, (Yb r a0.1))])) from Kj (rfl) (rfl)]; first | done | kernel_rfl) ?_
   refine ru Qb [(38, .i ((k0 + 1 : Nat) : Int))] [38] [] [] (pe 0 (Jn (Qp k0 (by omega))) p0) ?_
   exact Exists.intro (s0 ++ [(a0.1, (Yb r a0.1))]) (And.intro (X2 [(3712, 147208)] (by kernel_rfl)) ⟨Qx hx0 (Q6 h5 (rfl)) hI0.1, by first | omega | (simp; omega) | simp⟩)
  have h5n : (Qy names a0.1) = true := Ze h5
  refine Qh ?_
  refine wT 13 0 (.own true 147208) s0 (fun hw8 hl9 => ?_)
  refine ru Qb [(13, .one (.slc (.own true 3712) 2 ((eL s0) ++ [[.s a0.1, .slc 1 []]])))] [13, 15, 16, 49] [] [15, 16] (pa s0 [((a0.1, []) : Qr)] p0) ?_
  refine eqn [(13, .o 3712 (s0 ++ [((a0.1, []) : Qr)]))] [13] [] [] (by rw [show ((eL s0) ++ [[.s a0.1, .slc 1 []]]) = (eL (s0 ++ [((a0.1, []) : Qr)])) from Kj (rfl) (rfl)]; first | done | kernel_rfl) ?_
  refine ru Qb [(38, .i ((k0 + 1 : Nat) : Int))] [38] [] [] (pe 0 (Jn (Qp k0 (by omega))) p0) ?_
  exact Exists.intro (s0 ++ [((a0.1, []) : Qr)]) (And.intro (X2 [(3712, 147208)] (by kernel_rfl)) ⟨Qx hx0 (Qm h5 (rfl)) hI0.1, by first | omega | (simp; omega) | simp⟩)
 ·
  have hA0_0 := hI0.2
  refine su Qb [(39, .b false)] [] [] [] (pe 0 (Qo (decide_eq_false (p := ((k0 : Nat) : Int) < (d.length : Int)) (by omega))) p0) ?_
  refine Qe (ckF ?_)
  refine Q5 ?_
  exact Exists.intro _ (And.intro (X2 [(147208, 147358)] (by kernel_rfl)) (Xn hk0 (rfl) hI0.1))
 refine su Qb [(17, .i 0)] [] [] [] (p0) ?_
 refine Qe (su Qb [(18, .i 0)] [] [] [] (p0) ?_)
 refine Qa6 (Js s_ d names) Av (Int.toNat ((Kk d) + 1)) (y0, 0) (fun k1 s1 => [(13, .o 147358 s1.1), (17, .i s1.2), (18, .i ((k1 : Nat) : Int))]) [13, 17, 18] (fun _ _ => []) [] (fun y1 => [(13, .o 147358 y1.1), (17, .i y1.2)]) [1, 3, 4, 11, 13, 17, 18] (fun _ => []) [4] (fun k1 s1 => EvS d ((Qu d)).1 (onD d names) s_.2.1 (((k1 : Nat)) : Int) s1.1 ∧ List.length s1.1 = List.length d) (Qd (by kernel_rfl)) ⟨(by first | exact Vu hD0 | exact Vu hD0.1 | exact D7 (fs := s_.2.1) (Vu hD0) | exact D7 (fs := s_.2.1) (Vu hD0.1)), (by first | exact Vu hD0 | exact Vu hD0.1 | exact D7 (fs := s_.2.1) (Vu hD0) | exact D7 (fs := s_.2.1) (Vu hD0.1))⟩ (fun k1 s1 hk1 hI1 => ?_) (fun k1 s1 hk1 hI1 => ?_) (fun y1 hD1 => ?_)
 ·
  have hA1_0 := hI1.2.1
  have hA1_1 := hI1.2.2
  refine Qe (su Qb [(63, .b true)] [] [] [] (pc 2 (It d) (pe 3 (Qo (decide_eq_true (p := ((k1 : Nat) : Int) ≤ (Kk d)) (by omega))) p0)) ?_)
  refine ckT ?_
  refine Qh ?_
  refine Qe (Qs ?_)
  refine su Qb [(19, .b true)] [63] [] [] (p0) ?_
  refine blw (fun (s2 : (List Qr) × Int × Bool) => [(13, .o 147358 s2.1), (17, .i s2.2.1), (19, .b s2.2.2)]) [13, 17, 19] (fun s2 => []) [] (fun (y2 : (List Qr) × Int) => [(13, .o 147358 y2.1), (17, .i y2.2)]) [13, 17, 19] (fun y2 => []) [] (fun (k2 : Nat) (s2 : (List Qr) × Int × Bool) => whl (Jc s_ d names k1) k2 s2 = some (Fp (Jc s_ d names k1) (List.length d * List.length s_.2.1 + 2) (s1.1, s1.2, true)) ∧ List.length s2.1 = List.length d) (fun (y2 : (List Qr) × Int) => (Fp (Jc s_ d names k1) (List.length d * List.length s_.2.1 + 2) (s1.1, s1.2, true)) = .brk y2) (List.length d * List.length s_.2.1 + 2) (s1.1, s1.2, true) (Qd (by kernel_rfl)) ⟨De (AC (by assumption) (by assumption)), (by assumption)⟩ (fun _ h => Ej h.1) (fun k2 s2 hI2 => ?_) (fun y2 hD2 => ?_)
  ·
   have hA2_0 := hI2.2
   refine Qe (su Qb [(66, .b s2.2.2)] [] [] [] (p0) ?_)
   refine ck s2.2.2 (fun h10 => ?_) (fun h10 => ?_)
   ·
    refine Qh ?_
    refine Qs ?_
    refine su Qb [(19, .b false)] [19, 66] [] [] (p0) ?_
    refine sn Qb [1, 3, 4, 8, 9, 10, 11, 13, 17, 18, 19] [4] (p0) ?_
    refine tn Qb [1, 3, 4, 8, 9, 10, 11, 13, 17, 18, 19, 69, 70, 71] [4] (pl 1 d p0) ?_
    refine mz [(17, .i (IntKind.i64.wrap (s2.2.1 + 1))), (69, .h d), (70, .i (d.length : Int)), (71, .i 0)] [17] [] [] ?_
    refine TJ (Jr s_ d names k1) Au d (s2.1, false) (fun k3 s3 => [(13, .o 147358 s3.1), (19, .b s3.2), (71, .i ((k3 : Nat) : Int))]) [13, 19, 71] (fun y3 => [(13, .o 147358 y3.1), (19, .b y3.2)]) [13, 19, 69, 70, 71] (fun _ s3 => List.length s3.1 = List.length s2.1) (fun y3 => List.length y3.1 = List.length s2.1) (Qd (by kernel_rfl)) (by simp) (fun k3 s3 hk3 hI3 => ?_) (fun k3 s3 hk3 hI3 => ?_) (fun y3 hD3 => ?_)
    ·
     have hA3_0 := hI3.2
     obtain ⟨a3, hx3⟩ := Xm (l := d) (i := k3) hk3
     refine su Qb [(72, .b true)] [] [] [] (pe 0 (Qo (decide_eq_true (p := ((k3 : Nat) : Int) < (d.length : Int)) (by omega))) p0) ?_
     refine Qe (ckT ?_)
     refine Qh ?_
     refine Qe (Qs ?_)
     refine sn Qb [1, 3, 4, 8, 9, 10, 11, 13, 17, 18, 19, 20, 21, 69, 70, 71] [4, 21] (pn 1 hx3 p0) ?_
     refine Qe (Qe (mz [(20, .i ((k3 : Nat) : Int)), (21, .p 21 0)] [72] [(21, [.s a3.1, .h a3.2])] [] ?_))
     refine jn [(88, .b (((nth (((Qu d)).1) k3) != ((k1 : Nat) : Int)) || (!(Qy names a3.1))))] [] [] [] ((nth (((Qu d)).1) k3) != ((k1 : Nat) : Int)) (fun h11 => ?_) (fun h11 => ?_) ?_
     ·
      have h11d := Oc h11
      refine wT 11 0 (.own true 1600) (((Qu d)).1) (fun hw13 hl14 => ?_)
      have hx12 := ng (((Qu d)).1) k3
      refine ru Qb [(88, .b true)] [] [] [] (pN 2 hx12 (pt 5 h11 p0)) ?_
      exact ⟨rfl, Qd (by rw [h11]; first | done | kernel_rfl)⟩
     ·
      have h11d := J3 h11
      refine wT 11 0 (.own true 1600) (((Qu d)).1) (fun hw16 hl17 => ?_)
      have hx15 := ng (((Qu d)).1) k3
      refine ru Qb [(88, .b (!(Qy names a3.1)))] [] [] [] (pN 2 hx15 (pf 5 h11 (pc 10 (Uv names a3.1) p0))) ?_
      exact ⟨rfl, Qd (by rw [h11]; first | done | kernel_rfl)⟩
     refine ck (((nth (((Qu d)).1) k3) != ((k1 : Nat) : Int)) || (!(Qy names a3.1))) (fun h18 => ?_) (fun h18 => ?_)
     ·
      refine Q5 ?_
      refine rn Qb [1, 3, 4, 8, 9, 10, 11, 13, 17, 18, 19, 69, 70, 71] [4] (pe 0 (Jn (Qp k3 (by omega))) p0) ?_
      exact Exists.intro (s3.1, s3.2) (And.intro (Qd (by kernel_rfl)) ⟨Qx hx3 (Q6 h18 (rfl)) hI3.1, (by first | omega | (simp only [List.length_set]; omega))⟩)
     have h18l : (((nth (((Qu d)).1) k3) != ((k1 : Nat) : Int))) = false := Pw h18
     have h18ld := J3 h18l
     have h18r : ((!(Qy names a3.1))) = false := Px h18
     have h18rn : (Qy names a3.1) = true := Ze h18r
     refine Qh ?_
     refine su Qb [(22, .o 5952 (X7 s_ a3.2 s3.1))] [21, 88] [] [21] (pc 4 (P4 s_ a3.2 s3.1) p0) ?_
     refine wT 13 0 (.own true 147358) s3.1 (fun hw20 hl21 => ?_)
     have hx19 := ng s3.1 k3
     refine sn Qb [1, 3, 4, 8, 9, 10, 11, 13, 17, 18, 19, 20, 22, 69, 70, 71, 101] [4] (pN 3 hx19 (pc 6 (C7 (X7 s_ a3.2 s3.1) ((nth s3.1 k3).2)) p0)) ?_
     refine ck (!(Y7 (X7 s_ a3.2 s3.1) ((nth s3.1 k3).2))) (fun h22 => ?_) (fun h22 => ?_)
     ·
      have h22n : (Y7 (X7 s_ a3.2 s3.1) ((nth s3.1 k3).2)) = false := Vr h22
      refine tu Qb [(13, .one (.slc (.own true 147358) 2 (setRow (eL s3.1) k3 1 [.h (X7 s_ a3.2 s3.1)])))] [13, 20, 22] [] [] (pN 3 hx19 p0) ?_
      refine eqn [(13, .o 147358 (List.set s3.1 k3 ((nth s3.1 k3).1, (X7 s_ a3.2 s3.1))))] [13] [] [] (by rw [Zw (y := ((nth s3.1 k3).1, (X7 s_ a3.2 s3.1))) hx19 rfl]; first | done | kernel_rfl) ?_
      refine ru Qb [(19, .b true)] [19] [] [] (p0) ?_
      refine ru Qb [(71, .i ((k3 + 1 : Nat) : Int))] [71] [] [] (pe 0 (Jn (Qp k3 (by omega))) p0) ?_
      exact Exists.intro (List.set s3.1 k3 ((nth s3.1 k3).1, (X7 s_ a3.2 s3.1)), true) (And.intro (Qd (by kernel_rfl)) ⟨Qx hx3 (Qm h18 (Q6 h22 (rfl))) hI3.1, (by first | omega | (simp only [List.length_set]; omega))⟩)
     have h22n : (Y7 (X7 s_ a3.2 s3.1) ((nth s3.1 k3).2)) = true := Ze h22
     refine Qh ?_
     refine qu Qb [(71, .i ((k3 + 1 : Nat) : Int))] [20, 22, 71] [] [] (pe 0 (Jn (Qp k3 (by omega))) p0) ?_
     exact Exists.intro (s3.1, s3.2) (And.intro (Qd (by kernel_rfl)) ⟨Qx hx3 (Qm h18 (Qm h22 (rfl))) hI3.1, (by first | omega | (simp only [List.length_set]; omega))⟩)
    ·
     have hA3_0 := hI3.2
     refine su Qb [(72, .b false)] [] [] [] (pe 0 (Qo (decide_eq_false (p := ((k3 : Nat) : Int) < (d.length : Int)) (by omega))) p0) ?_
     refine Qe (ckF ?_)
     refine Q5 ?_
     exact Exists.intro (s3.1, s3.2) (And.intro (Qd (by kernel_rfl)) ⟨Xn hk3 (rfl) hI3.1, by first | omega | (simp only [List.length_set]; omega)⟩)
    have hD3_0 := hD3.2
    exact Exists.intro (y3.1, IntKind.i64.wrap (s2.2.1 + 1), y3.2) (And.intro (Qd (by kernel_rfl)) ⟨wn hI2.1 (Q6 h10 (Wc hD3.1 (rfl))), (by first | omega | (simp only [List.length_set]; omega))⟩)
   refine Q5 ?_
   exact Exists.intro _ (And.intro (Qd (by kernel_rfl)) (wb hI2.1 (Qm h10 (rfl))))
  refine rn Qb [1, 3, 4, 8, 9, 10, 11, 13, 17, 18] [4] (pe 1 (Jn (Qp k1 (by omega))) p0) ?_
  exact Exists.intro (y2.1, y2.2) (And.intro (Qd (by kernel_rfl)) ⟨K0 hk1 (Wc hD2 (rfl)) hI1.1, (by first | exact Dg (by assumption) (by assumption) (by assumption) | exact D7 (fs := s_.2.1) (Dg (by assumption) (by assumption) (by assumption))), (by first | exact Dg (by assumption) (by assumption) (by assumption) | exact D7 (fs := s_.2.1) (Dg (by assumption) (by assumption) (by assumption)))⟩)
 ·
  have hA1_0 := hI1.2.1
  have hA1_1 := hI1.2.2
  refine Qe (su Qb [(63, .b false)] [] [] [] (pc 2 (It d) (pe 3 (Qo (decide_eq_false (p := ((k1 : Nat) : Int) ≤ (Kk d)) (by omega))) p0)) ?_)
  refine ckF ?_
  refine Q5 ?_
  exact Exists.intro _ (And.intro (Qd (by kernel_rfl)) (Bz hk1 (rfl) hI1.1))
 refine sn Qb [8, 9, 10] [] (p0) ?_
 refine Qg ?_
 exact pz [] (show Yp s_ d r names = _ from Qm h2 (Wc hD0 (Wc hD1 (rfl)))) (fun z => .tup [(false, [.o 0 z.1]), (false, [.i z.2.1]), (false, [.b z.2.2])])
def Z0 (s_ : Ql) (d : (List Yd)) : (List Qr) × Bool := (((Yp s_ d [] (Ys d))).1, ((Yp s_ d [] (Ys d))).2.2)
theorem QV (s_ : Ql) (d : (List Yd)) : ACalls Tryz.prog 52 [.a [.h s_.1, .h s_.2.1, .i s_.2.2], .h d] (.tup [(false, [.o 0 (((Z0 s_ d)).1)]), (false, [.b (((Z0 s_ d)).2)])]) := by
 refine en Qb Tryz.func52 fun w0 F0 hG => ?_
 refine sn Qb [1, 2, 4, 5] [2] (p0) ?_
 refine tN Qb Yo [4, 5, 6, 8] [] (pc 3 (QT d) (pc 4 (AA (.cons (ArgLe.rfl _) ( .cons (ArgLe.rfl _) ( .cons (ArgLe.nil 2) ( .cons (ArgLe.rfl _) (.nil))))) (T0 s_ d [] (Ys d))) p0)) ?_
 refine tu Qb [(4, .o 896 (((Yp s_ d [] (Ys d))).1)), (5, .b (((Yp s_ d [] (Ys d))).2.2))] [0, 1] [] [] (p0) ?_
 refine Qg ?_
 exact pz [] (show Z0 s_ d = (((Yp s_ d [] (Ys d))).1, ((Yp s_ d [] (Ys d))).2.2) from rfl) (fun z => .tup [(false, [.o 0 z.1]), (false, [.b z.2])])
def Wj (_ : Nat) (a0 : Int) (s0 : Int) : Rd (Int) (Int) (Int) := (bif decide (a0 > s0) then (.next a0) else (.next s0))
def H5 (_ : Nat) (s0 : Int) : Int := s0
def Vp (d : (List Yd)) : Int := (Out.on (Xp Wj H5 (((Xx d)).1) 0 (-1)) (fun y0 => y0))
theorem Iu (d : (List Yd)) : ACalls Tryz.prog 141 [.h d] (.i (Vp d)) := by
 refine en Qb Tryz.func141 fun w0 F0 hG => ?_
 refine sn Qb [0, 2] [] (p0) ?_
 refine tn Qb [2, 3] [] (pc 1 (Ll d) p0) ?_
 refine tu Qb [(2, .i 0), (3, .o 576 (((Xx d)).1)), (5, .i (-1))] [0] [] [] (p0) ?_
 refine Qe (sn Qb [2, 3, 5, 6] [] (p0) ?_)
 refine mz [(6, .i 0)] [] [] [] ?_
 refine wT 3 0 (.own true 576) (((Xx d)).1) (fun hw1 hl2 => ?_)
 refine L3 Wj H5 (((Xx d)).1) (-1) (fun k0 s0 => [(5, .i s0), (6, .i ((k0 : Nat) : Int))]) [5, 6] (fun y0 => [(5, .i y0)]) [3, 5, 6] (Qd (by kernel_rfl)) (fun k0 s0 hk0 hI0 => ?_) (fun k0 s0 hk0 hI0 => ?_) (fun y0 hD0 => ?_)
 ·
  obtain ⟨a0, hx0⟩ := Xm (l := ((Xx d)).1) (i := k0) hk0
  refine Qe (sn Qb [2, 3, 5, 6, 15] [] (pl 2 (((Xx d)).1) (pe 3 (Qo (decide_eq_true (p := ((k0 : Nat) : Int) < ((((Xx d)).1).length : Int)) (by omega))) p0)) ?_)
  refine ckT ?_
  refine Qh ?_
  refine Qe (Qs ?_)
  refine tn Qb [2, 3, 5, 6, 23] [] (pN 2 hx0 p0) ?_
  refine ck (decide (a0 > s0)) (fun h3 => ?_) (fun h3 => ?_)
  ·
   have h3d := of_decide_eq_true h3
   refine qu Qb [(5, .i a0)] [5] [] [] (pN 2 hx0 p0) ?_
   refine rn Qb [2, 3, 5, 6] [] (pe 1 (Jn (Qp k0 (by omega))) p0) ?_
   exact Exists.intro _ (And.intro (Qd (by kernel_rfl)) (Qx hx0 (Q6 h3 (rfl)) hI0))
  have h3d := of_decide_eq_false h3
  refine Qh ?_
  refine qu Qb [(6, .i ((k0 + 1 : Nat) : Int))] [6] [] [] (pe 1 (Jn (Qp k0 (by omega))) p0) ?_
  exact Exists.intro _ (And.intro (Qd (by kernel_rfl)) (Qx hx0 (Qm h3 (rfl)) hI0))
 ·
  refine Qe (sn Qb [2, 3, 5, 6, 15] [] (pl 2 (((Xx d)).1) (pe 3 (Qo (decide_eq_false (p := ((k0 : Nat) : Int) < ((((Xx d)).1).length : Int)) (by omega))) p0)) ?_)
  refine ckF ?_
  refine Q5 ?_
  exact Exists.intro _ (And.intro (Qd (by kernel_rfl)) (Xn hk0 (rfl) hI0))
 refine sn Qb [2] [] (p0) ?_
 refine Qg ?_
 exact pi [] (Wc hD0 (rfl))
def H6 (_ : Nat) (a0 : Yd) (s0 : (List Qr)) : Rd ((List Qr) × Int × Bool) ((List Qr)) ((List Qr)) := (.next (s0 ++ [((a0.1, []) : Qr)]))
def Cd (_ : Nat) (s0 : (List Qr)) : (List Qr) := s0
def W8 (s_ : Ql) (d : (List Yd)) (k1 : Nat) (k3 : Nat) (a3 : Yd) (s3 : (List Qr) × Bool) : Rd (Rd (Rd ((List Qr) × Int × Bool) ((List Qr) × Int) ((List Qr) × Int)) ((List Qr) × Int × Bool) ((List Qr) × Int)) ((List Qr) × Bool) ((List Qr) × Bool) := (bif ((nth (((Xx d)).1) k3) != ((k1 : Nat) : Int)) then (.next (s3.1, s3.2)) else (bif (!(Z4 (Zi s_ a3.2 s3.1) ((nth s3.1 k3).2))) then (.next (List.set s3.1 k3 ((nth s3.1 k3).1, (Zi s_ a3.2 s3.1)), true)) else (.next (s3.1, s3.2))))
def Es (_ : Nat) (s3 : (List Qr) × Bool) : (List Qr) × Bool := (s3.1, s3.2)
def We (s_ : Ql) (d : (List Yd)) (k1 : Nat) (s2 : (List Qr) × Int × Bool) : Rd (Rd ((List Qr) × Int × Bool) ((List Qr) × Int) ((List Qr) × Int)) ((List Qr) × Int × Bool) ((List Qr) × Int) := (bif s2.2.2 then (Out.on (Xp (W8 s_ d k1) Es d 0 (s2.1, false)) (fun y3 => (.next (y3.1, IntKind.i64.wrap (s2.2.1 + 1), y3.2)))) else (.brk (s2.1, s2.2.1)))
def Et (s_ : Ql) (d : (List Yd)) (k1 : Nat) (s1 : (List Qr) × Int) : Rd ((List Qr) × Int × Bool) ((List Qr) × Int) ((List Qr) × Int) := (Out.on (Fp (We s_ d k1) (List.length d * List.length s_.2.1 + 2) (s1.1, s1.2, true)) (fun y2 => (.next (y2.1, y2.2))))
def Oy (_ : Nat) (s1 : (List Qr) × Int) : (List Qr) × Int := (s1.1, s1.2)
def Wk (s_ : Ql) (d : (List Yd)) : (List Qr) × Int × Bool := (bif ((!(((Xx d)).2)) || (!(Qw s_))) then ([], 0, false) else (Out.on (Xp H6 Cd d 0 []) (fun y0 => (Out.on (Wd (Et s_ d) Oy (Int.toNat ((Vp d) + 1)) 0 (y0, 0)) (fun y1 => (y1.1, y1.2, true))))))
theorem AD {B : Int} : ∀ (x : List Int) (k : Nat) (s : Int), (∀ a, a ∈ x → a ≤ B) → s ≤ B → ∃ t, Xp Wj H5 x k s = .brk t ∧ t ≤ B
 | [], k, s, _, h => ⟨s, rfl, h⟩
 | a :: x, k, s, hx, h => by
  simp only [Xp, Wj]
  cases hc : decide (a > s) with
  | true => exact AD x (k + 1) a (fun b hb => hx b (List.mem_cons_of_mem _ hb)) (hx a (List.mem_cons_self ..))
  | false => exact AD x (k + 1) s (fun b hb => hx b (List.mem_cons_of_mem _ hb)) h
theorem Oz {d : List Yd} (h : ((Xx d)).2 = true) : List.length ((Xx d)).1 = List.length d ∧ List.length d ≤ 5 ∧ Vp d ≤ 5 := by
 have h' := h
 rw [Hs] at h'
 obtain ⟨h1, h2, h3⟩ := Fx h'
 unfold Vp
 rw [Hs]
 obtain ⟨t, e, ht⟩ := AD (B := 5) ((Qu d)).1 0 (-1) (fun a ha => (h3 a ha).2) (by omega)
 refine ⟨h1, h2, ?_⟩
 rw [e]; exact ht
theorem AE (s_ : Ql) (d : List Yd) (k1 : Nat) : OT s_ d (Qu d).1 (fun _ => true) (k1 : Int) (W8 s_ d k1) := by
 intro k a o c hk
 unfold W8 UO
 rw [JI, Hs, ← VY]
 simp only [bne]
 cases (nth (Qu d).1 k == (k1 : Int)) <;> rfl
section
variable {s_ : Ql} {d : List Yd} {k1 : Nat} {o : List Qr} {p : Int}
theorem YP (hS : ((Xx d)).2 = true) (h : EvS d ((Xx d)).1 (fun _ => true) s_.2.1 (k1 : Int) o) : ∃ o' p', whl (We s_ d k1) (List.length d * List.length s_.2.1 + 2) (o, p, true) = some (.brk (o', p')) ∧ EvS d ((Xx d)).1 (fun _ => true) s_.2.1 ((k1 : Int) + 1) o' := by
 rw [Hs] at hS h ⊢
 exact RJ (f := W8 s_ d k1) (e := Es) (AE s_ d k1) (fun _ _ => rfl) (fun _ => rfl) (Prod.ext rfl hS) h p
theorem OU (hS : ((Xx d)).2 = true) (h : EvS d ((Xx d)).1 (fun _ => true) s_.2.1 (((k1 : Nat)) : Int) o) : (whl (We s_ d k1) (List.length d * List.length s_.2.1 + 2) (o, p, true)).isSome = true := by
 obtain ⟨o', p', h1, _⟩ := YP (p := p) hS h
 rw [h1]; rfl
theorem Ic {y : List Qr × Int} (hS : ((Xx d)).2 = true) (h : EvS d ((Xx d)).1 (fun _ => true) s_.2.1 (((k1 : Nat)) : Int) o) (hy : Fp (We s_ d k1) (List.length d * List.length s_.2.1 + 2) (o, p, true) = .brk y) : EvS d ((Xx d)).1 (fun _ => true) s_.2.1 ((((k1 + 1) : Nat)) : Int) y.1 := by
 obtain ⟨o', p', h1, h2⟩ := YP (p := p) hS h
 unfold Fp at hy
 rw [h1] at hy
 have e : (o', p') = y := by simpa using hy
 rw [← e, Int.natCast_add]; exact h2
theorem Ur (hy : Xp H6 Cd d 0 [] = .brk o) : EvS d ((Xx d)).1 (fun _ => true) s_.2.1 (((0 : Nat)) : Int) o := by
 obtain ⟨h1, h2⟩ := Sg (L := ((Xx d)).1) (on := fun _ => true) (fs := s_.2.1) (g := fun _ => []) (f := H6) (e := Cd) (d := d) (fun k a s => rfl) (fun j _ hj => rfl)
 rw [h1] at hy
 have e : (d.map fun a => ((a.1, ([] : List Int)) : Qr)) = o := Out.brk.inj hy
 rw [← e]; exact h2
end
theorem WD (s_ : Ql) (d : (List Yd)) : ACalls Tryz.prog 98 [.a [.h s_.1, .h s_.2.1, .i s_.2.2], .h d] (.tup [(false, [.o 0 (((Wk s_ d)).1)]), (false, [.i (((Wk s_ d)).2.1)]), (false, [.b (((Wk s_ d)).2.2)])]) := by
 refine en Qb Tryz.func98 fun w0 F0 hG => ?_
 refine sn Qb [1, 2, 4, 5, 6] [2] (p0) ?_
 refine tn Qb [1, 2, 4, 5, 6, 7, 8] [2] (pc 1 (Ll d) p0) ?_
 refine Qe (Qe (mz [(2, .p 2 0), (4, .e 0), (5, .i 0), (6, .b false), (7, .o 1152 (((Xx d)).1)), (8, .b (((Xx d)).2))] [0] [(2, [.h s_.1, .h s_.2.1, .i s_.2.2])] [] ?_))
 refine jn [(27, .b ((!(((Xx d)).2)) || (!(Qw s_))))] [8] [] [] (!(((Xx d)).2)) (fun h1 => ?_) (fun h1 => ?_) ?_
 ·
  have h1n : (((Xx d)).2) = false := Vr h1
  refine ru Qb [(27, .b true)] [8] [] [] (pf 0 h1n (pe 1 (show .b (!false) = .b true from rfl) p0)) ?_
  exact ⟨rfl, Qd (by rw [h1]; first | done | kernel_rfl)⟩
 ·
  have h1n : (((Xx d)).2) = true := Ze h1
  have h1nsf := Oz h1n
  refine rn Qb [1, 2, 4, 5, 6, 7, 27] [2] (pt 0 h1n (pe 1 (show .b (!true) = .b false from rfl) (pc 4 (Za s_) p0))) ?_
  exact ⟨rfl, Qd (by rw [h1]; first | done | kernel_rfl)⟩
 refine ck ((!(((Xx d)).2)) || (!(Qw s_))) (fun h2 => ?_) (fun h2 => ?_)
 ·
  refine sn Qb [1, 2, 4, 5, 6, 7] [2] (p0) ?_
  refine Qg ?_
  exact pz [] (show Wk s_ d = _ from Q6 h2 (rfl)) (fun z => .tup [(false, [.o 0 z.1]), (false, [.i z.2.1]), (false, [.b z.2.2])])
 have h2l : ((!(((Xx d)).2))) = false := Pw h2
 have h2ln : (((Xx d)).2) = true := Ze h2l
 have h2lnsf := Oz h2ln
 have h2r : ((!(Qw s_))) = false := Px h2
 have h2rn : (Qw s_) = true := Ze h2r
 refine Qh ?_
 refine sn Qb [1, 2, 4, 5, 6, 7, 9] [2] (p0) ?_
 refine Qe (tn Qb [1, 2, 4, 5, 6, 7, 9, 10] [2] (p0) ?_)
 refine mz [(9, .one (.slc (.own true 1856) 2 [])), (10, .i 0)] [27] [] [] ?_
 refine wT 1 0 .sh d (fun hw3 hl4 => ?_)
 refine GN H6 Cd d [] (fun k0 s0 => [(9, .o 147206 s0), (10, .i ((k0 : Nat) : Int))]) [9, 10] (fun y0 => [(9, .o 147356 y0)]) [9, 10] (fun k0 s0 => List.length s0 ≤ k0) (X2 [(1856, 147206)] (by kernel_rfl)) (by simp) (fun k0 s0 hk0 hI0 => ?_) (fun k0 s0 hk0 hI0 => ?_) (fun y0 hD0 => ?_)
 ·
  have hA0_0 := hI0.2
  obtain ⟨a0, hx0⟩ := Xm (l := d) (i := k0) hk0
  refine Qe (su Qb [(33, .b true)] [] [] [] (pl 2 d (pe 3 (Qo (decide_eq_true (p := ((k0 : Nat) : Int) < (d.length : Int)) (by omega))) p0)) ?_)
  refine ckT ?_
  refine Qh ?_
  refine Qe (Qs ?_)
  refine wT 9 0 (.own true 147206) s0 (fun hw5 hl6 => ?_)
  refine ru Qb [(9, .one (.slc (.own true 2880) 2 ((eL s0) ++ [[.s a0.1, .slc 1 []]])))] [9, 33] [] [] (pn 3 hx0 (pa s0 [((a0.1, []) : Qr)] p0)) ?_
  refine eqn [(9, .o 2880 (s0 ++ [((a0.1, []) : Qr)]))] [9] [] [] (by rw [show ((eL s0) ++ [[.s a0.1, .slc 1 []]]) = (eL (s0 ++ [((a0.1, []) : Qr)])) from Kj (rfl) (rfl)]; first | done | kernel_rfl) ?_
  refine rn Qb [1, 2, 4, 5, 6, 7, 9, 10] [2] (pe 1 (Jn (Qp k0 (by omega))) p0) ?_
  exact Exists.intro (s0 ++ [((a0.1, []) : Qr)]) (And.intro (X2 [(2880, 147206)] (by kernel_rfl)) ⟨Qx hx0 (rfl) hI0.1, by first | omega | (simp; omega) | simp⟩)
 ·
  have hA0_0 := hI0.2
  refine Qe (su Qb [(33, .b false)] [] [] [] (pl 2 d (pe 3 (Qo (decide_eq_false (p := ((k0 : Nat) : Int) < (d.length : Int)) (by omega))) p0)) ?_)
  refine ckF ?_
  refine Q5 ?_
  exact Exists.intro _ (And.intro (X2 [(147206, 147356)] (by kernel_rfl)) (Xn hk0 (rfl) hI0.1))
 refine su Qb [(11, .i 0)] [] [] [] (p0) ?_
 refine Qe (su Qb [(12, .i 0)] [] [] [] (p0) ?_)
 refine Qa6 (Et s_ d) Oy (Int.toNat ((Vp d) + 1)) (y0, 0) (fun k1 s1 => [(9, .o 147356 s1.1), (11, .i s1.2), (12, .i ((k1 : Nat) : Int))]) [9, 11, 12] (fun _ _ => []) [] (fun y1 => [(9, .o 147356 y1.1), (11, .i y1.2)]) [1, 2, 7, 9, 11, 12] (fun _ => []) [2] (fun k1 s1 => EvS d ((Xx d)).1 (fun _ => true) s_.2.1 (((k1 : Nat)) : Int) s1.1 ∧ List.length s1.1 = List.length d) (Qd (by kernel_rfl)) ⟨(by first | exact Ur hD0 | exact Ur hD0.1 | exact D7 (fs := s_.2.1) (Ur hD0) | exact D7 (fs := s_.2.1) (Ur hD0.1)), (by first | exact Ur hD0 | exact Ur hD0.1 | exact D7 (fs := s_.2.1) (Ur hD0) | exact D7 (fs := s_.2.1) (Ur hD0.1))⟩ (fun k1 s1 hk1 hI1 => ?_) (fun k1 s1 hk1 hI1 => ?_) (fun y1 hD1 => ?_)
 ·
  have hA1_0 := hI1.2.1
  have hA1_1 := hI1.2.2
  refine Qe (su Qb [(49, .b true)] [] [] [] (pc 2 (Iu d) (pe 3 (Qo (decide_eq_true (p := ((k1 : Nat) : Int) ≤ (Vp d)) (by omega))) p0)) ?_)
  refine ckT ?_
  refine Qh ?_
  refine Qe (Qs ?_)
  refine su Qb [(13, .b true)] [49] [] [] (p0) ?_
  refine blw (fun (s2 : (List Qr) × Int × Bool) => [(9, .o 147356 s2.1), (11, .i s2.2.1), (13, .b s2.2.2)]) [9, 11, 13] (fun s2 => []) [] (fun (y2 : (List Qr) × Int) => [(9, .o 147356 y2.1), (11, .i y2.2)]) [9, 11, 13] (fun y2 => []) [] (fun (k2 : Nat) (s2 : (List Qr) × Int × Bool) => whl (We s_ d k1) k2 s2 = some (Fp (We s_ d k1) (List.length d * List.length s_.2.1 + 2) (s1.1, s1.2, true)) ∧ List.length s2.1 = List.length d) (fun (y2 : (List Qr) × Int) => (Fp (We s_ d k1) (List.length d * List.length s_.2.1 + 2) (s1.1, s1.2, true)) = .brk y2) (List.length d * List.length s_.2.1 + 2) (s1.1, s1.2, true) (Qd (by kernel_rfl)) ⟨De (OU (by assumption) (by assumption)), (by assumption)⟩ (fun _ h => Ej h.1) (fun k2 s2 hI2 => ?_) (fun y2 hD2 => ?_)
  ·
   have hA2_0 := hI2.2
   refine Qe (su Qb [(52, .b s2.2.2)] [] [] [] (p0) ?_)
   refine ck s2.2.2 (fun h7 => ?_) (fun h7 => ?_)
   ·
    refine Qh ?_
    refine Qs ?_
    refine su Qb [(13, .b false)] [13, 52] [] [] (p0) ?_
    refine sn Qb [1, 2, 4, 5, 6, 7, 9, 11, 12, 13] [2] (p0) ?_
    refine tn Qb [1, 2, 4, 5, 6, 7, 9, 11, 12, 13, 14] [2] (p0) ?_
    refine mz [(11, .i (IntKind.i64.wrap (s2.2.1 + 1))), (14, .i 0)] [11] [] [] ?_
    refine TJ (W8 s_ d k1) Es d (s2.1, false) (fun k3 s3 => [(9, .o 147356 s3.1), (13, .b s3.2), (14, .i ((k3 : Nat) : Int))]) [9, 13, 14] (fun y3 => [(9, .o 147356 y3.1), (13, .b y3.2)]) [9, 13, 14] (fun _ s3 => List.length s3.1 = List.length s2.1) (fun y3 => List.length y3.1 = List.length s2.1) (Qd (by kernel_rfl)) (by simp) (fun k3 s3 hk3 hI3 => ?_) (fun k3 s3 hk3 hI3 => ?_) (fun y3 hD3 => ?_)
    ·
     have hA3_0 := hI3.2
     obtain ⟨a3, hx3⟩ := Xm (l := d) (i := k3) hk3
     refine Qe (su Qb [(58, .b true)] [] [] [] (pl 2 d (pe 3 (Qo (decide_eq_true (p := ((k3 : Nat) : Int) < (d.length : Int)) (by omega))) p0)) ?_)
     refine ckT ?_
     refine Qh ?_
     refine Qe (Qs ?_)
     refine Qe ?_
     refine wT 7 0 (.own true 1152) (((Xx d)).1) (fun hw9 hl10 => ?_)
     have hx8 := ng (((Xx d)).1) k3
     refine sn Qb [1, 2, 4, 5, 6, 7, 9, 11, 12, 13, 14, 66] [2] (pN 2 hx8 p0) ?_
     refine ck ((nth (((Xx d)).1) k3) != ((k1 : Nat) : Int)) (fun h11 => ?_) (fun h11 => ?_)
     ·
      have h11d := Oc h11
      refine Q5 ?_
      refine qn Qb [1, 2, 4, 5, 6, 7, 9, 11, 12, 13, 14] [2] (pe 1 (Jn (Qp k3 (by omega))) p0) ?_
      exact Exists.intro (s3.1, s3.2) (And.intro (Qd (by kernel_rfl)) ⟨Qx hx3 (Q6 h11 (rfl)) hI3.1, (by first | omega | (simp only [List.length_set]; omega))⟩)
     have h11d := J3 h11
     refine Qh ?_
     refine tN Qb Yo [1, 2, 4, 5, 6, 7, 9, 11, 12, 13, 14, 15] [2] (pn 3 hx3 (pc 7 (P5 s_ a3.2 s3.1) p0)) ?_
     refine wT 9 0 (.own true 147356) s3.1 (fun hw13 hl14 => ?_)
     have hx12 := ng s3.1 k3
     refine tu Qb [(15, .o 4736 (Zi s_ a3.2 s3.1)), (82, .b (!(Z4 (Zi s_ a3.2 s3.1) ((nth s3.1 k3).2))))] [58] [] [] (pN 3 hx12 (pc 6 (G9 (Zi s_ a3.2 s3.1) ((nth s3.1 k3).2)) p0)) ?_
     refine ck (!(Z4 (Zi s_ a3.2 s3.1) ((nth s3.1 k3).2))) (fun h15 => ?_) (fun h15 => ?_)
     ·
      have h15n : (Z4 (Zi s_ a3.2 s3.1) ((nth s3.1 k3).2)) = false := Vr h15
      refine su Qb [(9, .one (.slc (.own true 147356) 2 (setRow (eL s3.1) k3 1 [.h (Zi s_ a3.2 s3.1)])))] [9, 15, 82] [] [] (pN 3 hx12 p0) ?_
      refine eqn [(9, .o 147356 (List.set s3.1 k3 ((nth s3.1 k3).1, (Zi s_ a3.2 s3.1))))] [9] [] [] (by rw [Zw (y := ((nth s3.1 k3).1, (Zi s_ a3.2 s3.1))) hx12 rfl]; first | done | kernel_rfl) ?_
      refine ru Qb [(13, .b true)] [13] [] [] (p0) ?_
      refine rn Qb [1, 2, 4, 5, 6, 7, 9, 11, 12, 13, 14] [2] (pe 1 (Jn (Qp k3 (by omega))) p0) ?_
      exact Exists.intro (List.set s3.1 k3 ((nth s3.1 k3).1, (Zi s_ a3.2 s3.1)), true) (And.intro (Qd (by kernel_rfl)) ⟨Qx hx3 (Qm h11 (Q6 h15 (rfl))) hI3.1, (by first | omega | (simp only [List.length_set]; omega))⟩)
     have h15n : (Z4 (Zi s_ a3.2 s3.1) ((nth s3.1 k3).2)) = true := Ze h15
     refine Qh ?_
     refine rn Qb [1, 2, 4, 5, 6, 7, 9, 11, 12, 13, 14] [2] (pe 1 (Jn (Qp k3 (by omega))) p0) ?_
     exact Exists.intro (s3.1, s3.2) (And.intro (Qd (by kernel_rfl)) ⟨Qx hx3 (Qm h11 (Qm h15 (rfl))) hI3.1, (by first | omega | (simp only [List.length_set]; omega))⟩)
    ·
     have hA3_0 := hI3.2
     refine Qe (su Qb [(58, .b false)] [] [] [] (pl 2 d (pe 3 (Qo (decide_eq_false (p := ((k3 : Nat) : Int) < (d.length : Int)) (by omega))) p0)) ?_)
     refine ckF ?_
     refine Q5 ?_
     exact Exists.intro (s3.1, s3.2) (And.intro (Qd (by kernel_rfl)) ⟨Xn hk3 (rfl) hI3.1, by first | omega | (simp only [List.length_set]; omega)⟩)
    have hD3_0 := hD3.2
    exact Exists.intro (y3.1, IntKind.i64.wrap (s2.2.1 + 1), y3.2) (And.intro (Qd (by kernel_rfl)) ⟨wn hI2.1 (Q6 h7 (Wc hD3.1 (rfl))), (by first | omega | (simp only [List.length_set]; omega))⟩)
   refine Q5 ?_
   exact Exists.intro _ (And.intro (Qd (by kernel_rfl)) (wb hI2.1 (Qm h7 (rfl))))
  refine rn Qb [1, 2, 4, 5, 6, 7, 9, 11, 12] [2] (pe 1 (Jn (Qp k1 (by omega))) p0) ?_
  exact Exists.intro (y2.1, y2.2) (And.intro (Qd (by kernel_rfl)) ⟨K0 hk1 (Wc hD2 (rfl)) hI1.1, (by first | exact Ic (by assumption) (by assumption) (by assumption) | exact D7 (fs := s_.2.1) (Ic (by assumption) (by assumption) (by assumption))), (by first | exact Ic (by assumption) (by assumption) (by assumption) | exact D7 (fs := s_.2.1) (Ic (by assumption) (by assumption) (by assumption)))⟩)
 ·
  have hA1_0 := hI1.2.1
  have hA1_1 := hI1.2.2
  refine Qe (su Qb [(49, .b false)] [] [] [] (pc 2 (Iu d) (pe 3 (Qo (decide_eq_false (p := ((k1 : Nat) : Int) ≤ (Vp d)) (by omega))) p0)) ?_)
  refine ckF ?_
  refine Q5 ?_
  exact Exists.intro _ (And.intro (Qd (by kernel_rfl)) (Bz hk1 (rfl) hI1.1))
 refine sn Qb [4, 5, 6] [] (p0) ?_
 refine Qg ?_
 exact pz [] (show Wk s_ d = _ from Qm h2 (Wc hD0 (Wc hD1 (rfl)))) (fun z => .tup [(false, [.o 0 z.1]), (false, [.i z.2.1]), (false, [.b z.2.2])])
def Hv (s_ : Ql) (d : (List Yd)) : (List Qr) × Bool := (((Wk s_ d)).1, ((Wk s_ d)).2.2)
theorem QW (s_ : Ql) (d : (List Yd)) : ACalls Tryz.prog 61 [.a [.h s_.1, .h s_.2.1, .i s_.2.2], .h d] (.tup [(false, [.o 0 (((Hv s_ d)).1)]), (false, [.b (((Hv s_ d)).2)])]) := by
 refine en Qb Tryz.func61 fun w0 F0 hG => ?_
 refine sn Qb [1, 2, 4, 5] [2] (p0) ?_
 refine tn Qb [4, 5, 6, 8] [] (pc 2 (WD s_ d) p0) ?_
 refine tu Qb [(4, .o 768 (((Wk s_ d)).1)), (5, .b (((Wk s_ d)).2.2))] [0, 1] [] [] (p0) ?_
 refine Qg ?_
 exact pz [] (show Hv s_ d = (((Wk s_ d)).1, ((Wk s_ d)).2.2) from rfl) (fun z => .tup [(false, [.o 0 z.1]), (false, [.b z.2])])
end Go.Proofs.YtkbfhiamdcoieaaGreatDoor
namespace Go.Proofs.YtkbfhiamdcoieaaGreatDoor
open Go.RowKit
theorem Ln (v : ByteArray) (l : List ByteArray) : Qy l v = true ↔ v ∈ l := by
  unfold Qy Hb
  have key : ∀ (l : List ByteArray) (k : Nat), (0 : Int) ≤ ((Xp (Vt v) W6 l k ()).on fun _ => -1) ↔ v ∈ l := by
    intro l
    induction l with
    | nil => intro k; simp [Xp, Out.on]
    | cons a l ih =>
      intro k
      simp only [Xp, Vt]
      have hab : (v.toList == a.toList) = decide (v = a) := toList_inj
      cases hc : (v.toList == a.toList) with
      | true =>
        obtain rfl : v = a := by rw [hc] at hab; exact of_decide_eq_true hab.symm
        simp [Out.on]
      | false =>
        have h : v ≠ a := by rw [hc] at hab; exact of_decide_eq_false hab.symm
        simp only [cond_false]
        refine (ih (k + 1)).trans ?_
        simp [h]
  exact decide_eq_true_iff.trans (key l 0)
theorem AF (d : List Yd) : Ys d = d.map (·.1) := by
  unfold Ys
  rw [Sa (f := Fh) (g := fun a : Yd => a.1) (fun _ _ _ => rfl)]
  simp [Out.on, Fi]
theorem Lo {d : List Yd} {i : Nat} {a : Yd} (h : d[i]? = some a) : Qy (Ys d) a.1 = true := by
  rw [Ln, AF]
  exact List.mem_map.2 ⟨a, List.mem_of_getElem? h, rfl⟩
/-! ### the greatest stratum -/
theorem CT (x : List Int) : ∀ (n k : Nat) (s : Int), k + 1 + n = x.length → Wd (Ww x) Ar n k s = .brk ((x.drop (k + 1)).foldl max s)
  | 0, k, s, h => by rw [List.drop_eq_nil_of_le (by omega)]; rfl
  | n + 1, k, s, h => by
    have hg : x[k + 1]? = some (nth x (k + 1)) := K9 (by omega)
    rw [M8 hg]
    simp only [Wd, Ww, List.foldl_cons]
    exact CT x n (k + 1) _ (by omega)
theorem T1 : ∀ (x : List Int) (k : Nat) (s : Int), Xp Wj H5 x k s = .brk (x.foldl max s)
  | [], k, s => rfl
  | a :: x, k, s => by
    simp only [Xp, Wj, List.foldl_cons]
    by_cases h : a > s
    · rw [decide_eq_true h, cond_true, show max s a = a by omega]; exact T1 x (k + 1) a
    rw [decide_eq_false h, cond_false, show max s a = s by omega]; exact T1 x (k + 1) s
theorem JL (d : List Yd) : Vp d = Kk d := by
  unfold Vp Kk
  rw [Hs, T1]
  simp only [Out.on]
  cases hs : (Qu d).2 with
  | false =>
    have : (Qu d).1 = [] := by
      unfold Qu at hs ⊢
      cases hv : Jp d with
      | false => rfl
      | true =>
        rw [hv] at hs
        simp only [Bool.not_true, cond_false] at hs ⊢
        have h5 := Fe hv
        have hw := Gm (d := d) (f := W3 d) (e := W4) (F := Vm d) (fun _ _ _ => rfl) (fun _ _ => rfl) (fun _ => rfl) (by omega) (d.length * d.length + 3) (List.replicate d.length 0) true (Aq _).1 (Aq _).2
        have hsome : (Py (J0 d) d.length d.length (d.length * d.length + 3) (true, List.replicate d.length 0)).isSome = true := by
          have := Dv d h5
          rw [Int.toNat_natCast, hw, Option.isSome_map] at this
          exact this
        obtain ⟨r, hr⟩ := Option.isSome_iff_exists.1 hsome
        unfold Fp at hs ⊢
        rw [Int.toNat_natCast, hw, hr] at hs ⊢
        cases r with
        | none => rfl
        | some M => simp [Qat, Out.on] at hs
    rw [this]; rfl
  | true =>
    obtain ⟨h1, h2, h3⟩ := Fx hs
    simp only [Bool.not_true, Bool.false_or]
    generalize (Qu d).1 = x at h3
    cases x with
    | nil => rfl
    | cons a x =>
      have h0 := (h3 a (List.mem_cons_self ..)).1
      have e : ((((a :: x).length : Nat) : Int) == (0 : Int)) = false := by
        rw [beq_eq_false_iff_ne, List.length_cons]; omega
      rw [e, cond_false]
      unfold Ep
      rw [CT _ _ _ _ (by simp; omega)]
      simp only [Out.on, List.foldl_cons, Nat.zero_add, List.drop_succ_cons, List.drop_zero]
      have e2 : nth (a :: x) 0 = a := rfl
      rw [show max (-1) a = a by omega, e2]
/-! ### the evaluation -/
theorem Qbk (s : Ql) (d : List Yd) (k1 k : Nat) (a : Yd) (t : List Qr × Bool) (h : d[k]? = some a) : W8 s d k1 k a t = Jr s d (Ys d) k1 k a t := by
  unfold W8 Jr
  rw [Lo h, Hs, ← VY, JI, JK]
  simp
theorem Qbl (s : Ql) (d : List Yd) (k1 : Nat) : We s d k1 = Jc s d (Ys d) k1 := by
  funext t
  unfold We Jc
  rw [Ex (f := W8 s d k1) (g := Jr s d (Ys d) k1) (e := Es) (e' := Au) (fun _ _ => rfl) d 0 _ (fun i a t h => by rw [Nat.zero_add]; exact Qbk s d k1 i a t h)]
theorem Qbm (s : Ql) (d : List Yd) : Wk s d = Yp s d [] (Ys d) := by
  unfold Wk Yp
  rw [Hs, Ib, JL]
  rw [Ex (f := H6) (g := Jq [] (Ys d)) (e := Cd) (e' := Ko) (fun _ _ => rfl) d 0 _ (fun i a t h => by unfold H6 Jq; rw [Lo h]; rfl)]
  congr 1
  congr 1
  funext y
  rw [show Et s d = Js s d (Ys d) from by funext k t; unfold Et Js; rw [Qbl]]
  rfl
theorem AG (s : Ql) (d : List Yd) : Hv s d = Z0 s d := by
  unfold Hv Z0
  rw [Qbm]
theorem WE {s : Ql} {d : List Yd} {names : List ByteArray} {r : List Qr} (h : (Yp s d r names).2.2 = true) : List.length d ≤ 5 ∧ Qz s = true ∧ (Yp s d r names).1.map (·.1) = d.map (·.1) ∧ ∀ j, j < d.length → onD d names j = true → ∃ p : Q9 → Bool, (nth (Yp s d r names).1 j).2 = sel s.2.1 (fun f => f.1) p := by
  unfold Yp at h ⊢
  cases hc : ((!(((Qu d)).2)) || (!(Qz s))) with
  | true => rw [hc] at h; simp at h
  | false =>
    have hs : ((Qu d)).2 = true := Ze (Pw hc)
    have hv : Qz s = true := Ze (Px hc)
    simp only [cond_false]
    obtain ⟨h1, h2⟩ := Sg (L := ((Qu d)).1) (on := onD d names) (fs := s.2.1) (g := Mq r names) (f := Jq r names) (e := Ko) (d := d) (fun k a s => by
      unfold Jq Mq
      cases Qy names a.1 <;> rfl) (fun j _ hj => by unfold onD at hj; unfold Mq; rw [hj]; rfl)
    rw [h1]
    have key : ∀ (n k : Nat) (o : List Qr) (p : Int), EvS d ((Qu d)).1 (onD d names) s.2.1 (((k : Nat)) : Int) o → ∃ o' p', Wd (Js s d names) Av n k (o, p) = .brk (o', p') ∧ EvS d ((Qu d)).1 (onD d names) s.2.1 (((k + n : Nat)) : Int) o' := by
      intro n
      induction n with
      | zero => intro k o p ho; exact ⟨o, p, rfl, ho⟩
      | succ n ih =>
        intro k o p ho
        obtain ⟨o1, p1, g1, g2⟩ := Er (p := p) hs ho
        obtain ⟨o2, p2, g3, g4⟩ := ih (k + 1) o1 p1 (by rw [Int.natCast_add]; exact g2)
        refine ⟨o2, p2, ?_, by rw [show k + (n + 1) = k + 1 + n by omega]; exact g4⟩
        simp only [Wd]
        unfold Js Fp
        rw [g1]
        exact g3
    obtain ⟨o, p, g1, g2⟩ := key (Int.toNat (Kk d + 1)) 0 _ 0 h2
    simp only [Out.on, Ko]
    rw [g1]
    exact ⟨(Fx hs).2.1, hv, g2.names, fun j hj hon => g2.some_ j hj hon⟩
theorem T2 {s : Ql} {d : List Yd} (h : (Z0 s d).2 = true) : List.length d ≤ 5 ∧ Qz s = true ∧ (Z0 s d).1.map (·.1) = d.map (·.1) ∧ ∀ x, x ∈ (Z0 s d).1 → ∃ p : Q9 → Bool, x.2 = sel s.2.1 (fun f => f.1) p := by
  unfold Z0 at h ⊢
  obtain ⟨h1, h2, h3, h4⟩ := WE h
  refine ⟨h1, h2, h3, fun x hx => ?_⟩
  obtain ⟨i, hi⟩ := List.getElem?_of_mem hx
  have hlen : (Yp s d [] (Ys d)).1.length = d.length := by have := congrArg List.length h3; simpa using this
  have hi' : i < (Yp s d [] (Ys d)).1.length := (List.getElem?_eq_some_iff.1 hi).1
  have hil : i < d.length := by omega
  have := h4 i hil (by unfold onD; exact Lo (K9 hil))
  rw [Ip hi] at this
  exact this
theorem T3 {s : Ql} {d : List Yd} (h : (Z0 s d).2 = false) : (Z0 s d).1 = [] := by
  unfold Z0 at h ⊢
  unfold Yp at h ⊢
  cases hc : ((!(((Qu d)).2)) || (!(Qz s))) with
  | true => rfl
  | false =>
    exfalso
    have hs : ((Qu d)).2 = true := Ze (Pw hc)
    rw [hc] at h
    simp only [cond_false] at h
    obtain ⟨h1, h2⟩ := Sg (L := ((Qu d)).1) (on := onD d (Ys d)) (fs := s.2.1) (g := Mq [] (Ys d)) (f := Jq [] (Ys d)) (e := Ko) (d := d) (fun k a s => by
      unfold Jq Mq
      cases Qy (Ys d) a.1 <;> rfl) (fun j _ hj => by unfold onD at hj; unfold Mq; rw [hj]; rfl)
    rw [h1] at h
    have key : ∀ (n k : Nat) (o : List Qr) (p : Int), EvS d ((Qu d)).1 (onD d (Ys d)) s.2.1 (((k : Nat)) : Int) o → ∃ y, Wd (Js s d (Ys d)) Av n k (o, p) = .brk y := by
      intro n
      induction n with
      | zero => intro k o p ho; exact ⟨_, rfl⟩
      | succ n ih =>
        intro k o p ho
        obtain ⟨o1, p1, g1, g2⟩ := Er (p := p) hs ho
        obtain ⟨y, g3⟩ := ih (k + 1) o1 p1 (by rw [Int.natCast_add]; exact g2)
        refine ⟨y, ?_⟩
        simp only [Wd]
        unfold Js Fp
        rw [g1]
        exact g3
    obtain ⟨y, g1⟩ := key (Int.toNat (Kk d + 1)) 0 _ 0 h2
    simp only [Out.on, Ko] at h
    rw [g1] at h
    cases h
end Go.Proofs.YtkbfhiamdcoieaaGreatDoor
namespace Go.Proofs.YtkbfhiamdcoieaaGreatDoor
open Go.RowKit
end Go.Proofs.YtkbfhiamdcoieaaGreatDoor
namespace Go.Proofs.YtkbfhiamdcoieaaGreatDoor
open Go.RowKit
section
variable {P : Program} {N : Nat} {w0 : Base} {F0 : Nat → Prop} {J : Inj} {a : Act} {w : World} {s : St} {Q : Exit → St → Prop}
end
end Go.Proofs.YtkbfhiamdcoieaaGreatDoor
namespace Go.Proofs.YtkbfhiamdcoieaaGreatDoor
open Go.RowKit
section
variable {P : Program}
structure RowAt (w : World) (n : Nat) (oa : Option Addr) (m cap : Nat) (olds : List Value) : Prop where
  len : olds.length = m * n
  row : (oa = oa ∧ m = 0 ∧ cap = 0) ∨ ∃ g cur e, oa = some ⟨g, 0, none⟩ ∧ w.heap[g]? = some (.cells cur e (0, 0)) ∧ cur.size = cap * n ∧ cur.toList.take (m * n) = olds
  le : m ≤ cap
  cap : cap ≤ maxLen
  lim : m < 1073741824
  ones : ∀ u, u ∈ olds → u.oneCell' = true
structure Turned (w w' : World) (n : Nat) (oa : Option Addr) (cap : Nat) (u : Value) (m' : Nat) (news : List Value) : Prop where
  os : w'.os = w.os
  tape : w'.tape = w.tape
  output : w'.output = w.output
  size : w.heap.size ≤ w'.heap.size
  row : ∃ g' cap' cur' e', u = .slice (some ⟨g', 0, none⟩) m' cap' ∧ w'.heap[g']? = some (.cells cur' e' (0, 0)) ∧ cur'.size = cap' * n ∧ cur'.toList.take (m' * n) = news ∧ m' ≤ cap' ∧ cap' ≤ maxLen ∧
    ((oa = some ⟨g', 0, none⟩ ∧ 0 < cap ∧ ∀ b, b ≠ g' → w'.heap[b]? = w.heap[b]?) ∨ (w.heap.size ≤ g' ∧ g' < w'.heap.size ∧ ∀ b, b < w.heap.size → w'.heap[b]? = w.heap[b]?))
structure OneAt (w : World) (n : Nat) (oa : Option Addr) (cap : Nat) (vb voff : Nat) (vs : List Value) : Prop where
  len : vs.length = n
  cells : ∀ j u, vs[j]? = some u → w.cell? ⟨vb, voff + j, none⟩ = some u
  ones : ∀ u, u ∈ vs → u.oneCell' = true
  ne : ∀ g, oa = some ⟨g, 0, none⟩ → 0 < cap → vb ≠ g
theorem Turned.ret {F G : Nat → Prop} {L : List Nat} {w w' : World} {n : Nat} {oa : Option Addr} {cap : Nat} {u : Value} {m' : Nat} {news : List Value} (h : Turned w w' n oa cap u m' news) (hF : ∀ b, F b → b < w.heap.size ∧ b ∉ L) (hL : 0 < cap → ∃ g, oa = some ⟨g, 0, none⟩ ∧ L = [g]) (hLs : ∀ b, b ∈ L → b < w.heap.size)
    {l' : List (List PV)} (hv : VR F w n news l') (hm : l'.length = m') (hlim : m' ≤ 1073741824) : Qcb F L w n false l' (.returned u) w' := by
  obtain ⟨g', cap', cur', e', rfl, hg, hs, ht, h1, h2, h3⟩ := h.row
  have hsame : ∀ b, b < w.heap.size → b ∉ L → w'.heap[b]? = w.heap[b]? := fun b hb hn => by
    rcases h3 with ⟨h3, hc, h4⟩ | ⟨_, _, h4⟩
    · obtain ⟨g, h5, rfl⟩ := hL hc
      rw [h3] at h5
      obtain rfl : g' = g := by simpa using h5
      exact h4 b fun e => hn (by simp [e])
    exact h4 b hb
  refine ⟨_, rfl, fun m hm hmL => ⟨h.os, h.tape, h.output, h.size, fun b hb => hsame b (by omega) fun hx => by have := hmL b hx; omega⟩, hsame, [g'], by simp, fun b hb => ?_, ?_⟩
  · obtain rfl := List.mem_singleton.1 hb
    refine ⟨Xj hg, ?_⟩
    rcases h3 with ⟨h3, hc, _⟩ | ⟨h3, _, _⟩
    · obtain ⟨g, h5, rfl⟩ := hL hc
      rw [h3] at h5
      obtain rfl : b = g := by simpa using h5
      exact .inr (by simp)
    exact .inl h3
  refine .inr ⟨g', cap', cur', e', rfl, by rw [hm], hg, hs, ?_, by rw [hm]; exact h1, h2, by rw [hm]; exact hlim⟩
  rw [hm, ht]
  exact hv.keep fun b hb => ⟨.inl hb, hsame b (hF b hb).1 (hF b hb).2⟩
end
end Go.Proofs.YtkbfhiamdcoieaaGreatDoor
namespace Go.Proofs.YtkbfhiamdcoieaaGreatDoor
open Go.RowKit
section
variable {P : Program} {t e : TypeId} {ei : TI} {w : World} {oa : Option Addr} {m cap i vb voff vc : Nat} {olds vs : List Value}
theorem OneAt.block {n : Nat} (h : OneAt w n oa cap vb voff vs) (h0 : 0 < n) : vb < w.heap.size ∧ ∃ arr tA fr, w.heap[vb]? = some (.cells arr tA fr) ∧ 0 < arr.size := by
  have hl : 0 < vs.length := by rw [h.len]; exact h0
  have hc := h.cells 0 vs[0] (List.getElem?_eq_getElem hl)
  unfold World.cell? at hc
  split at hc
  · rename_i arr tA fr hh
    refine ⟨Xj hh, arr, tA, fr, hh, ?_⟩
    have hc : arr[voff + 0]? = some vs[0] := by simpa using hc
    have := (Array.getElem?_eq_some_iff.1 hc).1
    omega
  cases hc
variable {g : Nat} {cur : Array Value} {e0 : TypeId}
end
end Go.Proofs.YtkbfhiamdcoieaaGreatDoor
namespace Go.Proofs.YtkbfhiamdcoieaaGreatDoor
open Go.RowKit
section
variable {α : Type} {p : α → Bool}
def ixF (p : α → Bool) : List α → Int
  | [] => -1
  | a :: l => bif p a then 0 else bif ixF p l == -1 then -1 else ixF p l + 1
theorem LC (p : α → Bool) : ∀ l : List α, -1 ≤ ixF p l ∧ ixF p l < l.length
  | [] => by simp [ixF]
  | a :: l => by
    have ih := LC p l
    simp only [ixF, List.length_cons]
    cases p a with
    | true => simp only [cond_true]; omega
    | false =>
      simp only [cond_false]
      cases h : (ixF p l == -1) with
      | true => simp only [cond_true]; omega
      | false => simp only [cond_false]; omega
theorem RM {f : Nat → α → Unit → Rd Int Unit Unit} {e : Nat → Unit → Unit} (hf : ∀ k a s, f k a s = bif p a then .ret ((k : Nat) : Int) else .next ()) : ∀ (l : List α) (k : Nat), Xp f e l k () = bif ixF p l == -1 then .brk () else .ret ((k : Int) + ixF p l)
  | [], k => rfl
  | a :: l, k => by
    simp only [Xp, hf, ixF]
    cases p a with
    | true => simp only [cond_true]; rw [show ((0 : Int) == -1) = false from rfl, cond_false, Int.add_zero]
    | false =>
      simp only [cond_false]
      rw [RM hf l (k + 1)]
      have hb := LC p l
      cases h : (ixF p l == -1) with
      | true => simp only [cond_true]; rfl
      | false =>
        have hne : ixF p l ≠ -1 := by simpa using h
        simp only [cond_false]
        rw [show (ixF p l + 1 == -1) = false by simp; omega, cond_false]
        congr 1; omega
theorem Qbn {f : Nat → α → Unit → Rd Int Unit Unit} {e : Nat → Unit → Unit} (hf : ∀ k a s, f k a s = bif p a then .ret ((k : Nat) : Int) else .next ()) (l : List α) : Out.on (Xp f e l 0 ()) (fun _ => -1) = ixF p l := by
  rw [RM hf]
  cases h : (ixF p l == -1) with
  | true => simp only [cond_true, Out.on]; exact (by simpa using h : ixF p l = -1).symm
  | false => simp only [cond_false, Out.on]; omega
variable [Inhabited α]
end
open GoE (enc wide)
def Kt (f : Q9) (user : Int) : Bool := ((Ki user) && ((f.2.1 == user) || f.2.2.1))
theorem O0 (f : Q9) (user : Int) : ACalls Tryz.prog 34 [.a [.i f.1, .i f.2.1, .b f.2.2.1, .i f.2.2.2.1, .h f.2.2.2.2], .i user] (.b (Kt f user)) := by
 refine en Qb Tryz.func34 fun w0 F0 hG => ?_
 refine sn Qb [1, 2, 4] [2] (p0) ?_
 refine Qe (mz [(2, .p 2 0), (4, .b false)] [0] [(2, [.i f.1, .i f.2.1, .b f.2.2.1, .i f.2.2.2.1, .h f.2.2.2.2])] [] ?_)
 refine jn [(4, .b ((Ki user) && ((f.2.1 == user) || f.2.2.1)))] [1, 2, 4] [] [2] (Ki user) (fun h1 => ?_) (fun h1 => ?_) ?_
 ·
  refine Xl (f.2.1 == user) (fun h2 => ?_) (fun h2 => ?_)
  ·
   refine rn Qb [4] [] (pc 1 (cb h1 (Ht user)) (pt 6 h2 p0)) ?_
   exact ⟨rfl, Qd (by rw [h1, h2]; first | done | kernel_rfl)⟩
  refine rn Qb [4] [] (pc 1 (cb h1 (Ht user)) (pf 6 h2 p0)) ?_
  exact ⟨rfl, Qd (by rw [h1, h2]; first | done | kernel_rfl)⟩
 ·
  refine rn Qb [4] [] (pc 1 (cb h1 (Ht user)) p0) ?_
  exact ⟨rfl, Qd (by rw [h1]; first | done | kernel_rfl)⟩
 refine Qg ?_
 exact pb [] (show Kt f user = ((Ki user) && ((f.2.1 == user) || f.2.2.1)) from rfl)
def Yy (f : Q9) : Q9 := f
theorem Mr (f : Q9) : ACalls Tryz.prog 88 [.a [.i f.1, .i f.2.1, .b f.2.2.1, .i f.2.2.2.1, .h f.2.2.2.2]] (.a [.i ((Yy f).1), .i ((Yy f).2.1), .b ((Yy f).2.2.1), .i ((Yy f).2.2.2.1), .o 0 ((Yy f).2.2.2.2)]) := by
 refine en Qb Tryz.func88 fun w0 F0 hG => ?_
 refine sn Qb [1, 2] [1, 2] (p0) ?_
 refine tn Qb [1, 2] [1, 2] (pc 2 (HO f.2.2.2.2) p0) ?_
 refine tu Qb [(2, .p 2 0)] [0] [(2, [.i f.1, .i f.2.1, .b f.2.2.1, .i f.2.2.2.1, .o 320 f.2.2.2.2])] [] (p0) ?_
 refine Qg ?_
 exact pz [] (show Yy f = f from rfl) (fun z => .a [.i z.1, .i z.2.1, .b z.2.2.1, .i z.2.2.2.1, .o 0 z.2.2.2.2])
def Us (f : Q9) (q0 : Int) : Bool := (f.1 == q0)
theorem QY (f : Q9) (q0 : Int) : ACalls Tryz.prog 135 [.a [.i f.1, .i f.2.1, .b f.2.2.1, .i f.2.2.2.1, .h f.2.2.2.2], .one (.rptr .sh [.i q0])] (.b (Us f q0)) := by
 refine en Qb Tryz.func135 fun w0 F0 hG => ?_
 refine sn Qb [1, 2, 3] [2] (p0) ?_
 refine tn Qb [3] [] (p0) ?_
 refine Qg ?_
 exact pb [] (show Us f q0 = (f.1 == q0) from rfl)
def X5 (c0 : Int) (k0 : Nat) (a0 : Q9) (_ : Unit) : Rd (Int) (Unit) (Unit) := (bif (Us a0 c0) then (.ret ((k0 : Nat) : Int)) else (.next ()))
def Yv (_ : Nat) (_ : Unit) : Unit := ()
def Z1 (s_ : (List Q9)) (c0 : Int) : Int := (Out.on (Xp (X5 c0) Yv s_ 0 ()) (fun _ => -1))
theorem Bf (s_ : (List Q9)) (c0 : Int) : ACalls Tryz.prog 134 [.h s_, .one (.fnr 135 [[.i c0]])] (.i (Z1 s_ c0)) := by
 refine en Qb Tryz.func134 fun w0 F0 hG => ?_
 refine sn Qb [0, 1, 4] [] (p0) ?_
 refine Qe (tn Qb [0, 1, 4, 7, 8] [] (pl 1 s_ p0) ?_)
 refine mz [(4, .i 0), (7, .i (s_.length : Int)), (8, .i 0)] [] [] [] ?_
 refine wT 0 0 .sh s_ (fun hw1 hl2 => ?_)
 refine L3 (X5 c0) Yv s_ () (fun k0 _ => [(8, .i ((k0 : Nat) : Int))]) [8] (fun _ => []) [0, 1, 7, 8] (Qd (by kernel_rfl)) (fun k0 s0 hk0 hI0 => ?_) (fun k0 s0 hk0 hI0 => ?_) (fun y0 hD0 => ?_)
 ·
  obtain ⟨a0, hx0⟩ := Xm (l := s_) (i := k0) hk0
  refine sn Qb [0, 1, 4, 7, 8, 9] [] (pe 0 (Qo (decide_eq_true (p := ((k0 : Nat) : Int) < (s_.length : Int)) (by omega))) p0) ?_
  refine Qe (ckT ?_)
  refine Qh ?_
  refine Qe (Qs ?_)
  refine tn Qb [0, 1, 4, 5, 7, 8] [] (p0) ?_
  refine tu Qb [(5, .i ((k0 : Nat) : Int)), (16, .b (Us a0 c0))] [] [] [] (pn 3 hx0 (pc 5 (QY a0 c0) p0)) ?_
  refine ck (Us a0 c0) (fun h3 => ?_) (fun h3 => ?_)
  ·
   refine sn Qb [0, 1, 4, 7, 8] [] (p0) ?_
   refine Qg ?_
   have hr4 : (Xp (X5 c0) Yv s_ 0 ()) = .ret ((k0 : Nat) : Int) := Zx hx0 (Q6 h3 (rfl)) hI0
   exact pi [] (Iq hr4)
  refine Qh ?_
  refine rn Qb [0, 1, 4, 7, 8] [] (pe 0 (Jn (Qp k0 (by omega))) p0) ?_
  exact Exists.intro _ (And.intro (Qd (by kernel_rfl)) (Qx hx0 (Qm h3 (rfl)) hI0))
 ·
  refine sn Qb [0, 1, 4, 7, 8, 9] [] (pe 0 (Qo (decide_eq_false (p := ((k0 : Nat) : Int) < (s_.length : Int)) (by omega))) p0) ?_
  refine Qe (ckF ?_)
  refine Q5 ?_
  exact Exists.intro _ (And.intro (Qd (by kernel_rfl)) (Xn hk0 (rfl) hI0))
 refine sn Qb [4] [] (p0) ?_
 refine Qg ?_
 exact pi [] (Wc hD0 (rfl))
def Z7 (s_ : Ql) (id : Int) : Int := (Z1 s_.2.1 id)
theorem Rt (s_ : Ql) (id : Int) : ACalls Tryz.prog 89 [.a [.h s_.1, .h s_.2.1, .i s_.2.2], .i id] (.i (Z7 s_ id)) := by
 refine en Qb Tryz.func89 fun w0 F0 hG => ?_
 refine sn Qb [2, 3, 4] [2, 3] (p0) ?_
 refine tn Qb [4] [] (pc 3 (Bf s_.2.1 id) p0) ?_
 refine Qg ?_
 exact pi [] (show Z7 s_ id = (Z1 s_.2.1 id) from rfl)
def Ve (user : Int) (_ : Nat) (a0 : Q9) (s0 : (List Q9)) : Rd (Ql) ((List Q9)) ((List Q9)) := (bif (Kt a0 user) then (.next (s0 ++ [(Yy a0)])) else (.next s0))
def Vf (_ : Nat) (s0 : (List Q9)) : (List Q9) := s0
def Ku (s_ : Ql) (k1 : Nat) (_ : Q9) (s1 : (List Q9)) : Rd (Ql) ((List Q9)) ((List Q9)) := (bif decide ((Z7 (s_.1, s1, s_.2.2) ((nth s1 k1).2.2.2.1)) < (0 : Int)) then (.next (List.set s1 k1 ((nth s1 k1).1, (nth s1 k1).2.1, (nth s1 k1).2.2.1, 0, (nth s1 k1).2.2.2.2))) else (.next s1))
def Wr (_ : Nat) (s1 : (List Q9)) : (List Q9) := s1
def Qi (s_ : Ql) (user : Int) : Ql := (Out.on (Xp (Ve user) Vf s_.2.1 0 []) (fun y0 => (Out.on (Xp (Ku s_) Wr y0 0 y0) (fun y1 => (s_.1, y1, s_.2.2)))))
theorem Hd (s_ : Ql) (user : Int) : ACalls Tryz.prog 53 [.a [.h s_.1, .h s_.2.1, .i s_.2.2], .i user] (.a [.o 0 ((Qi s_ user).1), .o 1 ((Qi s_ user).2.1), .i ((Qi s_ user).2.2)]) := by
 refine en Qb Tryz.func53 fun w0 F0 hG => ?_
 refine sn Qb [1, 2, 4] [2, 4] (p0) ?_
 refine tN Qb Yo [1, 2, 4, 5] [2, 4, 5] (pc 2 (VG s_.1) p0) ?_
 refine Qe (tu Qb [(4, .p 4 0), (5, .p 5 0), (17, .h s_.2.1), (18, .i (s_.2.1.length : Int)), (19, .i 0)] [0] [(4, [.e 2, .e 5, .i 0]), (5, [.o 768 s_.1, .e 5, .i s_.2.2])] [] (pl 2 s_.2.1 p0) ?_)
 refine wT 17 0 .sh s_.2.1 (fun hw1 hl2 => ?_)
 refine Rw (Ve user) Vf s_.2.1 [] (fun k0 _ => [(19, .i ((k0 : Nat) : Int))]) [19] (fun _ s0 => [(5, [.o 768 s_.1, .o 147210 s0, .i s_.2.2])]) [5] (fun _ => []) [1, 17, 18, 19] (fun y0 => [(5, [.o 768 s_.1, .o 147360 y0, .i s_.2.2])]) [5] (fun k0 s0 => List.length s0 ≤ k0) (Dz [(true, 5, 1, true, 320008, 5)] [] [] [(320008, 147210)] (by kernel_rfl)) (by simp) (fun k0 s0 hk0 hI0 => ?_) (fun k0 s0 hk0 hI0 => ?_) (fun y0 hD0 => ?_)
 ·
  have hA0_0 := hI0.2
  obtain ⟨a0, hx0⟩ := Xm (l := s_.2.1) (i := k0) hk0
  refine su Qb [(20, .b true)] [] [] [] (pe 0 (Qo (decide_eq_true (p := ((k0 : Nat) : Int) < (s_.2.1.length : Int)) (by omega))) p0) ?_
  refine Qe (ckT ?_)
  refine Qh ?_
  refine Qe (Qs ?_)
  refine sn Qb [1, 4, 5, 7, 17, 18, 19] [4, 5, 7] (pn 0 hx0 p0) ?_
  refine tn Qb [1, 4, 5, 7, 17, 18, 19, 25] [4, 5, 7] (pc 2 (O0 a0 user) p0) ?_
  refine ck (Kt a0 user) (fun h3 => ?_) (fun h3 => ?_)
  ·
   refine wB 5 1 (.own true 147210) s0 (fun hw4 hl5 => ?_)
   refine qU Qb Yo [] [20] [(5, [.o 768 s_.1, .slc (.own true 1984) 5 ((eL s0) ++ [[.i ((Yy a0).1), .i ((Yy a0).2.1), .b ((Yy a0).2.2.1), .i ((Yy a0).2.2.2.1), .h ((Yy a0).2.2.2.2)]]), .i s_.2.2])] [5] (pc 3 (Mr a0) (pa s0 [(Yy a0)] p0)) ?_
   refine eqn [] [] [(5, [.o 768 s_.1, .o 1984 (s0 ++ [(Yy a0)]), .i s_.2.2])] [5] (by rw [show ((eL s0) ++ [[.i ((Yy a0).1), .i ((Yy a0).2.1), .b ((Yy a0).2.2.1), .i ((Yy a0).2.2.2.1), .h ((Yy a0).2.2.2.2)]]) = (eL (s0 ++ [(Yy a0)])) from Kj (rfl) (rfl)]; first | done | kernel_rfl) ?_
   refine rn Qb [1, 4, 5, 17, 18, 19] [4, 5] (pe 0 (Jn (Qp k0 (by omega))) p0) ?_
   exact Exists.intro (s0 ++ [(Yy a0)]) (And.intro (X2 [(1984, 147210)] (by kernel_rfl)) ⟨Qx hx0 (Q6 h3 (rfl)) hI0.1, by first | omega | (simp; omega) | simp⟩)
  refine Qh ?_
  refine qu Qb [(19, .i ((k0 + 1 : Nat) : Int))] [19, 20] [] [] (pe 0 (Jn (Qp k0 (by omega))) p0) ?_
  exact Exists.intro s0 (And.intro (Qd (by kernel_rfl)) ⟨Qx hx0 (Qm h3 (rfl)) hI0.1, by first | omega | (simp; omega) | simp⟩)
 ·
  have hA0_0 := hI0.2
  refine su Qb [(20, .b false)] [] [] [] (pe 0 (Qo (decide_eq_false (p := ((k0 : Nat) : Int) < (s_.2.1.length : Int)) (by omega))) p0) ?_
  refine Qe (ckF ?_)
  refine Q5 ?_
  exact Exists.intro _ (And.intro (X2 [(147210, 147360)] (by kernel_rfl)) (Xn hk0 (rfl) hI0.1))
 refine Qe (sn Qb [4, 5, 35, 36, 37] [4, 5] (pl 2 y0 p0) ?_)
 refine mz [(35, .o 147360 y0), (36, .i (y0.length : Int)), (37, .i 0)] [] [] [] ?_
 refine wT 35 0 (.own true 147360) y0 (fun hw6 hl7 => ?_)
 refine Rw (Ku s_) Wr y0 y0 (fun k1 s1 => [(35, .o 147360 s1), (37, .i ((k1 : Nat) : Int))]) [35, 37] (fun _ s1 => [(5, [.o 768 s_.1, .o 147360 s1, .i s_.2.2])]) [5] (fun _ => []) [35, 36, 37] (fun y1 => [(5, [.o 768 s_.1, .o 147360 y1, .i s_.2.2])]) [5] (fun _ s1 => List.length s1 = List.length y0) (Qd (by kernel_rfl)) (by simp) (fun k1 s1 hk1 hI1 => ?_) (fun k1 s1 hk1 hI1 => ?_) (fun y1 hD1 => ?_)
 ·
  have hA1_0 := hI1.2
  obtain ⟨a1, hx1⟩ := Xm (l := y0) (i := k1) hk1
  refine su Qb [(38, .b true)] [] [] [] (pe 0 (Qo (decide_eq_true (p := ((k1 : Nat) : Int) < (y0.length : Int)) (by omega))) p0) ?_
  refine Qe (ckT ?_)
  refine Qh ?_
  refine Qe (Qs ?_)
  refine wT 35 0 (.own true 147360) s1 (fun hw9 hl10 => ?_)
  have hx8 := ng s1 k1
  refine sn Qb [4, 5, 8, 9, 35, 36, 37] [4, 5, 9] (pN 1 hx8 p0) ?_
  refine tn Qb [4, 5, 8, 35, 36, 37, 46] [4, 5] (pc 3 (Rt (s_.1, s1, s_.2.2) ((nth s1 k1).2.2.2.1)) p0) ?_
  refine ck (decide ((Z7 (s_.1, s1, s_.2.2) ((nth s1 k1).2.2.2.1)) < (0 : Int))) (fun h11 => ?_) (fun h11 => ?_)
  ·
   have h11d := of_decide_eq_true h11
   refine qu Qb [(35, .one (.slc (.own true 147360) 5 (setRow (eL s1) k1 3 [.i 0])))] [35, 38] [(5, [.o 768 s_.1, .slc (.own true 147360) 5 (setRow (eL s1) k1 3 [.i 0]), .i s_.2.2])] [5] (pN 3 hx8 p0) ?_
   refine eqn [(35, .o 147360 (List.set s1 k1 ((nth s1 k1).1, (nth s1 k1).2.1, (nth s1 k1).2.2.1, 0, (nth s1 k1).2.2.2.2)))] [35] [(5, [.o 768 s_.1, .o 147360 (List.set s1 k1 ((nth s1 k1).1, (nth s1 k1).2.1, (nth s1 k1).2.2.1, 0, (nth s1 k1).2.2.2.2)), .i s_.2.2])] [5] (by rw [Zw (y := ((nth s1 k1).1, (nth s1 k1).2.1, (nth s1 k1).2.2.1, 0, (nth s1 k1).2.2.2.2)) hx8 rfl]; first | done | kernel_rfl) ?_
   refine rn Qb [4, 5, 35, 36, 37] [4, 5] (pe 0 (Jn (Qp k1 (by omega))) p0) ?_
   exact Exists.intro (List.set s1 k1 ((nth s1 k1).1, (nth s1 k1).2.1, (nth s1 k1).2.2.1, 0, (nth s1 k1).2.2.2.2)) (And.intro (Qd (by kernel_rfl)) ⟨Qx hx1 (Q6 h11 (rfl)) hI1.1, (by first | omega | (simp only [List.length_set]; omega))⟩)
  have h11d := of_decide_eq_false h11
  refine Qh ?_
  refine qu Qb [(37, .i ((k1 + 1 : Nat) : Int))] [37, 38] [] [] (pe 0 (Jn (Qp k1 (by omega))) p0) ?_
  exact Exists.intro s1 (And.intro (Qd (by kernel_rfl)) ⟨Qx hx1 (Qm h11 (rfl)) hI1.1, (by first | omega | (simp only [List.length_set]; omega))⟩)
 ·
  have hA1_0 := hI1.2
  refine su Qb [(38, .b false)] [] [] [] (pe 0 (Qo (decide_eq_false (p := ((k1 : Nat) : Int) < (y0.length : Int)) (by omega))) p0) ?_
  refine Qe (ckF ?_)
  refine Q5 ?_
  exact Exists.intro _ (And.intro (Qd (by kernel_rfl)) (Xn hk1 (rfl) hI1.1))
 refine sn Qb [4] [4] (p0) ?_
 refine Qg ?_
 exact pz [] (show Qi s_ user = _ from Wc hD0 (Wc hD1 (rfl))) (fun z => .a [.o 0 z.1, .o 1 z.2.1, .i z.2.2])
def Qt (s_ : Ql) (d : (List Yd)) (user : Int) : (List Qr) × Bool := (bif ((!(Qz s_)) || (!(Ki user))) then ([], false) else (((Z0 (Qi s_ user) d)).1, ((Z0 (Qi s_ user) d)).2))
theorem Hw (s_ : Ql) (d : (List Yd)) (user : Int) : ACalls Tryz.prog 25 [.a [.h s_.1, .h s_.2.1, .i s_.2.2], .h d, .i user] (.tup [(false, [.o 0 (((Qt s_ d user)).1)]), (false, [.b (((Qt s_ d user)).2)])]) := by
 refine en Qb Tryz.func25 fun w0 F0 hG => ?_
 refine sn Qb [1, 2, 3, 6, 7] [3] (p0) ?_
 refine Qe (Qe (mz [(3, .p 3 0), (6, .e 0), (7, .b false)] [0] [(3, [.h s_.1, .h s_.2.1, .i s_.2.2])] [] ?_))
 refine jn [(15, .b ((!(Qz s_)) || (!(Ki user))))] [] [] [] (!(Qz s_)) (fun h1 => ?_) (fun h1 => ?_) ?_
 ·
  have h1n : (Qz s_) = false := Vr h1
  refine rn Qb [1, 2, 3, 6, 7, 15] [3] (pc 1 (cb h1n (B8 s_)) (pe 2 (show .b (!false) = .b true from rfl) p0)) ?_
  exact ⟨rfl, Qd (by rw [h1]; first | done | kernel_rfl)⟩
 ·
  have h1n : (Qz s_) = true := Ze h1
  refine rn Qb [1, 2, 3, 6, 7, 15] [3] (pc 1 (cb h1n (B8 s_)) (pe 2 (show .b (!true) = .b false from rfl) (pc 5 (Ht user) p0))) ?_
  exact ⟨rfl, Qd (by rw [h1]; first | done | kernel_rfl)⟩
 refine ck ((!(Qz s_)) || (!(Ki user))) (fun h2 => ?_) (fun h2 => ?_)
 ·
  refine su Qb [] [15] [] [] (p0) ?_
  refine opn [(false, 6, 0, true, 384000, 2)] ?_
  refine Qg ?_
  exact pz [] (show Qt s_ d user = _ from Q6 h2 (rfl)) (fun z => .tup [(false, [.o 0 z.1]), (false, [.b z.2])])
 refine Qh ?_
 refine sn Qb [6, 7] [] (pc 2 (Hd s_ user) (pc 4 (QV (Qi s_ user) d) p0)) ?_
 refine Qg ?_
 exact pz [] (show Qt s_ d user = _ from Qm h2 (rfl)) (fun z => .tup [(false, [.o 0 z.1]), (false, [.b z.2])])
def Xf (s_ : Ql) (d : (List Yd)) (user : Int) (name : ByteArray) : (List Int) := (Yb (((Qt s_ d user)).1) name)
theorem Ce (s_ : Ql) (d : (List Yd)) (user : Int) (name : ByteArray) : ACalls Tryz.prog 29 [.a [.h s_.1, .h s_.2.1, .i s_.2.2], .h d, .i user, .s name] (.o 0 (Xf s_ d user name)) := by
 refine en Qb Tryz.func29 fun w0 F0 hG => ?_
 refine sn Qb [1, 2, 3, 4, 8] [4] (p0) ?_
 refine tn Qb [3, 8, 9] [] (pc 3 (Hw s_ d user) p0) ?_
 refine tu Qb [(8, .o 1280 (Yb (((Qt s_ d user)).1) name))] [0, 1, 2, 3] [] [] (pc 2 (Ca (((Qt s_ d user)).1) name) p0) ?_
 refine Qg ?_
 exact po0 [] (show Xf s_ d user name = (Yb (((Qt s_ d user)).1) name) from rfl)
def J8 (f : Q9) (u : Int) : Bool := ((Xa u 0 2) && ((f.2.1 == u) || f.2.2.1))
theorem Cf (f : Q9) (u : Int) : ACalls Tryz.prog 18 [.a [.i f.1, .i f.2.1, .b f.2.2.1, .i f.2.2.2.1, .h f.2.2.2.2], .i u] (.b (J8 f u)) := by
 refine en Qb Tryz.func18 fun w0 F0 hG => ?_
 refine sn Qb [1, 2, 4] [2] (p0) ?_
 refine Qe (mz [(2, .p 2 0), (4, .b false)] [0] [(2, [.i f.1, .i f.2.1, .b f.2.2.1, .i f.2.2.2.1, .h f.2.2.2.2])] [] ?_)
 refine jn [(4, .b ((Xa u 0 2) && ((f.2.1 == u) || f.2.2.1)))] [1, 2, 4] [] [2] (Xa u 0 2) (fun h1 => ?_) (fun h1 => ?_) ?_
 ·
  have h1w := E8.1 h1
  refine Xl (f.2.1 == u) (fun h2 => ?_) (fun h2 => ?_)
  ·
   refine rn Qb [4] [] (pc 1 (cb h1 (Zd u 0 2)) (pt 6 h2 p0)) ?_
   exact ⟨rfl, Qd (by rw [h1, h2]; first | done | kernel_rfl)⟩
  refine rn Qb [4] [] (pc 1 (cb h1 (Zd u 0 2)) (pf 6 h2 p0)) ?_
  exact ⟨rfl, Qd (by rw [h1, h2]; first | done | kernel_rfl)⟩
 ·
  refine rn Qb [4] [] (pc 1 (cb h1 (Zd u 0 2)) p0) ?_
  exact ⟨rfl, Qd (by rw [h1]; first | done | kernel_rfl)⟩
 refine Qg ?_
 exact pb [] (show J8 f u = ((Xa u 0 2) && ((f.2.1 == u) || f.2.2.1)) from rfl)
def Qn (f : Q9) : Q9 := f
theorem Cg (f : Q9) : ACalls Tryz.prog 65 [.a [.i f.1, .i f.2.1, .b f.2.2.1, .i f.2.2.2.1, .h f.2.2.2.2]] (.a [.i ((Qn f).1), .i ((Qn f).2.1), .b ((Qn f).2.2.1), .i ((Qn f).2.2.2.1), .o 0 ((Qn f).2.2.2.2)]) := by
 refine en Qb Tryz.func65 fun w0 F0 hG => ?_
 refine sn Qb [1, 2] [1, 2] (p0) ?_
 refine wB 1 4 .sh f.2.2.2.2 (fun hw1 hl2 => ?_)
 refine tn Qb [1, 2] [1, 2] (po 3 (.flat) (px (Ds (n := (([] : List (List PV)).length + ((eL f.2.2.2.2) : List (List PV)).length)) (Gi (rfl) (Y5 f.2.2.2.2) (by first | omega | (simp only [List.length_cons, List.length_nil]; omega) | (simp; omega) | simp))) (px (A7 (Af f.2.2.2.2)) p0))) ?_
 refine tu Qb [(2, .p 2 0)] [0] [(2, [.i f.1, .i f.2.1, .b f.2.2.1, .i f.2.2.2.1, .o 384 f.2.2.2.2])] [] (p0) ?_
 refine Qg ?_
 exact pz [] (show Qn f = f from rfl) (fun z => .a [.i z.1, .i z.2.1, .b z.2.2.1, .i z.2.2.2.1, .o 0 z.2.2.2.2])
def Ch (id : Int) (k0 : Nat) (a0 : Q9) (_ : Unit) : Rd (Int) (Unit) (Unit) := (bif (a0.1 == id) then (.ret ((k0 : Nat) : Int)) else (.next ()))
def Ci (_ : Nat) (_ : Unit) : Unit := ()
def Q2 (s_ : Ql) (id : Int) : Int := (Out.on (Xp (Ch id) Ci s_.2.1 0 ()) (fun _ => -1))
theorem T4 (s_ : Ql) (id : Int) : -1 ≤ Q2 s_ id ∧ Q2 s_ id < (List.length s_.2.1 : Int) := by
 unfold Q2
 rw [Qbn (p := fun a : Q9 => a.1 == id) (f := Ch id) (e := Ci) (fun _ _ _ => rfl)]
 exact LC _ _
theorem Dh (s_ : Ql) (id : Int) : ACalls Tryz.prog 64 [.a [.h s_.1, .h s_.2.1, .i s_.2.2], .i id] (.i (Q2 s_ id)) := by
 refine en Qb Tryz.func64 fun w0 F0 hG => ?_
 refine sn Qb [1, 2, 4] [2] (p0) ?_
 refine Qe (tn Qb [1, 2, 4, 5] [2] (p0) ?_)
 refine mz [(2, .p 2 0), (4, .i 0), (5, .i 0)] [0] [(2, [.h s_.1, .h s_.2.1, .i s_.2.2])] [] ?_
 refine wB 2 1 .sh s_.2.1 (fun hw1 hl2 => ?_)
 refine GO (Ch id) Ci s_.2.1 () (fun k0 _ => [(5, .i ((k0 : Nat) : Int))]) [5] (fun _ _ => []) [] (fun _ => []) [1, 2, 5] (fun _ => []) [2] (Qd (by kernel_rfl)) (fun k0 s0 hk0 hI0 => ?_) (fun k0 s0 hk0 hI0 => ?_) (fun y0 hD0 => ?_)
 ·
  obtain ⟨a0, hx0⟩ := Xm (l := s_.2.1) (i := k0) hk0
  refine Qe (sn Qb [1, 2, 4, 5, 10] [2] (pl 3 s_.2.1 (pe 4 (Qo (decide_eq_true (p := ((k0 : Nat) : Int) < (s_.2.1.length : Int)) (by omega))) p0)) ?_)
  refine ckT ?_
  refine Qh ?_
  refine Qe (Qs ?_)
  refine tn Qb [1, 2, 4, 5, 20] [2] (pn 3 hx0 p0) ?_
  refine ck (a0.1 == id) (fun h3 => ?_) (fun h3 => ?_)
  ·
   refine tu Qb [(4, .i ((k0 : Nat) : Int))] [4] [] [] (p0) ?_
   refine Qg ?_
   have hr4 : (Xp (Ch id) Ci s_.2.1 0 ()) = .ret ((k0 : Nat) : Int) := Zx hx0 (Q6 h3 (rfl)) hI0
   exact pi [] (Iq hr4)
  have h3d := Yg h3
  refine Qh ?_
  refine qu Qb [(5, .i ((k0 + 1 : Nat) : Int))] [5] [] [] (pe 1 (Jn (Qp k0 (by omega))) p0) ?_
  exact Exists.intro _ (And.intro (Qd (by kernel_rfl)) (Qx hx0 (Qm h3 (rfl)) hI0))
 ·
  refine Qe (sn Qb [1, 2, 4, 5, 10] [2] (pl 3 s_.2.1 (pe 4 (Qo (decide_eq_false (p := ((k0 : Nat) : Int) < (s_.2.1.length : Int)) (by omega))) p0)) ?_)
  refine ckF ?_
  refine Q5 ?_
  exact Exists.intro _ (And.intro (Qd (by kernel_rfl)) (Xn hk0 (rfl) hI0))
 refine sn Qb [4] [] (p0) ?_
 refine Qg ?_
 exact pi [] (Wc hD0 (rfl))
def Bg (u : Int) (_ : Nat) (a0 : Q9) (s0 : (List Q9)) : Rd (Ql) ((List Q9)) ((List Q9)) := (bif (J8 a0 u) then (.next (s0 ++ [(Qn a0)])) else (.next s0))
def Bh (_ : Nat) (s0 : (List Q9)) : (List Q9) := s0
def Bi (s_ : Ql) (k1 : Nat) (s1 : (List Q9)) : Rd (Ql) ((List Q9)) ((List Q9)) := (bif decide ((Q2 (s_.1, s1, s_.2.2) ((nth s1 k1).2.2.2.1)) < (0 : Int)) then (.next (List.set s1 k1 ((nth s1 k1).1, (nth s1 k1).2.1, (nth s1 k1).2.2.1, 0, (nth s1 k1).2.2.2.2))) else (.next s1))
def Bj (_ : Nat) (s1 : (List Q9)) : (List Q9) := s1
def Q1 (s_ : Ql) (u : Int) : Ql := (Out.on (Xp (Bg u) Bh s_.2.1 0 []) (fun y0 => (Out.on (Wd (Bi s_) Bj (List.length y0) 0 y0) (fun y1 => (s_.1, y1, s_.2.2)))))
theorem He (s_ : Ql) (u : Int) : ACalls Tryz.prog 42 [.a [.h s_.1, .h s_.2.1, .i s_.2.2], .i u] (.a [.o 0 ((Q1 s_ u).1), .o 1 ((Q1 s_ u).2.1), .i ((Q1 s_ u).2.2)]) := by
 refine en Qb Tryz.func42 fun w0 F0 hG => ?_
 refine sn Qb [1, 2, 4] [2, 4] (p0) ?_
 refine wB 2 0 .sh s_.1 (fun hw1 hl2 => ?_)
 refine tN Qb Yo [1, 2, 4, 5] [2, 4, 5] (po 3 (.flat) (px (Ds (n := (([] : List (List PV)).length + ((eL s_.1) : List (List PV)).length)) (Gi (rfl) (Y5 s_.1) (by first | omega | (simp only [List.length_cons, List.length_nil]; omega) | (simp; omega) | simp))) (px (A7 (Af s_.1)) p0))) ?_
 refine Qe (tu Qb [(2, .p 2 0), (4, .p 4 0), (5, .p 5 0), (6, .i 0)] [0] [(2, [.h s_.1, .h s_.2.1, .i s_.2.2]), (4, [.e 2, .e 5, .i 0]), (5, [.o 704 s_.1, .e 5, .i s_.2.2])] [] (p0) ?_)
 refine wB 2 1 .sh s_.2.1 (fun hw3 hl4 => ?_)
 refine Rw (Bg u) Bh s_.2.1 [] (fun k0 _ => [(6, .i ((k0 : Nat) : Int))]) [6] (fun _ s0 => [(5, [.o 704 s_.1, .o 147212 s0, .i s_.2.2])]) [5] (fun _ => []) [1, 2, 6] (fun y0 => [(5, [.o 704 s_.1, .o 147362 y0, .i s_.2.2])]) [2, 5] (fun k0 s0 => List.length s0 ≤ k0) (Dz [(true, 5, 1, true, 320008, 5)] [] [] [(320008, 147212)] (by kernel_rfl)) (by simp) (fun k0 s0 hk0 hI0 => ?_) (fun k0 s0 hk0 hI0 => ?_) (fun y0 hD0 => ?_)
 ·
  have hA0_0 := hI0.2
  obtain ⟨a0, hx0⟩ := Xm (l := s_.2.1) (i := k0) hk0
  refine Qe (su Qb [(19, .b true)] [] [] [] (pl 3 s_.2.1 (pe 4 (Qo (decide_eq_true (p := ((k0 : Nat) : Int) < (s_.2.1.length : Int)) (by omega))) p0)) ?_)
  refine ckT ?_
  refine Qh ?_
  refine Qe (Qs ?_)
  refine sn Qb [1, 2, 4, 5, 6, 28] [2, 4, 5] (pn 3 hx0 (pc 6 (Cf a0 u) p0)) ?_
  refine ck (J8 a0 u) (fun h5 => ?_) (fun h5 => ?_)
  ·
   refine wB 5 1 (.own true 147212) s0 (fun hw6 hl7 => ?_)
   refine qU Qb Yo [] [19] [(5, [.o 704 s_.1, .slc (.own true 2432) 5 ((eL s0) ++ [[.i ((Qn a0).1), .i ((Qn a0).2.1), .b ((Qn a0).2.2.1), .i ((Qn a0).2.2.2.1), .h ((Qn a0).2.2.2.2)]]), .i s_.2.2])] [5] (pn 5 hx0 (pc 7 (Cg a0) (pa s0 [(Qn a0)] p0))) ?_
   refine eqn [] [] [(5, [.o 704 s_.1, .o 2432 (s0 ++ [(Qn a0)]), .i s_.2.2])] [5] (by rw [show ((eL s0) ++ [[.i ((Qn a0).1), .i ((Qn a0).2.1), .b ((Qn a0).2.2.1), .i ((Qn a0).2.2.2.1), .h ((Qn a0).2.2.2.2)]]) = (eL (s0 ++ [(Qn a0)])) from Kj (rfl) (rfl)]; first | done | kernel_rfl) ?_
   refine rn Qb [1, 2, 4, 5, 6] [2, 4, 5] (pe 1 (Jn (Qp k0 (by omega))) p0) ?_
   exact Exists.intro (s0 ++ [(Qn a0)]) (And.intro (X2 [(2432, 147212)] (by kernel_rfl)) ⟨Qx hx0 (Q6 h5 (rfl)) hI0.1, by first | omega | (simp; omega) | simp⟩)
  refine Qh ?_
  refine qn Qb [1, 2, 4, 5, 6] [2, 4, 5] (pe 1 (Jn (Qp k0 (by omega))) p0) ?_
  exact Exists.intro s0 (And.intro (Qd (by kernel_rfl)) ⟨Qx hx0 (Qm h5 (rfl)) hI0.1, by first | omega | (simp; omega) | simp⟩)
 ·
  have hA0_0 := hI0.2
  refine Qe (su Qb [(19, .b false)] [] [] [] (pl 3 s_.2.1 (pe 4 (Qo (decide_eq_false (p := ((k0 : Nat) : Int) < (s_.2.1.length : Int)) (by omega))) p0)) ?_)
  refine ckF ?_
  refine Q5 ?_
  exact Exists.intro _ (And.intro (X2 [(147212, 147362)] (by kernel_rfl)) (Xn hk0 (rfl) hI0.1))
 refine Qe (sn Qb [4, 5, 7] [4, 5] (p0) ?_)
 refine mz [(7, .i 0)] [] [] [] ?_
 refine Qcj (Bi s_) Bj (List.length y0) y0 (fun k1 _ => [(7, .i ((k1 : Nat) : Int))]) [7] (fun _ s1 => [(5, [.o 704 s_.1, .o 147362 s1, .i s_.2.2])]) [5] (fun _ => []) [7] (fun y1 => [(5, [.o 704 s_.1, .o 147362 y1, .i s_.2.2])]) [5] (fun _ s1 => List.length s1 = List.length y0) (fun y1 => List.length y1 = List.length y0) (Qd (by kernel_rfl)) (by simp) (fun k1 s1 hk1 hI1 => ?_) (fun k1 s1 hk1 hI1 => ?_) (fun y1 hD1 => ?_)
 ·
  have hA1_0 := hI1.2
  refine Qe (sn Qb [4, 5, 7, 44] [4, 5] (pl 3 s1 (pe 4 (Qo (decide_eq_true (p := ((k1 : Nat) : Int) < (s1.length : Int)) (by omega))) p0)) ?_)
  refine ckT ?_
  refine Qh ?_
  refine Qe (Qs ?_)
  refine wB 5 1 (.own true 147362) s1 (fun hw9 hl10 => ?_)
  have hx8 := ng s1 k1
  refine tN Qb Yo [4, 5, 7, 55] [4, 5] (pN 4 hx8 (pc 7 (Dh (s_.1, s1, s_.2.2) ((nth s1 k1).2.2.2.1)) p0)) ?_
  refine ck (decide ((Q2 (s_.1, s1, s_.2.2) ((nth s1 k1).2.2.2.1)) < (0 : Int))) (fun h11 => ?_) (fun h11 => ?_)
  ·
   have h11d := of_decide_eq_true h11
   refine qu Qb [] [] [(5, [.o 704 s_.1, .slc (.own true 147362) 5 (setRow (eL s1) k1 3 [.i 0]), .i s_.2.2])] [5] (pN 3 hx8 p0) ?_
   refine eqn [] [] [(5, [.o 704 s_.1, .o 147362 (List.set s1 k1 ((nth s1 k1).1, (nth s1 k1).2.1, (nth s1 k1).2.2.1, 0, (nth s1 k1).2.2.2.2)), .i s_.2.2])] [5] (by rw [Zw (y := ((nth s1 k1).1, (nth s1 k1).2.1, (nth s1 k1).2.2.1, 0, (nth s1 k1).2.2.2.2)) hx8 rfl]; first | done | kernel_rfl) ?_
   refine rn Qb [4, 5, 7] [4, 5] (pe 1 (Jn (Qp k1 (by omega))) p0) ?_
   exact Exists.intro (List.set s1 k1 ((nth s1 k1).1, (nth s1 k1).2.1, (nth s1 k1).2.2.1, 0, (nth s1 k1).2.2.2.2)) (And.intro (Qd (by kernel_rfl)) ⟨K0 hk1 (Q6 h11 (rfl)) hI1.1, (by first | omega | (simp only [List.length_set]; omega))⟩)
  have h11d := of_decide_eq_false h11
  refine Qh ?_
  refine qu Qb [(7, .i ((k1 + 1 : Nat) : Int))] [7] [] [] (pe 1 (Jn (Qp k1 (by omega))) p0) ?_
  exact Exists.intro s1 (And.intro (Qd (by kernel_rfl)) ⟨K0 hk1 (Qm h11 (rfl)) hI1.1, (by first | omega | (simp only [List.length_set]; omega))⟩)
 ·
  have hA1_0 := hI1.2
  refine Qe (sn Qb [4, 5, 7, 44] [4, 5] (pl 3 s1 (pe 4 (Qo (decide_eq_false (p := ((k1 : Nat) : Int) < (s1.length : Int)) (by omega))) p0)) ?_)
  refine ckF ?_
  refine Q5 ?_
  exact Exists.intro s1 (And.intro (Qd (by kernel_rfl)) ⟨Bz hk1 (rfl) hI1.1, by first | omega | (simp only [List.length_set]; omega)⟩)
 have hD1_0 := hD1.2
 refine sn Qb [4] [4] (p0) ?_
 refine Qg ?_
 exact pz [] (show Q1 s_ u = _ from Wc hD0 (Wc hD1.1 (rfl))) (fun z => .a [.o 0 z.1, .o 1 z.2.1, .i z.2.2])
def Xb (s_ : Ql) (d : (List Yd)) (u : Int) : (List Qr) × Bool := (bif ((!(Xa u 0 2)) || (!(Qw s_))) then ([], false) else (((Hv (Q1 s_ u) d)).1, ((Hv (Q1 s_ u) d)).2))
theorem Hx (s_ : Ql) (d : (List Yd)) (u : Int) : ACalls Tryz.prog 33 [.a [.h s_.1, .h s_.2.1, .i s_.2.2], .h d, .i u] (.tup [(false, [.o 0 (((Xb s_ d u)).1)]), (false, [.b (((Xb s_ d u)).2)])]) := by
 refine en Qb Tryz.func33 fun w0 F0 hG => ?_
 refine sn Qb [1, 2, 3, 6, 7] [3] (p0) ?_
 refine Qe (Qe (mz [(3, .p 3 0), (6, .e 0), (7, .b false)] [0] [(3, [.h s_.1, .h s_.2.1, .i s_.2.2])] [] ?_))
 refine jn [(15, .b ((!(Xa u 0 2)) || (!(Qw s_))))] [] [] [] (!(Xa u 0 2)) (fun h1 => ?_) (fun h1 => ?_) ?_
 ·
  have h1n : (Xa u 0 2) = false := Vr h1
  refine rn Qb [1, 2, 3, 6, 7, 15] [3] (pc 1 (cb h1n (Zd u 0 2)) (pe 2 (show .b (!false) = .b true from rfl) p0)) ?_
  exact ⟨rfl, Qd (by rw [h1]; first | done | kernel_rfl)⟩
 ·
  have h1n : (Xa u 0 2) = true := Ze h1
  have h1nw := E8.1 h1n
  refine rn Qb [1, 2, 3, 6, 7, 15] [3] (pc 1 (cb h1n (Zd u 0 2)) (pe 2 (show .b (!true) = .b false from rfl) (pc 5 (Za s_) p0))) ?_
  exact ⟨rfl, Qd (by rw [h1]; first | done | kernel_rfl)⟩
 refine ck ((!(Xa u 0 2)) || (!(Qw s_))) (fun h2 => ?_) (fun h2 => ?_)
 ·
  refine sn Qb [1, 2, 3, 6, 7] [3] (p0) ?_
  refine Qg ?_
  exact pz [] (show Xb s_ d u = _ from Q6 h2 (rfl)) (fun z => .tup [(false, [.o 0 z.1]), (false, [.b z.2])])
 have h2l : ((!(Xa u 0 2))) = false := Pw h2
 have h2ln : (Xa u 0 2) = true := Ze h2l
 have h2lnw := E8.1 h2ln
 refine Qh ?_
 refine sn Qb [6, 7] [] (pc 2 (He s_ u) (pc 4 (QW (Q1 s_ u) d) p0)) ?_
 refine Qg ?_
 exact pz [] (show Xb s_ d u = _ from Qm h2 (rfl)) (fun z => .tup [(false, [.o 0 z.1]), (false, [.b z.2])])
def X3 (s_ : Ql) (d : (List Yd)) (u : Int) (name : ByteArray) : (List Int) := (Vo (((Xb s_ d u)).1) name)
theorem Ie (s_ : Ql) (d : (List Yd)) (u : Int) (name : ByteArray) : ACalls Tryz.prog 31 [.a [.h s_.1, .h s_.2.1, .i s_.2.2], .h d, .i u, .s name] (.o 0 (X3 s_ d u name)) := by
 refine en Qb Tryz.func31 fun w0 F0 hG => ?_
 refine sn Qb [1, 2, 3, 4, 8] [4] (p0) ?_
 refine tn Qb [3, 8, 9] [] (pc 3 (Hx s_ d u) p0) ?_
 refine tu Qb [(8, .o 1280 (Vo (((Xb s_ d u)).1) name))] [0, 1, 2, 3] [] [] (pc 2 (Fg (((Xb s_ d u)).1) name) p0) ?_
 refine Qg ?_
 exact po0 [] (show X3 s_ d u name = (Vo (((Xb s_ d u)).1) name) from rfl)
end Go.Proofs.YtkbfhiamdcoieaaGreatDoor
namespace Go.Proofs.YtkbfhiamdcoieaaGreatDoor
open Go.RowKit
theorem WF {α R S T : Type} {f : Nat → α → S → Rd R S T} {g : Nat → S → Rd R S T} {e e' : Nat → S → T} (hf : ∀ k a s, f k a s = g k s) (he : ∀ k s, e k s = e' k s) : ∀ (l : List α) (k : Nat) (s : S), Xp f e l k s = Wd g e' l.length k s
  | [], k, s => by simp [Xp, Wd, he]
  | a :: l, k, s => by
    simp only [Xp, Wd, List.length_cons, hf]
    cases g k s with
    | next s' => exact WF hf he l (k + 1) s'
    | brk t => rfl
    | ret r => rfl
theorem Ez (s : Ql) (u : Int) : Q1 s u = Qi s u := by
  unfold Q1 Qi
  rw [Ex (f := Bg u) (g := Ve u) (e := Bh) (e' := Vf) (fun _ _ => rfl) s.2.1 0 _ (fun i a t _ => rfl)]
  congr 1
  funext y
  rw [WF (f := Ku s) (g := Bi s) (e := Wr) (e' := Bj) (fun _ _ _ => rfl) (fun _ _ => rfl)]
theorem Fj (s : Ql) (d : List Yd) (u : Int) : Xb s d u = Qt s d u := by
  unfold Xb Qt
  rw [Ib, Ez, AG]
  have h : Xa u 0 2 = Ki u := rfl
  rw [h, Bool.or_comm]
theorem Gn (s : Ql) (d : List Yd) (u : Int) (n : ByteArray) : X3 s d u n = Xf s d u n := by
  unfold X3 Xf
  rw [Fj]
  rfl
theorem Qac {s : Ql} (h : Qz s = true) : s.2.1.length ≤ 12 := by
  unfold Qz at h
  cases hf : Xp (Y1 s) J6 s.2.1 0 () with
  | brk t =>
    rw [hf] at h
    simp only [Out.on, Bool.and_eq_true, decide_eq_true_eq] at h
    omega
  | ret r =>
    rw [hf] at h
    obtain rfl : r = true := h
    exfalso
    have key : ∀ (l : List Q9) k, Xp (Y1 s) J6 l k () ≠ .ret true := by
      intro l
      induction l with
      | nil => intro k h; simp [Xp] at h
      | cons a l ih =>
        intro k h
        simp only [Xp] at h
        unfold Y1 at h
        split at h
        · rename_i hf; exact ih _ h
        · cases h
        rename_i r hf; cases h; revert hf; generalize (_ || _ : Bool) = c; cases c <;> simp
    exact key _ _ hf
theorem RN {fs : List Q9} {p : Q9 → Bool} {x : Int} (h : x ∈ sel fs (fun f => f.1) p) : ∃ f, f ∈ fs ∧ f.1 = x := by
  obtain ⟨f, hf, e⟩ := List.mem_map.1 h
  exact ⟨f, (List.mem_filter.1 hf).1, e⟩
theorem LD {s : Ql} (h : Qz s = true) {f : Q9} (hf : f ∈ s.2.1) : 1 ≤ f.1 ∧ f.1 ≤ 60 := by
  have hv : Zg s.1 f = true := by
    unfold Qz at h
    obtain ⟨i, hi⟩ := List.getElem?_of_mem hf
    cases hl : Xp (Y1 s) J6 s.2.1 0 () with
    | brk t =>
      have := Od (fun k a t => by unfold Y1; generalize (_ || _ : Bool) = c; cases c <;> simp) hl i f hi
      unfold Y1 at this
      cases hv : Zg s.1 f with
      | true => rfl
      | false => rw [hv] at this; simp at this
    | ret r =>
      rw [hl] at h
      obtain rfl : r = true := h
      exfalso
      have key : ∀ (l : List Q9) k, Xp (Y1 s) J6 l k () ≠ .ret true := by
        intro l
        induction l with
        | nil => intro k h; simp [Xp] at h
        | cons a l ih =>
          intro k h
          simp only [Xp] at h
          unfold Y1 at h
          split at h
          · rename_i hf; exact ih _ h
          · cases h
          rename_i r hf; cases h; revert hf; generalize (_ || _ : Bool) = c; cases c <;> simp
      exact key _ _ hl
  unfold Zg at hv
  cases hl : Xp (Zz s.1 f) K3 f.2.2.2.2 0 () with
  | brk t =>
    rw [hl] at hv
    simp only [Out.on] at hv
    cases hw : Ye f.1 1 60 with
    | true => exact L5.1 hw
    | false => rw [hw] at hv; simp at hv
  | ret r =>
    rw [hl] at hv
    obtain rfl : r = true := hv
    exfalso
    have key : ∀ (l : List Uc) k, Xp (Zz s.1 f) K3 l k () ≠ .ret true := by
      intro l
      induction l with
      | nil => intro k h; simp [Xp] at h
      | cons a l ih =>
        intro k h
        simp only [Xp] at h
        unfold Zz at h
        split at h
        · rename_i hf; exact ih _ h
        · cases h
        rename_i r hf; cases h; revert hf; generalize (bif decide (((k : Nat) : Int) > (0 : Int)) then _ else _ : Bool) = c; cases c <;> simp
    exact key _ _ hl
theorem JM (s : Ql) (d : List Yd) (u : Int) : ((Qt s d u)).1.length ≤ 5 ∧ ∀ x, x ∈ ((Qt s d u)).1 → x.2.length ≤ 12 ∧ ∀ n, n ∈ x.2 → 1 ≤ n ∧ n ≤ 60 := by
  unfold Qt
  cases hc : ((!(Qz s)) || (!(Ki u))) with
  | true => exact ⟨Nat.zero_le _, fun x hx => by simp at hx⟩
  | false =>
    simp only [cond_false]
    cases he : (Z0 (Qi s u) d).2 with
    | false => rw [T3 he]; exact ⟨Nat.zero_le _, fun x hx => by simp at hx⟩
    | true =>
      obtain ⟨h1, h2, h3, h4⟩ := T2 he
      have h5 := Qac h2
      have hlen := congrArg List.length h3
      rw [List.length_map, List.length_map] at hlen
      refine ⟨by omega, fun x hx => ?_⟩
      obtain ⟨p, hp⟩ := h4 x hx
      refine ⟨by rw [hp]; exact Nat.le_trans (IT _ _ _) h5, fun n hn => ?_⟩
      rw [hp] at hn
      obtain ⟨f, hf, rfl⟩ := RN hn
      exact LD h2 hf
theorem CU (s : Ql) (d : List Yd) (u : Int) : ((Qt s d u)).1.length ≤ 5 := (JM s d u).1
theorem YQ {s : Ql} {d : List Yd} {u : Int} {k : Nat} {x : Qr} (h : ((Qt s d u)).1[k]? = some x) : x.2.length ≤ 12 := ((JM s d u).2 x (List.mem_of_getElem? h)).1
theorem LE (s : Ql) (d : List Yd) (u : Int) : ((Xb s d u)).1.length ≤ 5 := by rw [Fj]; exact CU s d u
theorem AH {s : Ql} {d : List Yd} {u : Int} {k : Nat} {x : Qr} (h : ((Xb s d u)).1[k]? = some x) : x.2.length ≤ 12 := by rw [Fj] at h; exact YQ h
theorem JN (nm : ByteArray) : ∀ (o : List Qr) (k : Nat), Xp (Kn nm) V5 o k () = .brk () ∨ ∃ x, x ∈ o ∧ Xp (Kn nm) V5 o k () = .ret x.2
  | [], _ => .inl rfl
  | b :: o, k => by
    simp only [Xp, Kn]
    cases (b.1.toList == nm.toList) with
    | true => exact .inr ⟨b, List.mem_cons_self .., rfl⟩
    | false =>
      simp only [cond_false]
      rcases JN nm o (k + 1) with h | ⟨x, hx, h⟩
      · exact .inl h
      exact .inr ⟨x, List.mem_cons_of_mem _ hx, h⟩
theorem JO (s : Ql) (d : List Yd) (u : Int) (n : ByteArray) : (Xf s d u n).length ≤ 12 := by
  unfold Xf Yb
  rcases JN n (Qt s d u).1 0 with h | ⟨x, hx, h⟩
  · rw [h]; exact Nat.zero_le _
  rw [h]; exact ((JM s d u).2 x hx).1
theorem Ig (s : Ql) (d : List Yd) (u : Int) (n : ByteArray) : ∀ x, x ∈ Xf s d u n → 1 ≤ x ∧ x ≤ 60 := by
  unfold Xf Yb
  rcases JN n (Qt s d u).1 0 with h | ⟨x, hx, h⟩
  · rw [h]; intro x hx; simp [Out.on] at hx
  rw [h]; exact ((JM s d u).2 x hx).2
end Go.Proofs.YtkbfhiamdcoieaaGreatDoor
namespace Go.Proofs.YtkbfhiamdcoieaaGreatDoor
open Go.RowKit
theorem Qbo (s : Ql) (n : Int) : Q2 s n = Z7 s n := rfl
theorem RO (n : Int) : ∀ (l : List Q9) (k : Nat), Xp (X5 n) Yv l k () = .brk () ∨ ∃ i : Nat, i < l.length ∧ Xp (X5 n) Yv l k () = .ret (((k + i : Nat)) : Int)
  | [], _ => .inl rfl
  | a :: l, k => by
    simp only [Xp, X5]
    cases (Us a n) with
    | true => exact .inr ⟨0, by simp, rfl⟩
    | false =>
      simp only [cond_false]
      rcases RO n l (k + 1) with h | ⟨i, hi, h⟩
      · exact .inl h
      exact .inr ⟨i + 1, by simpa using hi, by rw [h, show k + 1 + i = k + (i + 1) by omega]⟩
theorem LF (s : Ql) (n : Int) : -1 ≤ Z7 s n ∧ Z7 s n < (List.length s.2.1 : Int) := by
  unfold Z7 Z1
  rcases RO n s.2.1 0 with h | ⟨i, hi, h⟩
  · rw [h]; simp only [Out.on]; omega
  rw [h]; simp only [Out.on]; omega
end Go.Proofs.YtkbfhiamdcoieaaGreatDoor
namespace Go.Proofs.YtkbfhiamdcoieaaGreatDoor
open Go.RowKit
open GoD (rd own)
def inR (n lo hi : Int) : Bool := decide (lo ≤ n) && decide (n ≤ hi)
theorem CV {n lo hi : Int} (h1 : lo ≤ n) (h2 : n ≤ hi) : inR n lo hi = true := by simp [inR, h1, h2]
end Go.Proofs.YtkbfhiamdcoieaaGreatDoor
namespace Go.Proofs.YtkbfhiamdcoieaaGreatDoor
open Go.RowKit
open GoD (rd own)
theorem OW (w : World) (k : Nat) (os : Array Obj) : Below w.heap.size w (Go.Sort.grow (w.drewN k) os) :=
  ⟨rfl, rfl, rfl, by rw [Go.Sort.size_grow]; exact Nat.le_add_right _ _, fun j hj => by
    unfold Go.Sort.grow
    rw [Array.getElem?_append, if_pos (by exact hj)]
    rfl⟩
theorem OX (w : World) (d : Nat) (hd : d < 10) : Calls Tryz.prog 140 #[.int .i64 d] w (Ret w (.int .u8 (48 + (d : Int)))) := by
  have h1 : (d : Int) < 10 := by omega
  have h2 : IntKind.i64.wrap (48 + (d : Int)) = 48 + (d : Int) := by rw [IntKind.wrap_i64]; omega
  go_enter Tryz.func140, Tryz.ntmps140
  go_wp2
  go_ret
  exact ⟨rfl, Below.refl _ _⟩
def tabOk (w : World) : Prop := Lib.TabIs Tryz.prog w "internal/strconv.uint64pow10" .u64 Lib.pow10Tab
theorem gTab : Tryz.prog.globalNamed "internal/strconv.uint64pow10" = some 0 := by kernel_rfl
theorem tabOk.keep {w w' : World} (h : tabOk w) (hb : Below w.heap.size w w') : tabOk w' := Go.Joins.tab_stays gTab h hb (Nat.le_refl _)
def Vv (n : Int) : ByteArray := ⟨(Lib.itoa n).toArray⟩
theorem T5 (w : World) (n : Int) (hn : I64 n) (ht : tabOk w) : Calls Tryz.prog 93 #[.int .i64 n] w (Ret w (.string (Vv n))) := by
  have hcon := Sh.strconv_Itoa n hn.1 hn.2 w ht
  rw [show (⟨(Lib.itoa n).toArray⟩ : ByteArray) = Vv n from rfl] at hcon
  generalize Vv n = s at *
  clear ht hn
  go_enter Tryz.func93, Tryz.ntmps93
  go_wp2_with (go_at_call 138; refine hcon.mono ?_; rintro e w' ⟨rfl, k, os, rfl⟩; have hb := OW w k os; generalize Go.Sort.grow (w.drewN k) os = w9 at *)
  go_ret
  exact ⟨rfl, hb⟩
theorem Qad : ∀ (u : Nat), u < 1000 → (Lib.decDigits u).length ≤ 3 := by
  intro u hu
  rw [Lib.decDigits]
  split
  · simp
  rw [Lib.decDigits]
  split
  · simp
  rw [Lib.decDigits]
  split
  · simp
  omega
theorem WG {n : Int} (h : inR n 0 999 = true) : (Vv n).size ≤ 20 := by
  unfold inR at h
  simp only [Bool.and_eq_true, decide_eq_true_eq] at h
  have h1 := Qad n.toNat (by omega)
  unfold Vv Lib.itoa
  rw [if_neg (by omega)]
  show (Lib.decDigits n.toNat).toArray.size ≤ 20
  simp only [List.size_toArray]
  omega
theorem OY {n : Nat} (h : ¬ n < 10) : Lib.decDigits n = Lib.decDigits (n / 10) ++ [UInt8.ofNat (48 + n % 10)] := by rw [Lib.decDigits, dif_neg h]
theorem WH {n : Nat} (h : n < 10) : Lib.decDigits n = [UInt8.ofNat (48 + n)] := by rw [Lib.decDigits, dif_pos h]
def Nk (n : Nat) : List UInt8 := if n = 0 then [] else Lib.decDigits n
theorem LG {n : Nat} (h : n ≠ 0) (t : List UInt8) : Nk (n / 10) ++ (UInt8.ofNat (48 + n % 10) :: t) = Nk n ++ t := by
  unfold Nk
  rw [if_neg h]
  by_cases h10 : n < 10
  · rw [if_pos (by omega), WH h10, show n % 10 = n by omega]; rfl
  rw [if_neg (by omega), OY h10]; simp
theorem OZ (d : Nat) (hd : d < 10) (s : ByteArray) : (⟨#[UInt8.ofNat (48 + d)]⟩ : ByteArray) ++ s = ⟨(UInt8.ofNat (48 + d) :: s.data.toList).toArray⟩ := by
  apply ByteArray.ext
  rw [ByteArray.data_append]
  apply Array.toList_inj.1
  simp
set_option maxRecDepth 20000 in
theorem T6 (w : World) (n : Int) (hn : I64 n) (hr : inR n 0 999 = true) : Calls Tryz.prog 97 #[.int .i64 n] w (Ret w (.string (Vv n))) := by
  unfold inR at hr
  simp only [Bool.and_eq_true, decide_eq_true_eq] at hr
  obtain ⟨m, rfl⟩ : ∃ m : Nat, n = m := ⟨n.toNat, by omega⟩
  have hm : m < 1000 := by omega
  clear hr hn
  have hnum : Vv (m : Int) = ⟨(Lib.decDigits m).toArray⟩ := by
    unfold Vv Lib.itoa
    rw [if_neg (by omega)]
    rfl
  generalize Vv (m : Int) = res at *
  have HRES := Lib.hid hnum; clear hnum
  by_cases h0 : m = 0
  · subst h0
    have hr : res = ⟨#[48]⟩ := by rw [HRES.out, WH (by omega)]; rfl
    subst hr
    clear HRES
    go_enter Tryz.func97, Tryz.ntmps97
    go_wp2
    go_ret
    exact ⟨rfl, Below.refl _ _⟩
  have hm0 : ¬ ((m : Int) = 0) := by omega
  have hm1 : ¬ ((m : Int) < 0) := by omega
  go_enter Tryz.func97, Tryz.ntmps97
  go_wp2
  go_loopw [0, 4] (fun i s wr => ∃ (k : Nat) (t : ByteArray), k < 1000 ∧ i = .int .i64 k ∧ s = .string t ∧ t.size ≤ 1000 - k ∧ Below w.heap.size w wr ∧ Hid (Nk k ++ t.data.toList = Lib.decDigits m)) (fun i _ _ => (intOf i).toNat)
  case atStart => exact ⟨m, ⟨#[]⟩, hm, rfl, rfl, by simp [ByteArray.size], Below.refl _ _, Lib.hid (by unfold Nk; rw [if_neg h0]; simp)⟩
  case round =>
    obtain ⟨k, t, hk, rfl, rfl, hts, hB, hd⟩ := hrel
    by_cases hk0 : k = 0
    · subst hk0
      have hrt : res = t := by
        have h1 := hd.out
        unfold Nk at h1
        rw [if_pos rfl, List.nil_append] at h1
        rw [HRES.out, ← h1]
      subst hrt
      clear HRES hd
      go_wp2
      go_ret
      exact ⟨rfl, hB⟩
    have hk1 : ¬ ((k : Int) = 0) := by omega
    have hd10 : k % 10 < 10 := Nat.mod_lt _ (by decide)
    have hd0 : ¬ ((k : Int) % 10 < 0) := by omega
    have hcv : ∀ g : World, (convert 22 9 (.slice (some ⟨g.heap.size, 0, none⟩) 1 1)).run Tryz.prog (g.alloc (.cells #[.int .u8 (48 + (k : Int) % 10)] 5)) = .ok (.string ⟨#[UInt8.ofNat (48 + k % 10)]⟩) (g.alloc (.cells #[.int .u8 (48 + (k : Int) % 10)] 5)) := fun g => by
      have h := Lib.run_convert_whole (P := Tryz.prog) (g.alloc (.cells #[.int .u8 (48 + (k : Int) % 10)] 5)) 22 5 9 Tryz.underlying22 Tryz.underlying5 Tryz.underlying9 g.heap.size 0 ⟨#[UInt8.ofNat (48 + k % 10)]⟩ (fun i hi => by
        have hi0 : i = 0 := by have : i < 1 := hi; omega
        subst hi0
        have he : (48 + (k : Int) % 10) = ((UInt8.ofNat (48 + k % 10)).toNat : Int) := by rw [UInt8.toNat_ofNat']; omega
        show (g.alloc _).cell? ⟨g.heap.size, 0 + 0, none⟩ = some (.int .u8 ((UInt8.ofNat (48 + k % 10)).toNat : Int))
        rw [← he]
        simp [go_sem]) 1
      exact h
    go_wp2_with (go_at_call 140; have hfg := (fun w1 => OX w1 (k % 10) hd10); rw [show (((k % 10 : Nat)) : Int) = (k : Int) % 10 by omega] at hfg; refine MK (w := w) (hfg _) (by go_grown) ?_; clear hfg; intro g1 hG1 hb hz1 hz2; clear hb)
    go_roundw
    case rel => exact ⟨k / 10, ⟨#[UInt8.ofNat (48 + k % 10)]⟩ ++ t, by omega, by first | rfl | go_num, by rw [UInt8.ofNat_add]; rfl, by rw [ByteArray.size_append]; have : (⟨#[UInt8.ofNat (48 + k % 10)]⟩ : ByteArray).size = 1 := rfl; omega, by go_grown, Lib.hid (by rw [OZ _ hd10]; show Nk (k / 10) ++ (UInt8.ofNat (48 + k % 10) :: t.data.toList) = _; rw [LG hk0]; exact hd.out)⟩
    case measure => simp [intOf]; omega
section
variable {P : Program}
theorem Ms {f : Nat} (hok : Dq P f) {n : Int} {s : ByteArray} (hs : s.size ≤ maxLen) (h : ∀ w, Good P w → I64 n → Calls P f #[.int .i64 n] w (Ret w (.string s))) : ACalls P f [.i n] (.s s) := by
  refine ⟨hok, fun w hg F vals hF hall => ?_⟩
  cases hall with
  | cons h1 h2 =>
    cases h2
    obtain ⟨rfl, hi⟩ := h1
    refine (h w hg ((Pf n).1 hi)).mono ?_
    rintro e w' ⟨rfl, hb⟩
    exact ⟨_, fun _ => [], rfl, hb, fun _ => List.nodup_nil, fun k b hm => by simp at hm, fun k k' b hm => by simp at hm, rfl, hs⟩
end
theorem E0 {n : Int} (h : 0 ≤ n ∧ n ≤ 999) : (Vv n).size ≤ 20 := WG (CV h.1 h.2)
theorem T7 (n : Int) (h : 0 ≤ n ∧ n ≤ 999) : ACalls Tryz.prog 93 [.i n] (.s (Vv n)) := Ms (by unfold Dq; kernel_rfl) (by have := E0 h; unfold maxLen; omega) fun w hg hn => T5 w n hn (hg.tab _ gTab)
theorem T8 (n : Int) (h : 0 ≤ n ∧ n ≤ 999) : ACalls Tryz.prog 97 [.i n] (.s (Vv n)) := Ms (by unfold Dq; kernel_rfl) (by have := E0 h; unfold maxLen; omega) fun w _ hn => T6 w n hn (CV h.1 h.2)
end Go.Proofs.YtkbfhiamdcoieaaGreatDoor
namespace Go.Proofs.YtkbfhiamdcoieaaGreatDoor
open Go.RowKit
theorem WI {R S T : Type} {f : S → Rd R S T} (hf : ∀ s r, f s ≠ .ret r) : ∀ n s r, whl f n s ≠ some (.ret r)
  | 0, _, _ => by simp [whl]
  | n + 1, s, r => by
    simp only [whl]
    cases h : f s with
    | next s' => exact WI hf n s' r
    | brk t => simp
    | ret r' => exact absurd h (hf s r')
theorem O1 {R S T : Type} [Inhabited T] {f : S → Rd R S T} (hf : ∀ s r, f s ≠ .ret r) (n : Nat) (s : S) : ∃ t, Fp f n s = .brk t := by
  unfold Fp
  cases h : whl f n s with
  | none => exact ⟨default, rfl⟩
  | some o =>
    cases o with
    | brk t => exact ⟨t, rfl⟩
    | ret r => exact absurd h (WI hf n s r)
theorem LH {R S T : Type} {f : S → Rd R S T} (I : S → Prop) (J : T → Prop) (hn : ∀ s s', I s → f s = .next s' → I s') (hb : ∀ s t, I s → f s = .brk t → J t) : ∀ n s t, I s → whl f n s = some (.brk t) → J t
  | 0, _, _, _, h => by simp [whl] at h
  | n + 1, s, t, hi, h => by
    simp only [whl] at h
    cases hs : f s with
    | next s' => rw [hs] at h; exact LH I J hn hb n s' t (hn s s' hi hs) h
    | brk t' =>
      rw [hs] at h
      obtain rfl : t' = t := by simpa using h
      exact hb s t' hi hs
    | ret r => rw [hs] at h; simp at h
theorem Si {R S T : Type} [Inhabited T] {f : S → Rd R S T} (I : S → Prop) (J : T → Prop) (hn : ∀ s s', I s → f s = .next s' → I s') (hb : ∀ s t, I s → f s = .brk t → J t) {n : Nat} {s : S} {t : T} (hi : I s) (hw : (whl f n s).isSome = true) (h : Fp f n s = .brk t) : J t :=
  LH I J hn hb n s t hi (by rw [De hw, h])
theorem P6 {α R S T : Type} {f : Nat → α → S → Rd R S T} {e : Nat → S → T} (hf : ∀ k a s r, f k a s ≠ .ret r) : ∀ (l : List α) (k : Nat) (s : S), ∃ t, Xp f e l k s = .brk t
  | [], k, s => ⟨_, rfl⟩
  | a :: l, k, s => by
    simp only [Xp]
    cases h : f k a s with
    | next s' => exact P6 hf l (k + 1) s'
    | brk t => exact ⟨t, rfl⟩
    | ret r => exact absurd h (hf k a s r)
theorem AI {R S T : Type} {f : S → Rd R S T} (I : S → Prop) (m : S → Int) (N : Int) (h : ∀ s s', I s → f s = .next s' → m s < N ∧ m s' = m s + 1 ∧ I s') : ∀ (n : Nat) (s : S), I s → N ≤ m s + n → (whl f (n + 1) s).isSome = true
  | 0, s, hi, hn => by
    simp only [whl]
    cases hs : f s with
    | next s' => have := (h s s' hi hs).1; omega
    | brk t => rfl
    | ret r => rfl
  | n + 1, s, hi, hn => by
    rw [whl]
    cases hs : f s with
    | next s' =>
      obtain ⟨h1, h2, h3⟩ := h s s' hi hs
      exact AI I m N h n s' h3 (by omega)
    | brk t => rfl
    | ret r => rfl
theorem Z8 {α R : Type} {t : α} {f : α → R} {P : R → Prop} (Q : α → Prop) (h : Q t) (k : ∀ x, Q x → P (f x)) : P (lt t f) := k t h
end Go.Proofs.YtkbfhiamdcoieaaGreatDoor
namespace Go.Proofs.YtkbfhiamdcoieaaGreatDoor
open Go.RowKit
open GoD (rd own)
theorem RP (a : UInt8) : InR .u8 (a.toNat : Int) := by
  have h : a.toNat < 256 := a.toNat_lt
  constructor <;> simp [IntKind.min, IntKind.max, IntKind.bits, IntKind.signed] <;> omega
instance instGoEU8 : GoE UInt8 where
  enc a := [.int .u8 (a.toNat : Int)]
  no_any h := by rw [List.mem_singleton.1 h]; simp
  enc_len _ := rfl
  n_pos := Nat.zero_lt_one
  wide _ := True
  wide_size _ := trivial
  vc_wide _ := trivial
  rd_vc {w cs a} h _ := by rw [show cs = _ from h]; exact .cons (.int (RP a)) .nil
  vc_rd h := by
    cases h with
    | cons h1 h2 => cases h2; cases h1; rfl
  own_oc h _ := by obtain ⟨rfl, h⟩ := h; rw [h]; exact OC.cons (L1 := []) (L2 := []) (.int (RP _)) .nil
  oc_own h _ := by
    cases h with
    | cons h1 h2 => cases h2; cases h1; exact ⟨rfl, rfl⟩
open GoE (enc wide)
def O2 (k0 : Nat) (a0 : UInt8) (s0 : Int) : Rd (Nat × Int) (Int) (Int) := (bif decide (((k0 : Nat) : Int) < (4000 : Int)) then (.next (KH .i64 (IntKind.i64.wrap (IntKind.i64.wrap (IntKind.i64.wrap (s0 * 131) + IntKind.i64.wrap (UInt8.toNat a0 : Int)) + 7)) 1073741823)) else (.brk s0))
def O3 (_ : Nat) (s0 : Int) : Int := s0
def Um (code : (List UInt8)) : Nat × Int := (Out.on (Xp O2 O3 code 0 (IntKind.i64.wrap (94701 + (code.length : Int)))) (fun y0 => (0, y0)))
set_option maxRecDepth 30000 in
theorem Fy (code : (List UInt8)) : ANew Tryz.prog 44 [.h code] [.h code, .i (((Um code).1 : Nat) : Int), .i ((Um code).2)] := by
 refine TL Tryz.func44 (fn := Tryz.f44) rfl (by unfold Dq; kernel_rfl) (Nat.le_of_ble_eq_true rfl) rfl fun w0 F0 hG => ?_
 refine sn Qb [0] [] (p0) ?_
 refine tn Qb [0, 3] [] (pl 1 code p0) ?_
 refine Qe (tu Qb [(3, .i (IntKind.i64.wrap (94701 + (code.length : Int)))), (4, .i 0)] [] [] [] (p0) ?_)
 refine wT 0 0 .sh code (fun hw1 hl2 => ?_)
 refine L3 O2 O3 code (IntKind.i64.wrap (94701 + (code.length : Int))) (fun k0 s0 => [(3, .i s0), (4, .i ((k0 : Nat) : Int))]) [3, 4] (fun y0 => [(3, .i y0)]) [3, 4] (Qd (by kernel_rfl)) (fun k0 s0 hk0 hI0 => ?_) (fun k0 s0 hk0 hI0 => ?_) (fun y0 hD0 => ?_)
 ·
  obtain ⟨a0, hx0⟩ := Xm (l := code) (i := k0) hk0
  refine Qe (sn Qb [0, 3, 4, 15] [] (pl 2 code (pe 3 (Qo (decide_eq_true (p := ((k0 : Nat) : Int) < (code.length : Int)) (by omega))) p0)) ?_)
  refine ck (decide (((k0 : Nat) : Int) < (4000 : Int))) (fun h3 => ?_) (fun h3 => ?_)
  ·
   have h3d := of_decide_eq_true h3
   refine Qh ?_
   refine Qe (Qs ?_)
   refine qn Qb [0, 3, 4] [] (pn 4 hx0 p0) ?_
   refine qu Qb [(3, .i (KH .i64 (IntKind.i64.wrap (IntKind.i64.wrap (IntKind.i64.wrap (s0 * 131) + IntKind.i64.wrap (UInt8.toNat a0 : Int)) + 7)) 1073741823)), (4, .i ((k0 + 1 : Nat) : Int))] [3, 4] [] [] (pe 1 (Jn (Qp k0 (by omega))) p0) ?_
   exact Exists.intro _ (And.intro (Qd (by kernel_rfl)) (Qx hx0 (Q6 h3 (rfl)) hI0))
  refine Q5 ?_
  exact Exists.intro _ (And.intro (Qd (by kernel_rfl)) (R9 hx0 (Qm h3 (rfl)) hI0))
 ·
  refine Qe (sn Qb [0, 3, 4, 15] [] (pl 2 code (pe 3 (Qo (decide_eq_false (p := ((k0 : Nat) : Int) < (code.length : Int)) (by omega))) p0)) ?_)
  refine ckF ?_
  refine Q5 ?_
  exact Exists.intro _ (And.intro (Qd (by kernel_rfl)) (Xn hk0 (rfl) hI0))
 refine sn Qb [2] [31] (p0) ?_
 refine Qg ?_
 exact Qcw [] 2 31 (congrArg (fun z => ([.h code, .i ((z.1 : Nat) : Int), .i z.2] : List C)) (show Um code = (0, y0) from Wc hD0 (rfl)).symm)
def Zq (code : (List UInt8)) (ci : Nat) (ch : Int) : Int × Nat × Int := (bif decide (((ci : Nat) : Int) < (code.length : Int)) then (KH .i64 (IntKind.i64.wrap (KH .i64 (MQ .i64 (KB .i64 (IntKind.i64.wrap (IntKind.i64.wrap (ch * 6364136223846793005) + 1442695040888963407)) 33) (KB .i64 (IntKind.i64.wrap (IntKind.i64.wrap (ch * 6364136223846793005) + 1442695040888963407)) 45)) 255 + IntKind.i64.wrap (UInt8.toNat (nth code ci) : Int))) 255, ci + 1, IntKind.i64.wrap (IntKind.i64.wrap (ch * 6364136223846793005) + 1442695040888963407)) else (KH .i64 (MQ .i64 (KB .i64 (IntKind.i64.wrap (IntKind.i64.wrap (ch * 6364136223846793005) + 1442695040888963407)) 33) (KB .i64 (IntKind.i64.wrap (IntKind.i64.wrap (ch * 6364136223846793005) + 1442695040888963407)) 45)) 255, ci, IntKind.i64.wrap (IntKind.i64.wrap (ch * 6364136223846793005) + 1442695040888963407)))
theorem Cj (code : (List UInt8)) (ci : Nat) (ch : Int) : AGive Tryz.prog 116 [.h code, .i ((ci : Nat) : Int), .i ch] [] (.i (((Zq code ci ch)).1)) [.h code, .i ((((Zq code ci ch)).2.1 : Nat) : Int), .i (((Zq code ci ch)).2.2)] := by
 refine Ky (tt := tt) Qb Tryz.func116 (fn := Tryz.f116) rfl (by unfold Dq; kernel_rfl) (Nat.le_of_ble_eq_true rfl) (Nat.le_of_ble_eq_true rfl) rfl rfl fun w0 F0 hG => ?_
 refine sn Qb [0, 2] [60000] (p0) ?_
 refine tn Qb [0, 2] [60000] (p0) ?_
 refine tU Qb Yo [(2, .i 0), (3, .i (KH .i64 (MQ .i64 (KB .i64 (IntKind.i64.wrap (IntKind.i64.wrap (ch * 6364136223846793005) + 1442695040888963407)) 33) (KB .i64 (IntKind.i64.wrap (IntKind.i64.wrap (ch * 6364136223846793005) + 1442695040888963407)) 45)) 255))] [] [(60000, [.h code, .i ((ci : Nat) : Int), .i (IntKind.i64.wrap (IntKind.i64.wrap (ch * 6364136223846793005) + 1442695040888963407))])] [60000] (p0) ?_
 refine Qe (sN Qb Yo [0, 2, 3, 34] [60000] (pl 8 code p0) ?_)
 refine ck (decide (((ci : Nat) : Int) < (code.length : Int))) (fun h1 => ?_) (fun h1 => ?_)
 ·
  have h1d := of_decide_eq_true h1
  refine wB 60000 0 .sh code (fun hw3 hl4 => ?_)
  have hx2 := ng code ci
  refine tN Qb Yo [0, 2, 3] [60000] (pn 9 hx2 p0) ?_
  refine qu Qb [(3, .i (KH .i64 (IntKind.i64.wrap (KH .i64 (MQ .i64 (KB .i64 (IntKind.i64.wrap (IntKind.i64.wrap (ch * 6364136223846793005) + 1442695040888963407)) 33) (KB .i64 (IntKind.i64.wrap (IntKind.i64.wrap (ch * 6364136223846793005) + 1442695040888963407)) 45)) 255 + IntKind.i64.wrap (UInt8.toNat (nth code ci) : Int))) 255))] [3] [(60000, [.h code, .i ((ci + 1 : Nat) : Int), .i (IntKind.i64.wrap (IntKind.i64.wrap (ch * 6364136223846793005) + 1442695040888963407))])] [60000] (pe 5 (Jn (Qp ci (by omega))) p0) ?_
  refine sn Qb [0, 2] [60000] (p0) ?_
  refine Qg ?_
  have hE5 : Zq code ci ch = (KH .i64 (IntKind.i64.wrap (KH .i64 (MQ .i64 (KB .i64 (IntKind.i64.wrap (IntKind.i64.wrap (ch * 6364136223846793005) + 1442695040888963407)) 33) (KB .i64 (IntKind.i64.wrap (IntKind.i64.wrap (ch * 6364136223846793005) + 1442695040888963407)) 45)) 255 + IntKind.i64.wrap (UInt8.toNat (nth code ci) : Int))) 255, ci + 1, IntKind.i64.wrap (IntKind.i64.wrap (ch * 6364136223846793005) + 1442695040888963407)) := Q6 h1 (rfl)
  exact Hl [] (congrArg (fun z => (.i z.1 : AV)) hE5.symm) (congrArg (fun z => ([.h code, .i ((z.2.1 : Nat) : Int), .i z.2.2] : List C)) hE5.symm)
 refine Qh ?_
 refine tn Qb [0, 2] [60000] (p0) ?_
 refine Qg ?_
 have hE6 : Zq code ci ch = (KH .i64 (MQ .i64 (KB .i64 (IntKind.i64.wrap (IntKind.i64.wrap (ch * 6364136223846793005) + 1442695040888963407)) 33) (KB .i64 (IntKind.i64.wrap (IntKind.i64.wrap (ch * 6364136223846793005) + 1442695040888963407)) 45)) 255, ci, IntKind.i64.wrap (IntKind.i64.wrap (ch * 6364136223846793005) + 1442695040888963407)) := Qm h1 (rfl)
 exact Hl [] (congrArg (fun z => (.i z.1 : AV)) hE6.symm) (congrArg (fun z => ([.h code, .i ((z.2.1 : Nat) : Int), .i z.2.2] : List C)) hE6.symm)
end Go.Proofs.YtkbfhiamdcoieaaGreatDoor
namespace Go.Proofs.YtkbfhiamdcoieaaGreatDoor
open Go.RowKit
theorem Qbp (a : Int) : 0 ≤ KH .i64 a 255 ∧ KH .i64 a 255 ≤ 255 := by
  have h : (BitVec.ofInt 64 a &&& BitVec.ofInt 64 255).toNat ≤ 255 := by
    rw [BitVec.toNat_and]
    exact Nat.le_trans Nat.and_le_right (by decide)
  have e : KH .i64 a 255 = IntKind.i64.wrap (BitVec.ofInt 64 a &&& BitVec.ofInt 64 255).toNat := rfl
  rw [e, IntWalk.i64_in _ (by omega)]
  omega
theorem Kz (code : List UInt8) (ci : Nat) (ch : Int) : 0 ≤ (Zq code ci ch).1 ∧ (Zq code ci ch).1 ≤ 255 := by
  unfold Zq
  cases decide (((ci : Nat) : Int) < (code.length : Int)) <;> exact Qbp _
open GoE (enc wide)
def Qk (code : (List UInt8)) (ci : Nat) (ch : Int) (n : Int) : Int × Nat × Int := (bif decide (n ≤ (0 : Int)) then (0, ci, ch) else (bif decide (n ≤ (256 : Int)) then (lt (α := Int × Nat × Int) (Zq code ci ch) (fun x4 => (Int.tmod x4.1 n, x4.2.1, x4.2.2))) else (lt (α := Int × Nat × Int) (Zq code ci ch) (fun x6 => (lt (α := Int × Nat × Int) (Zq code x6.2.1 x6.2.2) (fun x7 => (lt (α := Int × Nat × Int) (Zq code x7.2.1 x7.2.2) (fun x8 => (lt (α := Int × Nat × Int) (Zq code x8.2.1 x8.2.2) (fun x9 => (Int.tmod ((((x6.1 * 16777216) + (x7.1 * 65536)) + (x8.1 * 256)) + x9.1) n, x9.2.1, x9.2.2)))))))))))
theorem Xc (code : (List UInt8)) (ci : Nat) (ch : Int) (n : Int) : AGive Tryz.prog 71 [.h code, .i ((ci : Nat) : Int), .i ch] [.i n] (.i (((Qk code ci ch n)).1)) [.h code, .i ((((Qk code ci ch n)).2.1 : Nat) : Int), .i (((Qk code ci ch n)).2.2)] := by
 refine Ky (tt := tt) Qb Tryz.func71 (fn := Tryz.f71) rfl (by unfold Dq; kernel_rfl) (Nat.le_of_ble_eq_true rfl) (Nat.le_of_ble_eq_true rfl) rfl rfl fun w0 F0 hG => ?_
 refine sn Qb [0, 1, 4] [60000] (p0) ?_
 refine Qe (tn Qb [0, 1, 4, 10] [60000] (p0) ?_)
 refine ck (decide (n ≤ (0 : Int))) (fun h1 => ?_) (fun h1 => ?_)
 ·
  refine tu Qb [(4, .i 0)] [] [] [] (p0) ?_
  refine Qg ?_
  have hE2 : Qk code ci ch n = (0, ci, ch) := Q6 h1 (rfl)
  exact Hl [] (congrArg (fun z => (.i z.1 : AV)) hE2.symm) (congrArg (fun z => ([.h code, .i ((z.2.1 : Nat) : Int), .i z.2.2] : List C)) hE2.symm)
 have h1d := of_decide_eq_false h1
 refine Qh ?_
 refine Qe (tu Qb [(4, .i 0), (12, .b (decide (n ≤ (256 : Int))))] [] [] [] (p0) ?_)
 refine ck (decide (n ≤ (256 : Int))) (fun h3 => ?_) (fun h3 => ?_)
 ·
  have h3d := of_decide_eq_true h3
  obtain ⟨x4, hx4⟩ : ∃ z : Int × Nat × Int, Zq code ci ch = z := ⟨_, rfl⟩
  have hbx4 := hx4 ▸ Kz code ci ch
  refine sn Qb [0, 1, 4] [60000] (po 1 (.give none (.i x4.1) [.h code, .i ((x4.2.1 : Nat) : Int), .i x4.2.2]) (px (Q8 (hx4 ▸ Cj code ci ch)) (px (SX (n := n) (by omega)) (px (FV (k := .i64) (n := Int.tmod x4.1 n) (ZR (by omega))) p0)))) ?_
  refine Qg ?_
  have hE5 : Qk code ci ch n = (Int.tmod x4.1 n, x4.2.1, x4.2.2) := Qm h1 (Q6 h3 (Yn hx4 (rfl)))
  exact Hl [] (congrArg (fun z => (.i z.1 : AV)) hE5.symm) (congrArg (fun z => ([.h code, .i ((z.2.1 : Nat) : Int), .i z.2.2] : List C)) hE5.symm)
 have h3d := of_decide_eq_false h3
 refine Qh ?_
 obtain ⟨x6, hx6⟩ : ∃ z : Int × Nat × Int, Zq code ci ch = z := ⟨_, rfl⟩
 have hbx6 := hx6 ▸ Kz code ci ch
 refine sn Qb [0, 1, 4, 5] [60000] (po 1 (.give none (.i x6.1) [.h code, .i ((x6.2.1 : Nat) : Int), .i x6.2.2]) (px (Q8 (hx6 ▸ Cj code ci ch)) p0)) ?_
 obtain ⟨x7, hx7⟩ : ∃ z : Int × Nat × Int, Zq code x6.2.1 x6.2.2 = z := ⟨_, rfl⟩
 have hbx7 := hx7 ▸ Kz code x6.2.1 x6.2.2
 refine tn Qb [0, 1, 4, 5, 6] [60000] (po 1 (.give none (.i x7.1) [.h code, .i ((x7.2.1 : Nat) : Int), .i x7.2.2]) (px (Q8 (hx7 ▸ Cj code x6.2.1 x6.2.2)) p0)) ?_
 obtain ⟨x8, hx8⟩ : ∃ z : Int × Nat × Int, Zq code x7.2.1 x7.2.2 = z := ⟨_, rfl⟩
 have hbx8 := hx8 ▸ Kz code x7.2.1 x7.2.2
 refine tu Qb [(5, .i x6.1), (6, .i x7.1), (7, .i x8.1)] [12] [(60000, [.h code, .i ((x8.2.1 : Nat) : Int), .i x8.2.2])] [60000] (po 1 (.give none (.i x8.1) [.h code, .i ((x8.2.1 : Nat) : Int), .i x8.2.2]) (px (Q8 (hx8 ▸ Cj code x7.2.1 x7.2.2)) p0)) ?_
 obtain ⟨x9, hx9⟩ : ∃ z : Int × Nat × Int, Zq code x8.2.1 x8.2.2 = z := ⟨_, rfl⟩
 have hbx9 := hx9 ▸ Kz code x8.2.1 x8.2.2
 refine sn Qb [0, 1, 4, 5, 6, 7, 8] [60000] (po 1 (.give none (.i x9.1) [.h code, .i ((x9.2.1 : Nat) : Int), .i x9.2.2]) (px (Q8 (hx9 ▸ Cj code x8.2.1 x8.2.2)) p0)) ?_
 refine tn Qb [0, 4] [60000] (pe 1 (Jn (IntWalk.i64_in (x6.1 * 16777216) (by omega))) (pe 3 (Jn (IntWalk.i64_in (x7.1 * 65536) (by omega))) (pe 4 (Jn (IntWalk.i64_in ((x6.1 * 16777216) + (x7.1 * 65536)) (by omega))) (pe 6 (Jn (IntWalk.i64_in (x8.1 * 256) (by omega))) (pe 7 (Jn (IntWalk.i64_in (((x6.1 * 16777216) + (x7.1 * 65536)) + (x8.1 * 256)) (by omega))) (pe 9 (Jn (IntWalk.i64_in ((((x6.1 * 16777216) + (x7.1 * 65536)) + (x8.1 * 256)) + x9.1) (by omega))) (px (SX (n := n) (by omega)) (px (FV (k := .i64) (n := Int.tmod ((((x6.1 * 16777216) + (x7.1 * 65536)) + (x8.1 * 256)) + x9.1) n) (ZR (by omega))) p0)))))))) ?_
 refine Qg ?_
 have hE10 : Qk code ci ch n = (Int.tmod ((((x6.1 * 16777216) + (x7.1 * 65536)) + (x8.1 * 256)) + x9.1) n, x9.2.1, x9.2.2) := Qm h1 (Qm h3 (Yn hx6 (Yn hx7 (Yn hx8 (Yn hx9 (rfl))))))
 exact Hl [] (congrArg (fun z => (.i z.1 : AV)) hE10.symm) (congrArg (fun z => ([.h code, .i ((z.2.1 : Nat) : Int), .i z.2.2] : List C)) hE10.symm)
end Go.Proofs.YtkbfhiamdcoieaaGreatDoor
namespace Go.Proofs.YtkbfhiamdcoieaaGreatDoor
open Go.RowKit
theorem Q0 (code : List UInt8) (ci : Nat) (ch n : Int) : 0 ≤ (Qk code ci ch n).1 ∧ (0 < n → (Qk code ci ch n).1 < n) ∧ (n ≤ 0 → (Qk code ci ch n).1 = 0) := by
  unfold Qk lt
  by_cases h0 : n ≤ 0
  · rw [decide_eq_true h0]
    exact ⟨Int.le_refl _, fun h => by omega, fun _ => rfl⟩
  rw [decide_eq_false h0]
  have hn : 0 < n := by omega
  cases decide (n ≤ (256 : Int)) with
  | true =>
    have := Kz code ci ch
    exact ⟨Int.tmod_nonneg _ this.1, fun _ => Int.tmod_lt_of_pos _ hn, fun h => by omega⟩
  | false =>
    simp only [cond_false]
    generalize hx6 : Zq code ci ch = x6
    generalize hx7 : Zq code x6.2.1 x6.2.2 = x7
    generalize hx8 : Zq code x7.2.1 x7.2.2 = x8
    generalize hx9 : Zq code x8.2.1 x8.2.2 = x9
    have h6 := hx6 ▸ Kz code ci ch
    have h7 := hx7 ▸ Kz code x6.2.1 x6.2.2
    have h8 := hx8 ▸ Kz code x7.2.1 x7.2.2
    have h9 := hx9 ▸ Kz code x8.2.1 x8.2.2
    exact ⟨Int.tmod_nonneg _ (by omega), fun _ => Int.tmod_lt_of_pos _ hn, fun h => by omega⟩
open GoE (enc wide)
def Di (_ : Nat) (a0 : Q9) (s0 : (List Q9)) : Rd (Ql) ((List Q9)) ((List Q9)) := (.next (s0 ++ [(Qn a0)]))
def Dj (_ : Nat) (s0 : (List Q9)) : (List Q9) := s0
def Qf (s_ : Ql) : Ql := (Out.on (Xp Di Dj s_.2.1 0 []) (fun y0 => (s_.1, y0, s_.2.2)))
theorem Ih (s_ : Ql) : ACalls Tryz.prog 126 [.a [.h s_.1, .h s_.2.1, .i s_.2.2]] (.a [.o 0 ((Qf s_).1), .o 1 ((Qf s_).2.1), .i ((Qf s_).2.2)]) := by
 refine en Qb Tryz.func126 fun w0 F0 hG => ?_
 refine sn Qb [1, 2] [1, 2] (p0) ?_
 refine wB 1 0 .sh s_.1 (fun hw1 hl2 => ?_)
 refine tN Qb Yo [1, 2, 3] [1, 2, 3] (po 3 (.flat) (px (Ds (n := (([] : List (List PV)).length + ((eL s_.1) : List (List PV)).length)) (Gi (rfl) (Y5 s_.1) (by first | omega | (simp only [List.length_cons, List.length_nil]; omega) | (simp; omega) | simp))) (px (A7 (Af s_.1)) p0))) ?_
 refine Qe (tu Qb [(1, .p 1 0), (2, .p 2 0), (3, .p 3 0), (4, .i 0)] [0] [(1, [.h s_.1, .h s_.2.1, .i s_.2.2]), (2, [.e 2, .e 5, .i 0]), (3, [.o 512 s_.1, .e 5, .i s_.2.2])] [] (p0) ?_)
 refine wB 1 1 .sh s_.2.1 (fun hw3 hl4 => ?_)
 refine Rw Di Dj s_.2.1 [] (fun k0 _ => [(4, .i ((k0 : Nat) : Int))]) [4] (fun _ s0 => [(3, [.o 512 s_.1, .o 147211 s0, .i s_.2.2])]) [3] (fun _ => []) [1, 4] (fun y0 => [(3, [.o 512 s_.1, .o 147361 y0, .i s_.2.2])]) [1, 3] (fun k0 s0 => List.length s0 ≤ k0) (Dz [(true, 3, 1, true, 320008, 5)] [] [] [(320008, 147211)] (by kernel_rfl)) (by simp) (fun k0 s0 hk0 hI0 => ?_) (fun k0 s0 hk0 hI0 => ?_) (fun y0 hD0 => ?_)
 ·
  have hA0_0 := hI0.2
  obtain ⟨a0, hx0⟩ := Xm (l := s_.2.1) (i := k0) hk0
  refine Qe (su Qb [(16, .b true)] [] [] [] (pl 3 s_.2.1 (pe 4 (Qo (decide_eq_true (p := ((k0 : Nat) : Int) < (s_.2.1.length : Int)) (by omega))) p0)) ?_)
  refine ckT ?_
  refine Qh ?_
  refine Qe (Qs ?_)
  refine wB 3 1 (.own true 147211) s0 (fun hw5 hl6 => ?_)
  refine rU Qb Yo [] [16] [(3, [.o 512 s_.1, .slc (.own true 1792) 5 ((eL s0) ++ [[.i ((Qn a0).1), .i ((Qn a0).2.1), .b ((Qn a0).2.2.1), .i ((Qn a0).2.2.2.1), .h ((Qn a0).2.2.2.2)]]), .i s_.2.2])] [3] (pn 5 hx0 (pc 7 (Cg a0) (pa s0 [(Qn a0)] p0))) ?_
  refine eqn [] [] [(3, [.o 512 s_.1, .o 1792 (s0 ++ [(Qn a0)]), .i s_.2.2])] [3] (by rw [show ((eL s0) ++ [[.i ((Qn a0).1), .i ((Qn a0).2.1), .b ((Qn a0).2.2.1), .i ((Qn a0).2.2.2.1), .h ((Qn a0).2.2.2.2)]]) = (eL (s0 ++ [(Qn a0)])) from Kj (rfl) (rfl)]; first | done | kernel_rfl) ?_
  refine rn Qb [1, 2, 3, 4] [1, 2, 3] (pe 1 (Jn (Qp k0 (by omega))) p0) ?_
  exact Exists.intro (s0 ++ [(Qn a0)]) (And.intro (X2 [(1792, 147211)] (by kernel_rfl)) ⟨Qx hx0 (rfl) hI0.1, by first | omega | (simp; omega) | simp⟩)
 ·
  have hA0_0 := hI0.2
  refine Qe (su Qb [(16, .b false)] [] [] [] (pl 3 s_.2.1 (pe 4 (Qo (decide_eq_false (p := ((k0 : Nat) : Int) < (s_.2.1.length : Int)) (by omega))) p0)) ?_)
  refine ckF ?_
  refine Q5 ?_
  exact Exists.intro _ (And.intro (X2 [(147211, 147361)] (by kernel_rfl)) (Xn hk0 (rfl) hI0.1))
 refine sn Qb [2] [2] (p0) ?_
 refine Qg ?_
 exact pz [] (show Qf s_ = _ from Wc hD0 (rfl)) (fun z => .a [.o 0 z.1, .o 1 z.2.1, .i z.2.2])
def Xv (s_ : Ql) (f : Q9) : Ql × Int × Bool := (bif ((!(Qw (Qf s_))) || (decide ((((Qf s_).2.1).length : Int) ≥ (12 : Int)) || (!(Xi ((Qf s_).1) ((Qf s_).2.2, (Qn f).2.1, (Qn f).2.2.1, (Qn f).2.2.2.1, (Qn f).2.2.2.2))))) then ((Qf s_), 0, false) else (((Qf s_).1, (Qf s_).2.1 ++ [((Qf s_).2.2, (Qn f).2.1, (Qn f).2.2.1, (Qn f).2.2.2.1, (Qn f).2.2.2.2)], IntKind.i64.wrap ((Qf s_).2.2 + 1)), (Qf s_).2.2, true))
theorem D8 (s_ : Ql) (f : Q9) : ACalls Tryz.prog 80 [.a [.h s_.1, .h s_.2.1, .i s_.2.2], .a [.i f.1, .i f.2.1, .b f.2.2.1, .i f.2.2.2.1, .h f.2.2.2.2]] (.tup [(true, [.o 0 ((((Xv s_ f)).1).1), .o 1 ((((Xv s_ f)).1).2.1), .i ((((Xv s_ f)).1).2.2)]), (false, [.i (((Xv s_ f)).2.1)]), (false, [.b (((Xv s_ f)).2.2)])]) := by
 refine en Qb Tryz.func80 fun w0 F0 hG => ?_
 refine sn Qb [2, 3, 4, 5, 6] [2, 3, 4] (p0) ?_
 refine tn Qb [2, 3, 4, 5, 6] [2, 3, 4] (pc 1 (Ih s_) p0) ?_
 refine tu Qb [(2, .p 2 0), (3, .p 3 0), (4, .p 4 0), (5, .i 0), (6, .b false)] [0, 1] [(2, [.o 512 ((Qf s_).1), .o 513 ((Qf s_).2.1), .i ((Qf s_).2.2)]), (3, [.i ((Qn f).1), .i ((Qn f).2.1), .b ((Qn f).2.2.1), .i ((Qn f).2.2.2.1), .o 640 ((Qn f).2.2.2.2)]), (4, [.e 2, .e 5, .i 0])] [] (pc 1 (Cg f) p0) ?_
 refine sn Qb [2, 3, 4, 5, 6] [2, 3, 4] (p0) ?_
 refine Qe (Qe (mz [] [] [(3, [.i ((Qf s_).2.2), .i ((Qn f).2.1), .b ((Qn f).2.2.1), .i ((Qn f).2.2.2.1), .o 640 ((Qn f).2.2.2.2)])] [3] ?_))
 refine jn [(29, .b ((!(Qw (Qf s_))) || (decide ((((Qf s_).2.1).length : Int) ≥ (12 : Int)) || (!(Xi ((Qf s_).1) ((Qf s_).2.2, (Qn f).2.1, (Qn f).2.2.1, (Qn f).2.2.2.1, (Qn f).2.2.2.2))))))] [] [] [] (!(Qw (Qf s_))) (fun h1 => ?_) (fun h1 => ?_) ?_
 ·
  have h1n : (Qw (Qf s_)) = false := Vr h1
  refine ru Qb [(29, .b true)] [] [] [] (pc 1 (cb h1n (Za (Qf s_))) (pe 2 (show .b (!false) = .b true from rfl) p0)) ?_
  exact ⟨rfl, Qd (by rw [h1]; first | done | kernel_rfl)⟩
 ·
  have h1n : (Qw (Qf s_)) = true := Ze h1
  refine Xl (decide ((((Qf s_).2.1).length : Int) ≥ (12 : Int))) (fun h2 => ?_) (fun h2 => ?_)
  ·
   refine ru Qb [(29, .b true)] [] [] [] (pc 1 (cb h1n (Za (Qf s_))) (pe 2 (show .b (!true) = .b false from rfl) (pl 6 ((Qf s_).2.1) (pt 7 h2 p0)))) ?_
   exact ⟨rfl, Qd (by rw [h1, h2]; first | done | kernel_rfl)⟩
  refine rn Qb [2, 3, 4, 5, 6, 29] [2, 3, 4] (pc 1 (cb h1n (Za (Qf s_))) (pe 2 (show .b (!true) = .b false from rfl) (pl 6 ((Qf s_).2.1) (pf 7 h2 (pc 13 (Wh ((Qf s_).1) ((Qf s_).2.2, (Qn f).2.1, (Qn f).2.2.1, (Qn f).2.2.2.1, (Qn f).2.2.2.2)) p0))))) ?_
  exact ⟨rfl, Qd (by rw [h1, h2]; first | done | kernel_rfl)⟩
 refine ck ((!(Qw (Qf s_))) || (decide ((((Qf s_).2.1).length : Int) ≥ (12 : Int)) || (!(Xi ((Qf s_).1) ((Qf s_).2.2, (Qn f).2.1, (Qn f).2.2.1, (Qn f).2.2.2.1, (Qn f).2.2.2.2))))) (fun h3 => ?_) (fun h3 => ?_)
 ·
  refine sn Qb [2, 3, 4, 5, 6] [2, 3, 4] (p0) ?_
  refine Qg ?_
  exact pz [] (show Xv s_ f = _ from Q6 h3 (rfl)) (fun z => .tup [(true, [.o 0 z.1.1, .o 1 z.1.2.1, .i z.1.2.2]), (false, [.i z.2.1]), (false, [.b z.2.2])])
 have h3r : ((decide ((((Qf s_).2.1).length : Int) ≥ (12 : Int)) || (!(Xi ((Qf s_).1) ((Qf s_).2.2, (Qn f).2.1, (Qn f).2.2.1, (Qn f).2.2.2.1, (Qn f).2.2.2.2))))) = false := Px h3
 have h3rl : (decide ((((Qf s_).2.1).length : Int) ≥ (12 : Int))) = false := Pw h3r
 have h3rld := of_decide_eq_false h3rl
 refine Qh ?_
 refine wB 2 1 (.own true 513) ((Qf s_).2.1) (fun hw4 hl5 => ?_)
 refine su Qb [] [29] [(2, [.o 512 ((Qf s_).1), .slc (.own true 2240) 5 ((eL ((Qf s_).2.1)) ++ [[.i ((Qf s_).2.2), .i ((Qn f).2.1), .b ((Qn f).2.2.1), .i ((Qn f).2.2.2.1), .h ((Qn f).2.2.2.2)]]), .i ((Qf s_).2.2)]), (3, [.i ((Qf s_).2.2), .i ((Qn f).2.1), .b ((Qn f).2.2.1), .i ((Qn f).2.2.2.1), .dead])] [2, 3] (pa ((Qf s_).2.1) [((Qf s_).2.2, (Qn f).2.1, (Qn f).2.2.1, (Qn f).2.2.2.1, (Qn f).2.2.2.2)] p0) ?_
 refine eqn [] [] [(2, [.o 512 ((Qf s_).1), .o 2240 ((Qf s_).2.1 ++ [((Qf s_).2.2, (Qn f).2.1, (Qn f).2.2.1, (Qn f).2.2.2.1, (Qn f).2.2.2.2)]), .i ((Qf s_).2.2)])] [2] (by rw [show ((eL ((Qf s_).2.1)) ++ [[.i ((Qf s_).2.2), .i ((Qn f).2.1), .b ((Qn f).2.2.1), .i ((Qn f).2.2.2.1), .h ((Qn f).2.2.2.2)]]) = (eL ((Qf s_).2.1 ++ [((Qf s_).2.2, (Qn f).2.1, (Qn f).2.2.1, (Qn f).2.2.2.1, (Qn f).2.2.2.2)])) from Kj (rfl) (rfl)]; first | done | kernel_rfl) ?_
 refine sn Qb [2, 3, 4, 5, 6] [2, 3, 4] (p0) ?_
 refine tN Qb Yo [4, 5, 6] [4] (p0) ?_
 refine Qg ?_
 exact pz [] (show Xv s_ f = _ from Qm h3 (rfl)) (fun z => .tup [(true, [.o 0 z.1.1, .o 1 z.1.2.1, .i z.1.2.2]), (false, [.i z.2.1]), (false, [.b z.2.2])])
def Z9 (s_ : (List Yq)) : Ql := (s_, [], 1)
theorem QZ (s_ : (List Yq)) : ACalls Tryz.prog 113 [.h s_] (.a [.o 0 ((Z9 s_).1), .o 1 ((Z9 s_).2.1), .i ((Z9 s_).2.2)]) := by
 refine en Qb Tryz.func113 fun w0 F0 hG => ?_
 refine sn Qb [0, 2] [2] (p0) ?_
 refine wT 0 0 .sh s_ (fun hw1 hl2 => ?_)
 refine tn Qb [2] [2] (po 2 (.flat) (px (Ds (n := (([] : List (List PV)).length + ((eL s_) : List (List PV)).length)) (Gi (rfl) (Y5 s_) (by first | omega | (simp only [List.length_cons, List.length_nil]; omega) | (simp; omega) | simp))) (px (A7 (Af s_)) p0))) ?_
 refine opn [(true, 2, 1, true, 384000, 5)] ?_
 refine Qg ?_
 exact pz [] (show Z9 s_ = (s_, [], 1) from rfl) (fun z => .a [.o 0 z.1, .o 1 z.2.1, .i z.2.2])
def Yw (s_ : Ql) (id : Int) : Ql × Bool := (bif ((!(Qw (Qf s_))) || decide ((Q2 (Qf s_) id) < (0 : Int))) then ((Qf s_), false) else (((Qf s_).1, List.take (Int.toNat (Q2 (Qf s_) id)) ((Qf s_).2.1) ++ (List.drop (Int.toNat ((Q2 (Qf s_) id) + 1)) ((Qf s_).2.1)), (Qf s_).2.2), true))
theorem Iv (s_ : Ql) (id : Int) : ACalls Tryz.prog 115 [.a [.h s_.1, .h s_.2.1, .i s_.2.2], .i id] (.tup [(true, [.o 0 ((((Yw s_ id)).1).1), .q 1 ((((Yw s_ id)).1).2.1), .i ((((Yw s_ id)).1).2.2)]), (false, [.b (((Yw s_ id)).2)])]) := by
 refine en Qb Tryz.func115 fun w0 F0 hG => ?_
 refine sn Qb [1, 2, 4, 5] [2, 4] (p0) ?_
 refine tn Qb [1, 2, 4, 5] [2, 4] (pc 1 (Ih s_) p0) ?_
 refine tu Qb [(2, .p 2 0), (4, .p 4 0), (5, .b false), (6, .i (Q2 (Qf s_) id))] [0, 1] [(2, [.o 512 ((Qf s_).1), .o 513 ((Qf s_).2.1), .i ((Qf s_).2.2)]), (4, [.e 2, .e 5, .i 0])] [] (pc 2 (Dh (Qf s_) id) p0) ?_
 refine Qe (Qe (jn [(18, .b ((!(Qw (Qf s_))) || decide ((Q2 (Qf s_) id) < (0 : Int))))] [] [] [] (!(Qw (Qf s_))) (fun h1 => ?_) (fun h1 => ?_) ?_))
 ·
  have h1n : (Qw (Qf s_)) = false := Vr h1
  refine rn Qb [2, 4, 5, 6, 18] [2, 4] (pc 1 (cb h1n (Za (Qf s_))) (pe 2 (show .b (!false) = .b true from rfl) p0)) ?_
  exact ⟨rfl, Qd (by rw [h1]; first | done | kernel_rfl)⟩
 ·
  have h1n : (Qw (Qf s_)) = true := Ze h1
  refine rn Qb [2, 4, 5, 6, 18] [2, 4] (pc 1 (cb h1n (Za (Qf s_))) (pe 2 (show .b (!true) = .b false from rfl) p0)) ?_
  exact ⟨rfl, Qd (by rw [h1]; first | done | kernel_rfl)⟩
 refine ck ((!(Qw (Qf s_))) || decide ((Q2 (Qf s_) id) < (0 : Int))) (fun h2 => ?_) (fun h2 => ?_)
 ·
  refine sn Qb [2, 4, 5, 6] [2, 4] (p0) ?_
  refine E6 [513] rfl ?_
  refine Qg ?_
  exact pz [] (show Yw s_ id = _ from Q6 h2 (rfl)) (fun z => .tup [(true, [.o 0 z.1.1, .q 1 z.1.2.1, .i z.1.2.2]), (false, [.b z.2])])
 have h2r : (decide ((Q2 (Qf s_) id) < (0 : Int))) = false := Px h2
 have h2rp := T4 (Qf s_) id
 have h2rd := of_decide_eq_false h2r
 refine Qh ?_
 refine wB 2 1 (.own true 513) ((Qf s_).2.1) (fun hw3 hl4 => ?_)
 have hl5 : List.length (List.take (Int.toNat (Q2 (Qf s_) id)) ((Qf s_).2.1)) ≤ 1073741824 := Ao (N9 (Int.toNat (Q2 (Qf s_) id)) (hw3))
 have hl6 : List.length (List.drop (Int.toNat ((Q2 (Qf s_) id) + 1)) ((Qf s_).2.1)) ≤ 1073741824 := Ao (Oa (Int.toNat ((Q2 (Qf s_) id) + 1)) (hw3))
 refine Fs (A6 [513] rfl) ?_
 refine sU Qb Yo [] [6, 18] [(2, [.o 512 ((Qf s_).1), .slc (.own false 1984) 5 (([] ++ (eL (List.take (Int.toNat (Q2 (Qf s_) id)) ((Qf s_).2.1)))) ++ (eL (List.drop (Int.toNat ((Q2 (Qf s_) id) + 1)) ((Qf s_).2.1)))), .i ((Qf s_).2.2)])] [2] (pe 4 (Pu .sh 5 (Int.toNat (Q2 (Qf s_) id)) (Q2 (Qf s_) id) ((Qf s_).2.1) rfl) (px (Fu (lo := 0) (hi := (Q2 (Qf s_) id)) (n := (List.length (eL ((Qf s_).2.1)))) (YB (by omega) (by omega) (by omega))) (px (Ds (n := (([] : List (List PV)).length + ((eL (List.take (Int.toNat (Q2 (Qf s_) id)) ((Qf s_).2.1))) : List (List PV)).length)) (Gi (rfl) (Y5 (List.take (Int.toNat (Q2 (Qf s_) id)) ((Qf s_).2.1))) (by first | omega | (simp only [List.length_cons, List.length_nil]; omega) | (simp; omega) | simp))) (pe 9 (Jn (IntWalk.i64_in ((Q2 (Qf s_) id) + 1) (by omega))) (pe 10 (ZP .sh 5 (Int.toNat ((Q2 (Qf s_) id) + 1)) ((Q2 (Qf s_) id) + 1) ((Qf s_).2.1) rfl) (px (Fu (lo := ((Q2 (Qf s_) id) + 1)) (hi := (((eL ((Qf s_).2.1)) : List (List PV)).length : Int)) (n := (List.length (eL ((Qf s_).2.1)))) (ZQ (by omega) (by omega))) (px (Ds (n := ((([] ++ (eL (List.take (Int.toNat (Q2 (Qf s_) id)) ((Qf s_).2.1)))) : List (List PV)).length + ((eL (List.drop (Int.toNat ((Q2 (Qf s_) id) + 1)) ((Qf s_).2.1))) : List (List PV)).length)) (by simp [Y5]; omega)) p0))))))) ?_
 refine eqn [] [] [(2, [.o 512 ((Qf s_).1), .q 1984 (List.take (Int.toNat (Q2 (Qf s_) id)) ((Qf s_).2.1) ++ (List.drop (Int.toNat ((Q2 (Qf s_) id) + 1)) ((Qf s_).2.1))), .i ((Qf s_).2.2)])] [2] (by rw [show (([] ++ (eL (List.take (Int.toNat (Q2 (Qf s_) id)) ((Qf s_).2.1)))) ++ (eL (List.drop (Int.toNat ((Q2 (Qf s_) id) + 1)) ((Qf s_).2.1)))) = (eL (List.take (Int.toNat (Q2 (Qf s_) id)) ((Qf s_).2.1) ++ (List.drop (Int.toNat ((Q2 (Qf s_) id) + 1)) ((Qf s_).2.1)))) from Kj (rfl) (rfl)]; first | done | kernel_rfl) ?_
 refine sn Qb [4, 5] [4] (p0) ?_
 refine Qg ?_
 exact pz [] (show Yw s_ id = _ from Qm h2 (rfl)) (fun z => .tup [(true, [.o 0 z.1.1, .q 1 z.1.2.1, .i z.1.2.2]), (false, [.b z.2])])
def Y8 (s_ : Ql) (id : Int) : Q9 × Bool := (bif decide ((Q2 s_ id) < (0 : Int)) then ((0, 0, false, 0, []), false) else ((Qn (nth s_.2.1 (Int.toNat (Q2 s_ id)))), true))
theorem Mt (s_ : Ql) (id : Int) : ACalls Tryz.prog 39 [.a [.h s_.1, .h s_.2.1, .i s_.2.2], .i id] (.tup [(true, [.i ((((Y8 s_ id)).1).1), .i ((((Y8 s_ id)).1).2.1), .b ((((Y8 s_ id)).1).2.2.1), .i ((((Y8 s_ id)).1).2.2.2.1), .o 0 ((((Y8 s_ id)).1).2.2.2.2)]), (false, [.b (((Y8 s_ id)).2)])]) := by
 refine en Qb Tryz.func39 fun w0 F0 hG => ?_
 refine sn Qb [1, 2, 4, 5] [2, 4] (p0) ?_
 refine tn Qb [2, 4, 5, 6] [2, 4] (pc 2 (Dh s_ id) p0) ?_
 refine Qe (tu Qb [(2, .p 2 0), (4, .p 4 0), (5, .b false), (6, .i (Q2 s_ id)), (11, .b (decide ((Q2 s_ id) < (0 : Int))))] [0, 1] [(2, [.h s_.1, .h s_.2.1, .i s_.2.2]), (4, [.i 0, .i 0, .b false, .i 0, .e 4])] [] (p0) ?_)
 refine ck (decide ((Q2 s_ id) < (0 : Int))) (fun h1 => ?_) (fun h1 => ?_)
 ·
  refine su Qb [] [11] [] [] (p0) ?_
  refine opn [(true, 4, 4, true, 384000, 4)] ?_
  refine Qg ?_
  exact pz [] (show Y8 s_ id = _ from Q6 h1 (rfl)) (fun z => .tup [(true, [.i z.1.1, .i z.1.2.1, .b z.1.2.2.1, .i z.1.2.2.2.1, .o 0 z.1.2.2.2.2]), (false, [.b z.2])])
 have h1p := T4 s_ id
 have h1d := of_decide_eq_false h1
 refine Qh ?_
 refine wB 2 1 .sh s_.2.1 (fun hw3 hl4 => ?_)
 have hx2 := ng s_.2.1 (Int.toNat (Q2 s_ id))
 refine sn Qb [4, 5] [4] (pg 3 (Q2 s_ id) hx2 (pc 5 (Cg (nth s_.2.1 (Int.toNat (Q2 s_ id)))) p0)) ?_
 refine Qg ?_
 exact pz [] (show Y8 s_ id = _ from Qm h1 (rfl)) (fun z => .tup [(true, [.i z.1.1, .i z.1.2.1, .b z.1.2.2.1, .i z.1.2.2.2.1, .o 0 z.1.2.2.2.2]), (false, [.b z.2])])
end Go.Proofs.YtkbfhiamdcoieaaGreatDoor
