/- Texts of this proof, put together by a program: Isa, Isb, Ckc, Slb, Ev, Ex, Ey, Eva, Evb, Sp, In, Nf, Sq, By, Gb, Yna, Ynb, Ync, Ynd, Cva, Cvb. -/
import Derived.Test.YtoimjneljlpolaaGreatDoorP4
import Derived.KernelRfl
import Derived.Lib.SplitLaws
import Derived.Lib.Fields
import Derived.Lib.Join
import Derived.Test.YtoimjneljlpolaaGreatDoorProg
import Derived.Outline
import Derived.Laws.IdiomStrings
import Derived.Lib.ItoaNum
import Derived.Lib.ConvBytes
import Derived.Lib.SlBytesRow
import Derived.Lib.SmallJoins
set_option linter.unusedVariables false
set_option linter.unusedSimpArgs false
namespace Go.Proofs.YtoimjneljlpolaaGreatDoor
section
open Go.RowKit
open GoE (enc wide)
def implFieldKind_f0 (name : ByteArray) (_ : Nat) (a0 : X4) (_ : Unit) : Rd (Int) (Unit) (Unit) := (bif (a0.1.toList == name.toList) then (.ret a0.2) else (.next ()))
def implFieldKind_e0 (_ : Nat) (_ : Unit) : Unit := ()
def implFieldKind (s_ : (List X4)) (name : ByteArray) : Int := (Out.on (Xz (implFieldKind_f0 name) implFieldKind_e0 s_ 0 ()) (fun _ => 0))
theorem implFieldKind_a (s_ : (List X4)) (name : ByteArray) : ACalls Tryz.prog 212 [.h s_, .s name] (.i (implFieldKind s_ name)) := by
 refine en Qa Tryz.func212 fun w0 F0 hG => ?_
 refine sn Qa [0, 1, 4] [] (p0) ?_
 refine Qb ?_
 refine tn Qa [1, 4, 7, 8, 9] [] (pl 1 s_ p0) ?_
 refine mz [(4, .i 0), (7, .h s_), (8, .i (s_.length : Int)), (9, .i 0)] [0] [] [] ?_
 refine wT 7 0 .sh s_ (fun hw1 hl2 => ?_)
 refine blL0 (implFieldKind_f0 name) implFieldKind_e0 s_ () (fun k0 _ => [(9, .i ((k0 : Nat) : Int))]) [9] (fun _ => []) [1, 7, 8, 9] wf0 (fun k0 s0 hk0 hI0 => ?_) (fun k0 s0 hk0 hI0 => ?_) (fun y0 hD0 => ?_)
 ·
  obtain ⟨a0, hx0⟩ := Xt (l := s_) (i := k0) hk0
  refine sn Qa [1, 4, 7, 8, 9, 10] [] (pe 0 (Qk (decide_eq_true (p := ((k0 : Nat) : Int) < (s_.length : Int)) (by omega))) p0) ?_
  refine Qb ?_
  refine ckT ?_
  refine Qg ?_
  refine Qb ?_
  refine Qs ?_
  refine tn Qa [1, 4, 6, 7, 8, 9] [6] (pn 0 hx0 p0) ?_
  refine tu Qa [(6, .p 6 0), (16, .b (a0.1.toList == name.toList))] [] [(6, [.s a0.1, .i a0.2])] [] (p0) ?_
  refine ck (a0.1.toList == name.toList) (fun h3 => ?_) (fun h3 => ?_)
  ·
   refine sn Qa [1, 4, 7, 8, 9] [] (p0) ?_
   refine Qf ?_
   have hr4 : (Xz (implFieldKind_f0 name) implFieldKind_e0 s_ 0 ()) = .ret a0.2 := Ja hx0 (Xw h3 (rfl)) hI0
   exact pi [] (on_r hr4)
  refine Qg ?_
  refine rn Qa [1, 4, 7, 8, 9] [] (pe 0 (J7 (Qp k0 (by omega))) p0) ?_
  exact xw _ (Qu hx0 (Qm h3 (rfl)) hI0)
 ·
  refine sn Qa [1, 4, 7, 8, 9, 10] [] (pe 0 (Qk (decide_eq_false (p := ((k0 : Nat) : Int) < (s_.length : Int)) (by omega))) p0) ?_
  refine Qb ?_
  refine ckF ?_
  refine Q7 ?_
  exact xw _ (Xx hk0 (rfl) hI0)
 refine sn Qa [4] [] (p0) ?_
 refine Qf ?_
 exact pi [] (on_b hD0 (rfl))
def Zi (s_ : (List X4)) (name : ByteArray) (v : ValueD) : Bool := ((Jf v) && ((v.1 != (0 : Int)) && (v.1 == (implFieldKind s_ name))))
theorem implMatchesSchema_a (s_ : (List X4)) (name : ByteArray) (v : ValueD) : ACalls Tryz.prog 183 [.h s_, .s name, .a [.i v.1, .i v.2.1, .s v.2.2]] (.b (Zi s_ name v)) := by
 refine en Qa Tryz.func183 fun w0 F0 hG => ?_
 refine sn Qa [0, 1, 5, 6] [5] (p0) ?_
 refine Qb ?_
 refine mz [(5, .p 5 0), (6, .b false)] [2] [(5, [.i v.1, .i v.2.1, .s v.2.2])] [] ?_
 refine jn [(6, .b ((Jf v) && ((v.1 != (0 : Int)) && (v.1 == (implFieldKind s_ name)))))] [0, 1, 5, 6] [] [5] (Jf v) (fun h1 => ?_) (fun h1 => ?_) ?_
 ·
  refine Xo (v.1 != (0 : Int)) (fun h2 => ?_) (fun h2 => ?_)
  ·
   refine rN Qa Y2 [6] [] (pc 1 (cb h1 (Jt v)) (pt 5 h2 (pc 12 (implFieldKind_a s_ name) p0))) ?_
   exact ⟨rfl, Qd (by rw [h1, h2] <;> kernel_rfl)⟩
  refine rN Qa Y2 [6] [] (pc 1 (cb h1 (Jt v)) (pf 5 h2 p0)) ?_
  exact ⟨rfl, Qd (by rw [h1, h2] <;> kernel_rfl)⟩
 ·
  refine rN Qa Y2 [6] [] (pc 1 (cb h1 (Jt v)) p0) ?_
  exact ⟨rfl, Qd (by rw [h1] <;> kernel_rfl)⟩
 refine Qf ?_
 exact pb [] (show Zi s_ name v = ((Jf v) && ((v.1 != (0 : Int)) && (v.1 == (implFieldKind s_ name)))) from rfl)
def implisUser (n : Int) : Bool := (Xj n 0 2)
theorem implisUser_a (n : Int) : ACalls Tryz.prog 184 [.i n] (.b (implisUser n)) := by
 refine en Qa Tryz.func184 fun w0 F0 hG => ?_
 refine sn Qa [0, 2] [] (p0) ?_
 refine tn Qa [2] [] (pc 1 (Zc n 0 2) p0) ?_
 refine Qf ?_
 exact pb [] (show implisUser n = (Xj n 0 2) from rfl)
def Zw (s_ : (List X4)) (k0 : Nat) (a0 : X4) (_ : Unit) : Rd (Bool) (Unit) (Unit) := (bif ((!(Xa a0.1)) || (bif (a0.2 != (1 : Int)) then ((a0.2 != (2 : Int)) || (decide (((k0 : Nat) : Int) > (0 : Int)) && (!(Op.bytesLess ((nth s_ (Int.toNat (((k0 : Nat) : Int) - 1))).1).toList a0.1.toList)))) else (decide (((k0 : Nat) : Int) > (0 : Int)) && (!(Op.bytesLess ((nth s_ (Int.toNat (((k0 : Nat) : Int) - 1))).1).toList a0.1.toList))))) then (.ret false) else (.next ()))
def Jz (_ : Nat) (_ : Unit) : Unit := ()
def Qv (s_ : (List X4)) : Bool := (Out.on (Xz (Zw s_) Jz s_ 0 ()) (fun _ => decide ((s_.length : Int) ≤ (5 : Int))))
theorem Kc (s_ : (List X4)) : ACalls Tryz.prog 23 [.h s_] (.b (Qv s_)) := by
 refine en Qa Tryz.func23 fun w0 F0 hG => ?_
 refine sn Qa [0, 2] [] (p0) ?_
 refine Qb ?_
 refine tn Qa [0, 2, 5, 6, 7] [] (pl 1 s_ p0) ?_
 refine mz [(2, .b false), (5, .h s_), (6, .i (s_.length : Int)), (7, .i 0)] [] [] [] ?_
 refine wT 0 0 .sh s_ (fun hw1 hl2 => ?_)
 refine blL0 (Zw s_) Jz s_ () (fun k0 _ => [(7, .i ((k0 : Nat) : Int))]) [7] (fun _ => []) [5, 6, 7] wf0 (fun k0 s0 hk0 hI0 => ?_) (fun k0 s0 hk0 hI0 => ?_) (fun y0 hD0 => ?_)
 ·
  obtain ⟨a0, hx0⟩ := Xt (l := s_) (i := k0) hk0
  refine sn Qa [0, 2, 5, 6, 7, 8] [] (pe 0 (Qk (decide_eq_true (p := ((k0 : Nat) : Int) < (s_.length : Int)) (by omega))) p0) ?_
  refine Qb ?_
  refine ckT ?_
  refine Qg ?_
  refine Qb ?_
  refine Qs ?_
  refine tn Qa [0, 2, 3, 4, 5, 6, 7] [4] (pn 1 hx0 p0) ?_
  refine Qb ?_
  refine mz [(3, .i ((k0 : Nat) : Int)), (4, .p 4 0)] [] [(4, [.s a0.1, .i a0.2])] [] ?_
  refine jn [(40, .b ((!(Xa a0.1)) || (bif (a0.2 != (1 : Int)) then ((a0.2 != (2 : Int)) || (decide (((k0 : Nat) : Int) > (0 : Int)) && (!(Op.bytesLess ((nth s_ (Int.toNat (((k0 : Nat) : Int) - 1))).1).toList a0.1.toList)))) else (decide (((k0 : Nat) : Int) > (0 : Int)) && (!(Op.bytesLess ((nth s_ (Int.toNat (((k0 : Nat) : Int) - 1))).1).toList a0.1.toList))))))] [3, 4] [] [4] (!(Xa a0.1)) (fun h3 => ?_) (fun h3 => ?_) ?_
  ·
   have h3n : (Xa a0.1) = false := bnot_t h3
   refine rN Qa Y2 [0, 2, 5, 6, 7, 40] [] (pc 2 (cb h3n (X5 a0.1)) (pe 3 (show .b (!false) = .b true from rfl) p0)) ?_
   exact ⟨rfl, Qd (by rw [h3] <;> kernel_rfl)⟩
  ·
   have h3n : (Xa a0.1) = true := Zl h3
   refine Xo (a0.2 != (1 : Int)) (fun h4 => ?_) (fun h4 => ?_)
   ·
    have h4d := ne_of_bne h4
    refine Xo (a0.2 != (2 : Int)) (fun h5 => ?_) (fun h5 => ?_)
    ·
     refine rN Qa Y2 [0, 2, 5, 6, 7, 40] [] (pc 2 (cb h3n (X5 a0.1)) (pe 3 (show .b (!true) = .b false from rfl) (pt 7 h4 (pt 11 h5 p0)))) ?_
     exact ⟨rfl, Qd (by rw [h3, h4, h5] <;> kernel_rfl)⟩
    have h5d := eq_of_bne h5
    refine Xo (decide (((k0 : Nat) : Int) > (0 : Int))) (fun h6 => ?_) (fun h6 => ?_)
    ·
     have h6d := of_decide_eq_true h6
     have hx7 := ng s_ (Int.toNat (((k0 : Nat) : Int) - 1))
     refine rN Qa Y2 [0, 2, 5, 6, 7, 40] [] (pc 2 (cb h3n (X5 a0.1)) (pe 3 (show .b (!true) = .b false from rfl) (pt 7 h4 (pf 11 h5 (pt 16 h6 (pe 20 (J7 (IntWalk.i64_in (((k0 : Nat) : Int) - 1) (by omega))) (pg 21 (((k0 : Nat) : Int) - 1) hx7 p0))))))) ?_
     exact ⟨rfl, Qd (by rw [h3, h4, h5, h6] <;> kernel_rfl)⟩
    refine rN Qa Y2 [0, 2, 5, 6, 7, 40] [] (pc 2 (cb h3n (X5 a0.1)) (pe 3 (show .b (!true) = .b false from rfl) (pt 7 h4 (pf 11 h5 (pf 16 h6 p0))))) ?_
    exact ⟨rfl, Qd (by rw [h3, h4, h5, h6] <;> kernel_rfl)⟩
   have h4d := eq_of_bne h4
   refine Xo (decide (((k0 : Nat) : Int) > (0 : Int))) (fun h8 => ?_) (fun h8 => ?_)
   ·
    have h8d := of_decide_eq_true h8
    have hx9 := ng s_ (Int.toNat (((k0 : Nat) : Int) - 1))
    refine rN Qa Y2 [0, 2, 5, 6, 7, 40] [] (pc 2 (cb h3n (X5 a0.1)) (pe 3 (show .b (!true) = .b false from rfl) (pf 7 h4 (pt 16 h8 (pe 20 (J7 (IntWalk.i64_in (((k0 : Nat) : Int) - 1) (by omega))) (pg 21 (((k0 : Nat) : Int) - 1) hx9 p0)))))) ?_
    exact ⟨rfl, Qd (by rw [h3, h4, h8] <;> kernel_rfl)⟩
   refine rN Qa Y2 [0, 2, 5, 6, 7, 40] [] (pc 2 (cb h3n (X5 a0.1)) (pe 3 (show .b (!true) = .b false from rfl) (pf 7 h4 (pf 16 h8 p0)))) ?_
   exact ⟨rfl, Qd (by rw [h3, h4, h8] <;> kernel_rfl)⟩
  refine ck ((!(Xa a0.1)) || (bif (a0.2 != (1 : Int)) then ((a0.2 != (2 : Int)) || (decide (((k0 : Nat) : Int) > (0 : Int)) && (!(Op.bytesLess ((nth s_ (Int.toNat (((k0 : Nat) : Int) - 1))).1).toList a0.1.toList)))) else (decide (((k0 : Nat) : Int) > (0 : Int)) && (!(Op.bytesLess ((nth s_ (Int.toNat (((k0 : Nat) : Int) - 1))).1).toList a0.1.toList))))) (fun h10 => ?_) (fun h10 => ?_)
  ·
   refine su Qa [] [40] [] [] (p0) ?_
   refine Qf ?_
   have hr11 : (Xz (Zw s_) Jz s_ 0 ()) = .ret false := Ja hx0 (Xw h10 (rfl)) hI0
   exact pb [] (on_r hr11)
  refine Qg ?_
  refine rn Qa [0, 2, 5, 6, 7] [] (pe 0 (J7 (Qp k0 (by omega))) p0) ?_
  exact xw _ (Qu hx0 (Qm h10 (rfl)) hI0)
 ·
  refine sn Qa [0, 2, 5, 6, 7, 8] [] (pe 0 (Qk (decide_eq_false (p := ((k0 : Nat) : Int) < (s_.length : Int)) (by omega))) p0) ?_
  refine Qb ?_
  refine ckF ?_
  refine Q7 ?_
  exact xw _ (Xx hk0 (rfl) hI0)
 refine sn Qa [2] [] (pl 1 s_ p0) ?_
 refine Qf ?_
 exact pb [] (on_b hD0 (rfl))
def V5 (s_ : (List X4)) (f : Zr) (k0 : Nat) (a0 : AttrD) (_ : Unit) : Rd (Bool) (Unit) (Unit) := (bif (bif decide (((k0 : Nat) : Int) > (0 : Int)) then ((!(Op.bytesLess ((nth f.2.2.2.2 (Int.toNat (((k0 : Nat) : Int) - 1))).1).toList a0.1.toList)) || (!(Zi s_ a0.1 a0.2))) else (!(Zi s_ a0.1 a0.2))) then (.ret false) else (.next ()))
def implIsValidFile_e0 (_ : Nat) (_ : Unit) : Unit := ()
def Jv (s_ : (List X4)) (f : Zr) : Bool := (Out.on (Xz (V5 s_ f) implIsValidFile_e0 f.2.2.2.2 0 ()) (fun _ => ((Xj f.1 1 60) && ((implisUser f.2.1) && ((Xj f.2.2.2.1 0 60) && (Qv s_))))))
theorem implIsValidFile_a (s_ : (List X4)) (f : Zr) : ACalls Tryz.prog 147 [.h s_, .a [.i f.1, .i f.2.1, .b f.2.2.1, .i f.2.2.2.1, .h f.2.2.2.2]] (.b (Jv s_ f)) := by
 refine en Qa Tryz.func147 fun w0 F0 hG => ?_
 refine sn Qa [0, 3, 4] [3] (p0) ?_
 refine Qb ?_
 refine tn Qa [0, 3, 4, 8, 9, 10] [3] (pl 2 f.2.2.2.2 p0) ?_
 refine mz [(3, .p 3 0), (4, .b false), (8, .h f.2.2.2.2), (9, .i (f.2.2.2.2.length : Int)), (10, .i 0)] [1] [(3, [.i f.1, .i f.2.1, .b f.2.2.1, .i f.2.2.2.1, .h f.2.2.2.2])] [] ?_
 refine wT 8 0 .sh f.2.2.2.2 (fun hw1 hl2 => ?_)
 refine blL0 (V5 s_ f) implIsValidFile_e0 f.2.2.2.2 () (fun k0 _ => [(10, .i ((k0 : Nat) : Int))]) [10] (fun _ => []) [8, 9, 10] wf0 (fun k0 s0 hk0 hI0 => ?_) (fun k0 s0 hk0 hI0 => ?_) (fun y0 hD0 => ?_)
 ·
  obtain ⟨a0, hx0⟩ := Xt (l := f.2.2.2.2) (i := k0) hk0
  refine su Qa [(11, .b true)] [] [] [] (pe 0 (Qk (decide_eq_true (p := ((k0 : Nat) : Int) < (f.2.2.2.2.length : Int)) (by omega))) p0) ?_
  refine Qb ?_
  refine ckT ?_
  refine Qg ?_
  refine Qb ?_
  refine Qs ?_
  refine sn Qa [0, 3, 4, 5, 6, 8, 9, 10] [3, 6] (pn 1 hx0 p0) ?_
  refine Qb ?_
  refine mz [(5, .i ((k0 : Nat) : Int)), (6, .p 6 0)] [11] [(6, [.s a0.1, .i a0.2.1, .i a0.2.2.1, .s a0.2.2.2])] [] ?_
  refine jn [(37, .b (bif decide (((k0 : Nat) : Int) > (0 : Int)) then ((!(Op.bytesLess ((nth f.2.2.2.2 (Int.toNat (((k0 : Nat) : Int) - 1))).1).toList a0.1.toList)) || (!(Zi s_ a0.1 a0.2))) else (!(Zi s_ a0.1 a0.2))))] [5, 6] [] [6] (decide (((k0 : Nat) : Int) > (0 : Int))) (fun h3 => ?_) (fun h3 => ?_) ?_
  ·
   have h3d := of_decide_eq_true h3
   refine Xo (!(Op.bytesLess ((nth f.2.2.2.2 (Int.toNat (((k0 : Nat) : Int) - 1))).1).toList a0.1.toList)) (fun h4 => ?_) (fun h4 => ?_)
   ·
    have hx5 := ng f.2.2.2.2 (Int.toNat (((k0 : Nat) : Int) - 1))
    refine rN Qa Y2 [0, 3, 4, 8, 9, 10, 37] [3] (pt 1 h3 (pe 6 (J7 (IntWalk.i64_in (((k0 : Nat) : Int) - 1) (by omega))) (pg 7 (((k0 : Nat) : Int) - 1) hx5 (pt 12 h4 p0)))) ?_
    exact ⟨rfl, Qd (by rw [h3, h4] <;> kernel_rfl)⟩
   have hx6 := ng f.2.2.2.2 (Int.toNat (((k0 : Nat) : Int) - 1))
   refine rN Qa Y2 [0, 3, 4, 8, 9, 10, 37] [3] (pt 1 h3 (pe 6 (J7 (IntWalk.i64_in (((k0 : Nat) : Int) - 1) (by omega))) (pg 7 (((k0 : Nat) : Int) - 1) hx6 (pf 12 h4 (pc 20 (implMatchesSchema_a s_ a0.1 a0.2) p0))))) ?_
   exact ⟨rfl, Qd (by rw [h3, h4] <;> kernel_rfl)⟩
  ·
   refine rN Qa Y2 [0, 3, 4, 8, 9, 10, 37] [3] (pf 1 h3 (pc 20 (implMatchesSchema_a s_ a0.1 a0.2) p0)) ?_
   exact ⟨rfl, Qd (by rw [h3] <;> kernel_rfl)⟩
  refine ck (bif decide (((k0 : Nat) : Int) > (0 : Int)) then ((!(Op.bytesLess ((nth f.2.2.2.2 (Int.toNat (((k0 : Nat) : Int) - 1))).1).toList a0.1.toList)) || (!(Zi s_ a0.1 a0.2))) else (!(Zi s_ a0.1 a0.2))) (fun h7 => ?_) (fun h7 => ?_)
  ·
   refine su Qa [] [37] [] [] (p0) ?_
   refine Qf ?_
   have hr8 : (Xz (V5 s_ f) implIsValidFile_e0 f.2.2.2.2 0 ()) = .ret false := Ja hx0 (Xw h7 (rfl)) hI0
   exact pb [] (on_r hr8)
  refine Qg ?_
  refine rn Qa [0, 3, 4, 8, 9, 10] [3] (pe 0 (J7 (Qp k0 (by omega))) p0) ?_
  exact xw _ (Qu hx0 (Qm h7 (rfl)) hI0)
 ·
  refine su Qa [(11, .b false)] [] [] [] (pe 0 (Qk (decide_eq_false (p := ((k0 : Nat) : Int) < (f.2.2.2.2.length : Int)) (by omega))) p0) ?_
  refine Qb ?_
  refine ckF ?_
  refine Q7 ?_
  exact xw _ (Xx hk0 (rfl) hI0)
 refine Qb ?_
 refine jn [(4, .b ((Xj f.1 1 60) && ((implisUser f.2.1) && ((Xj f.2.2.2.1 0 60) && (Qv s_)))))] [0, 3, 4] [] [3] (Xj f.1 1 60) (fun h9 => ?_) (fun h9 => ?_) ?_
 ·
  have h9w := within_iff.1 h9
  refine Xo (implisUser f.2.1) (fun h10 => ?_) (fun h10 => ?_)
  ·
   refine Xo (Xj f.2.2.2.1 0 60) (fun h11 => ?_) (fun h11 => ?_)
   ·
    have h11w := within_iff.1 h11
    refine rn Qa [4] [] (pc 2 (cb h9 (Zc f.1 1 60)) (pc 6 (cb h10 (implisUser_a f.2.1)) (pc 11 (cb h11 (Zc f.2.2.2.1 0 60)) (pc 15 (Kc s_) p0)))) ?_
    exact ⟨rfl, Qd (by rw [h9, h10, h11] <;> kernel_rfl)⟩
   refine rn Qa [4] [] (pc 2 (cb h9 (Zc f.1 1 60)) (pc 6 (cb h10 (implisUser_a f.2.1)) (pc 11 (cb h11 (Zc f.2.2.2.1 0 60)) p0))) ?_
   exact ⟨rfl, Qd (by rw [h9, h10, h11] <;> kernel_rfl)⟩
  refine rn Qa [4] [] (pc 2 (cb h9 (Zc f.1 1 60)) (pc 6 (cb h10 (implisUser_a f.2.1)) p0)) ?_
  exact ⟨rfl, Qd (by rw [h9, h10] <;> kernel_rfl)⟩
 ·
  refine rn Qa [4] [] (pc 2 (cb h9 (Zc f.1 1 60)) p0) ?_
  exact ⟨rfl, Qd (by rw [h9] <;> kernel_rfl)⟩
 refine Qf ?_
 exact pb [] (on_b hD0 (rfl))
def Z6 (s_ : Yv) (k0 : Nat) (a0 : Zr) (_ : Unit) : Rd (Bool) (Unit) (Unit) := (bif ((!(Jv s_.1 a0)) || (decide (a0.1 ≥ s_.2.2) || (decide (((k0 : Nat) : Int) > (0 : Int)) && decide ((nth s_.2.1 (Int.toNat (((k0 : Nat) : Int) - 1))).1 ≥ a0.1)))) then (.ret false) else (.next ()))
def Kd (_ : Nat) (_ : Unit) : Unit := ()
def Yd (s_ : Yv) : Bool := (Out.on (Xz (Z6 s_) Kd s_.2.1 0 ()) (fun _ => ((Qv s_.1) && (decide ((s_.2.1.length : Int) ≤ (12 : Int)) && (Xj s_.2.2 1 61)))))
theorem implIsValidStore_a (s_ : Yv) : ACalls Tryz.prog 116 [.a [.h s_.1, .h s_.2.1, .i s_.2.2]] (.b (Yd s_)) := by
 refine en Qa Tryz.func116 fun w0 F0 hG => ?_
 refine sn Qa [1, 2] [1] (p0) ?_
 refine Qb ?_
 refine tn Qa [1, 2, 6, 7, 8] [1] (pl 2 s_.2.1 p0) ?_
 refine mz [(1, .p 1 0), (2, .b false), (6, .h s_.2.1), (7, .i (s_.2.1.length : Int)), (8, .i 0)] [0] [(1, [.h s_.1, .h s_.2.1, .i s_.2.2])] [] ?_
 refine wT 6 0 .sh s_.2.1 (fun hw1 hl2 => ?_)
 refine blL0 (Z6 s_) Kd s_.2.1 () (fun k0 _ => [(8, .i ((k0 : Nat) : Int))]) [8] (fun _ => []) [6, 7, 8] wf0 (fun k0 s0 hk0 hI0 => ?_) (fun k0 s0 hk0 hI0 => ?_) (fun y0 hD0 => ?_)
 ·
  obtain ⟨a0, hx0⟩ := Xt (l := s_.2.1) (i := k0) hk0
  refine sn Qa [1, 2, 6, 7, 8, 9] [1] (pe 0 (Qk (decide_eq_true (p := ((k0 : Nat) : Int) < (s_.2.1.length : Int)) (by omega))) p0) ?_
  refine Qb ?_
  refine ckT ?_
  refine Qg ?_
  refine Qb ?_
  refine Qs ?_
  refine tn Qa [1, 2, 3, 4, 6, 7, 8] [1, 4] (pn 1 hx0 p0) ?_
  refine Qb ?_
  refine mz [(3, .i ((k0 : Nat) : Int)), (4, .p 4 0)] [] [(4, [.i a0.1, .i a0.2.1, .b a0.2.2.1, .i a0.2.2.2.1, .h a0.2.2.2.2])] [] ?_
  refine jn [(40, .b ((!(Jv s_.1 a0)) || (decide (a0.1 ≥ s_.2.2) || (decide (((k0 : Nat) : Int) > (0 : Int)) && decide ((nth s_.2.1 (Int.toNat (((k0 : Nat) : Int) - 1))).1 ≥ a0.1)))))] [3, 4] [] [4] (!(Jv s_.1 a0)) (fun h3 => ?_) (fun h3 => ?_) ?_
  ·
   have h3n : (Jv s_.1 a0) = false := bnot_t h3
   refine rN Qa Y2 [1, 2, 6, 7, 8, 40] [1] (pc 3 (cb h3n (implIsValidFile_a s_.1 a0)) (pe 4 (show .b (!false) = .b true from rfl) p0)) ?_
   exact ⟨rfl, Qd (by rw [h3] <;> kernel_rfl)⟩
  ·
   have h3n : (Jv s_.1 a0) = true := Zl h3
   refine Xo (decide (a0.1 ≥ s_.2.2)) (fun h4 => ?_) (fun h4 => ?_)
   ·
    refine rN Qa Y2 [1, 2, 6, 7, 8, 40] [1] (pc 3 (cb h3n (implIsValidFile_a s_.1 a0)) (pe 4 (show .b (!true) = .b false from rfl) (pt 10 h4 p0))) ?_
    exact ⟨rfl, Qd (by rw [h3, h4] <;> kernel_rfl)⟩
   have h4d := of_decide_eq_false h4
   refine Xo (decide (((k0 : Nat) : Int) > (0 : Int))) (fun h5 => ?_) (fun h5 => ?_)
   ·
    have h5d := of_decide_eq_true h5
    have hx6 := ng s_.2.1 (Int.toNat (((k0 : Nat) : Int) - 1))
    refine rN Qa Y2 [1, 2, 6, 7, 8, 40] [1] (pc 3 (cb h3n (implIsValidFile_a s_.1 a0)) (pe 4 (show .b (!true) = .b false from rfl) (pf 10 h4 (pt 14 h5 (pe 19 (J7 (IntWalk.i64_in (((k0 : Nat) : Int) - 1) (by omega))) (pg 20 (((k0 : Nat) : Int) - 1) hx6 p0)))))) ?_
    exact ⟨rfl, Qd (by rw [h3, h4, h5] <;> kernel_rfl)⟩
   refine rN Qa Y2 [1, 2, 6, 7, 8, 40] [1] (pc 3 (cb h3n (implIsValidFile_a s_.1 a0)) (pe 4 (show .b (!true) = .b false from rfl) (pf 10 h4 (pf 14 h5 p0)))) ?_
   exact ⟨rfl, Qd (by rw [h3, h4, h5] <;> kernel_rfl)⟩
  refine ck ((!(Jv s_.1 a0)) || (decide (a0.1 ≥ s_.2.2) || (decide (((k0 : Nat) : Int) > (0 : Int)) && decide ((nth s_.2.1 (Int.toNat (((k0 : Nat) : Int) - 1))).1 ≥ a0.1)))) (fun h7 => ?_) (fun h7 => ?_)
  ·
   refine su Qa [] [40] [] [] (p0) ?_
   refine Qf ?_
   have hr8 : (Xz (Z6 s_) Kd s_.2.1 0 ()) = .ret false := Ja hx0 (Xw h7 (rfl)) hI0
   exact pb [] (on_r hr8)
  have h7r : ((decide (a0.1 ≥ s_.2.2) || (decide (((k0 : Nat) : Int) > (0 : Int)) && decide ((nth s_.2.1 (Int.toNat (((k0 : Nat) : Int) - 1))).1 ≥ a0.1)))) = false := or_r h7
  have h7rl : (decide (a0.1 ≥ s_.2.2)) = false := or_l h7r
  have h7rld := of_decide_eq_false h7rl
  refine Qg ?_
  refine rn Qa [1, 2, 6, 7, 8] [1] (pe 0 (J7 (Qp k0 (by omega))) p0) ?_
  exact xw _ (Qu hx0 (Qm h7 (rfl)) hI0)
 ·
  refine sn Qa [1, 2, 6, 7, 8, 9] [1] (pe 0 (Qk (decide_eq_false (p := ((k0 : Nat) : Int) < (s_.2.1.length : Int)) (by omega))) p0) ?_
  refine Qb ?_
  refine ckF ?_
  refine Q7 ?_
  exact xw _ (Xx hk0 (rfl) hI0)
 refine Qb ?_
 refine jn [(2, .b ((Qv s_.1) && (decide ((s_.2.1.length : Int) ≤ (12 : Int)) && (Xj s_.2.2 1 61))))] [1, 2] [] [1] (Qv s_.1) (fun h9 => ?_) (fun h9 => ?_) ?_
 ·
  refine Xo (decide ((s_.2.1.length : Int) ≤ (12 : Int))) (fun h10 => ?_) (fun h10 => ?_)
  ·
   refine rn Qa [2] [] (pc 2 (cb h9 (Kc s_.1)) (pl 6 s_.2.1 (pt 7 h10 (pc 12 (Zc s_.2.2 1 61) p0)))) ?_
   exact ⟨rfl, Qd (by rw [h9, h10] <;> kernel_rfl)⟩
  refine rn Qa [2] [] (pc 2 (cb h9 (Kc s_.1)) (pl 6 s_.2.1 (pf 7 h10 p0))) ?_
  exact ⟨rfl, Qd (by rw [h9, h10] <;> kernel_rfl)⟩
 ·
  refine rn Qa [2] [] (pc 2 (cb h9 (Kc s_.1)) p0) ?_
  exact ⟨rfl, Qd (by rw [h9] <;> kernel_rfl)⟩
 refine Qf ?_
 exact pb [] (on_b hD0 (rfl))
def specFieldKind_f0 (name : ByteArray) (_ : Nat) (a0 : X4) (_ : Unit) : Rd (Int) (Unit) (Unit) := (bif (a0.1.toList == name.toList) then (.ret a0.2) else (.next ()))
def specFieldKind_e0 (_ : Nat) (_ : Unit) : Unit := ()
def specFieldKind (s_ : (List X4)) (name : ByteArray) : Int := (Out.on (Xz (specFieldKind_f0 name) specFieldKind_e0 s_ 0 ()) (fun _ => 0))
theorem specFieldKind_a (s_ : (List X4)) (name : ByteArray) : ACalls Tryz.prog 197 [.h s_, .s name] (.i (specFieldKind s_ name)) := by
 refine en Qa Tryz.func197 fun w0 F0 hG => ?_
 refine sn Qa [0, 1, 4] [] (p0) ?_
 refine Qb ?_
 refine tn Qa [0, 1, 4, 5] [] (p0) ?_
 refine mz [(4, .i 0), (5, .i 0)] [] [] [] ?_
 refine wT 0 0 .sh s_ (fun hw1 hl2 => ?_)
 refine blL0 (specFieldKind_f0 name) specFieldKind_e0 s_ () (fun k0 _ => [(5, .i ((k0 : Nat) : Int))]) [5] (fun _ => []) [0, 1, 5] wf0 (fun k0 s0 hk0 hI0 => ?_) (fun k0 s0 hk0 hI0 => ?_) (fun y0 hD0 => ?_)
 ·
  obtain ⟨a0, hx0⟩ := Xt (l := s_) (i := k0) hk0
  refine Qb ?_
  refine sn Qa [0, 1, 4, 5, 9] [] (pl 2 s_ (pe 3 (Qk (decide_eq_true (p := ((k0 : Nat) : Int) < (s_.length : Int)) (by omega))) p0)) ?_
  refine ckT ?_
  refine Qg ?_
  refine Qb ?_
  refine Qs ?_
  refine tn Qa [0, 1, 4, 5, 18] [] (pn 2 hx0 p0) ?_
  refine ck (a0.1.toList == name.toList) (fun h3 => ?_) (fun h3 => ?_)
  ·
   refine tu Qa [(4, .i a0.2)] [4] [] [] (pn 2 hx0 p0) ?_
   refine Qf ?_
   have hr4 : (Xz (specFieldKind_f0 name) specFieldKind_e0 s_ 0 ()) = .ret a0.2 := Ja hx0 (Xw h3 (rfl)) hI0
   exact pi [] (on_r hr4)
  refine Qg ?_
  refine qu Qa [(5, .i ((k0 + 1 : Nat) : Int))] [5] [] [] (pe 1 (J7 (Qp k0 (by omega))) p0) ?_
  exact xw _ (Qu hx0 (Qm h3 (rfl)) hI0)
 ·
  refine Qb ?_
  refine sn Qa [0, 1, 4, 5, 9] [] (pl 2 s_ (pe 3 (Qk (decide_eq_false (p := ((k0 : Nat) : Int) < (s_.length : Int)) (by omega))) p0)) ?_
  refine ckF ?_
  refine Q7 ?_
  exact xw _ (Xx hk0 (rfl) hI0)
 refine sn Qa [4] [] (p0) ?_
 refine Qf ?_
 exact pi [] (on_b hD0 (rfl))
def Zv (s_ : (List X4)) (name : ByteArray) (v : ValueD) : Bool := ((Ze v) && ((v.1 != (0 : Int)) && (v.1 == (specFieldKind s_ name))))
theorem specMatchesSchema_a (s_ : (List X4)) (name : ByteArray) (v : ValueD) : ACalls Tryz.prog 166 [.h s_, .s name, .a [.i v.1, .i v.2.1, .s v.2.2]] (.b (Zv s_ name v)) := by
 refine en Qa Tryz.func166 fun w0 F0 hG => ?_
 refine sn Qa [0, 1, 5, 6] [5] (p0) ?_
 refine Qb ?_
 refine mz [(5, .p 5 0), (6, .b false)] [2] [(5, [.i v.1, .i v.2.1, .s v.2.2])] [] ?_
 refine jn [(6, .b ((Ze v) && ((v.1 != (0 : Int)) && (v.1 == (specFieldKind s_ name)))))] [0, 1, 5, 6] [] [5] (Ze v) (fun h1 => ?_) (fun h1 => ?_) ?_
 ·
  refine Xo (v.1 != (0 : Int)) (fun h2 => ?_) (fun h2 => ?_)
  ·
   refine rN Qa Y2 [6] [] (pc 1 (cb h1 (Y8 v)) (pt 5 h2 (pc 12 (specFieldKind_a s_ name) p0))) ?_
   exact ⟨rfl, Qd (by rw [h1, h2] <;> kernel_rfl)⟩
  refine rN Qa Y2 [6] [] (pc 1 (cb h1 (Y8 v)) (pf 5 h2 p0)) ?_
  exact ⟨rfl, Qd (by rw [h1, h2] <;> kernel_rfl)⟩
 ·
  refine rN Qa Y2 [6] [] (pc 1 (cb h1 (Y8 v)) p0) ?_
  exact ⟨rfl, Qd (by rw [h1] <;> kernel_rfl)⟩
 refine Qf ?_
 exact pb [] (show Zv s_ name v = ((Ze v) && ((v.1 != (0 : Int)) && (v.1 == (specFieldKind s_ name)))) from rfl)
def K6 (s_ : (List X4)) (k0 : Nat) (a0 : X4) (_ : Unit) : Rd (Bool) (Unit) (Unit) := (bif ((!(Qz a0.1)) || ((!(Qo a0.2 1 2)) || (decide (((k0 : Nat) : Int) > (0 : Int)) && (!(Op.bytesLess ((nth s_ (Int.toNat (((k0 : Nat) : Int) - 1))).1).toList a0.1.toList))))) then (.ret false) else (.next ()))
def specIsValidSchema_e0 (_ : Nat) (_ : Unit) : Unit := ()
def Jc (s_ : (List X4)) : Bool := (Out.on (Xz (K6 s_) specIsValidSchema_e0 s_ 0 ()) (fun _ => decide ((s_.length : Int) ≤ (5 : Int))))
theorem Jk (s_ : (List X4)) : ACalls Tryz.prog 135 [.h s_] (.b (Jc s_)) := by
 refine en Qa Tryz.func135 fun w0 F0 hG => ?_
 refine sn Qa [0, 2] [] (p0) ?_
 refine Qb ?_
 refine tn Qa [0, 2, 3] [] (p0) ?_
 refine mz [(2, .b false), (3, .i 0)] [] [] [] ?_
 refine wT 0 0 .sh s_ (fun hw1 hl2 => ?_)
 refine blL0 (K6 s_) specIsValidSchema_e0 s_ () (fun k0 _ => [(3, .i ((k0 : Nat) : Int))]) [3] (fun _ => []) [3] wf0 (fun k0 s0 hk0 hI0 => ?_) (fun k0 s0 hk0 hI0 => ?_) (fun y0 hD0 => ?_)
 ·
  obtain ⟨a0, hx0⟩ := Xt (l := s_) (i := k0) hk0
  refine Qb ?_
  refine sn Qa [0, 2, 3, 7] [] (pl 2 s_ (pe 3 (Qk (decide_eq_true (p := ((k0 : Nat) : Int) < (s_.length : Int)) (by omega))) p0)) ?_
  refine ckT ?_
  refine Qg ?_
  refine Qb ?_
  refine Qs ?_
  refine Qb ?_
  refine mz [(7, .b true)] [] [] [] ?_
  refine jn [(43, .b ((!(Qz a0.1)) || ((!(Qo a0.2 1 2)) || (decide (((k0 : Nat) : Int) > (0 : Int)) && (!(Op.bytesLess ((nth s_ (Int.toNat (((k0 : Nat) : Int) - 1))).1).toList a0.1.toList))))))] [7] [] [] (!(Qz a0.1)) (fun h3 => ?_) (fun h3 => ?_) ?_
  ·
   have h3n : (Qz a0.1) = false := bnot_t h3
   refine rN Qa Y2 [0, 2, 3, 43] [] (pn 2 hx0 (pc 5 (cb h3n (Xh a0.1)) (pe 6 (show .b (!false) = .b true from rfl) p0))) ?_
   exact ⟨rfl, Qd (by rw [h3] <;> kernel_rfl)⟩
  ·
   have h3n : (Qz a0.1) = true := Zl h3
   refine Xo (!(Qo a0.2 1 2)) (fun h4 => ?_) (fun h4 => ?_)
   ·
    have h4n : (Qo a0.2 1 2) = false := bnot_t h4
    refine rN Qa Y2 [0, 2, 3, 43] [] (pn 2 hx0 (pc 5 (cb h3n (Xh a0.1)) (pe 6 (show .b (!true) = .b false from rfl) (pn 10 hx0 (pc 13 (cb h4n (Yb a0.2 1 2)) (pe 14 (show .b (!false) = .b true from rfl) p0)))))) ?_
    exact ⟨rfl, Qd (by rw [h3, h4] <;> kernel_rfl)⟩
   have h4n : (Qo a0.2 1 2) = true := Zl h4
   have h4nw := l01In_iff.1 h4n
   refine Xo (decide (((k0 : Nat) : Int) > (0 : Int))) (fun h5 => ?_) (fun h5 => ?_)
   ·
    have h5d := of_decide_eq_true h5
    have hx6 := ng s_ (Int.toNat (((k0 : Nat) : Int) - 1))
    refine rN Qa Y2 [0, 2, 3, 43] [] (pn 2 hx0 (pc 5 (cb h3n (Xh a0.1)) (pe 6 (show .b (!true) = .b false from rfl) (pn 10 hx0 (pc 13 (cb h4n (Yb a0.2 1 2)) (pe 14 (show .b (!true) = .b false from rfl) (pt 18 h5 (pe 22 (J7 (IntWalk.i64_in (((k0 : Nat) : Int) - 1) (by omega))) (pg 23 (((k0 : Nat) : Int) - 1) hx6 (pn 28 hx0 p0)))))))))) ?_
    exact ⟨rfl, Qd (by rw [h3, h4, h5] <;> kernel_rfl)⟩
   refine rN Qa Y2 [0, 2, 3, 43] [] (pn 2 hx0 (pc 5 (cb h3n (Xh a0.1)) (pe 6 (show .b (!true) = .b false from rfl) (pn 10 hx0 (pc 13 (cb h4n (Yb a0.2 1 2)) (pe 14 (show .b (!true) = .b false from rfl) (pf 18 h5 p0))))))) ?_
   exact ⟨rfl, Qd (by rw [h3, h4, h5] <;> kernel_rfl)⟩
  refine ck ((!(Qz a0.1)) || ((!(Qo a0.2 1 2)) || (decide (((k0 : Nat) : Int) > (0 : Int)) && (!(Op.bytesLess ((nth s_ (Int.toNat (((k0 : Nat) : Int) - 1))).1).toList a0.1.toList))))) (fun h7 => ?_) (fun h7 => ?_)
  ·
   refine sn Qa [0, 2, 3] [] (p0) ?_
   refine Qf ?_
   have hr8 : (Xz (K6 s_) specIsValidSchema_e0 s_ 0 ()) = .ret false := Ja hx0 (Xw h7 (rfl)) hI0
   exact pb [] (on_r hr8)
  have h7r : (((!(Qo a0.2 1 2)) || (decide (((k0 : Nat) : Int) > (0 : Int)) && (!(Op.bytesLess ((nth s_ (Int.toNat (((k0 : Nat) : Int) - 1))).1).toList a0.1.toList))))) = false := or_r h7
  have h7rl : ((!(Qo a0.2 1 2))) = false := or_l h7r
  have h7rln : (Qo a0.2 1 2) = true := Zl h7rl
  have h7rlnw := l01In_iff.1 h7rln
  refine Qg ?_
  refine rn Qa [0, 2, 3] [] (pe 1 (J7 (Qp k0 (by omega))) p0) ?_
  exact xw _ (Qu hx0 (Qm h7 (rfl)) hI0)
 ·
  refine Qb ?_
  refine sn Qa [0, 2, 3, 7] [] (pl 2 s_ (pe 3 (Qk (decide_eq_false (p := ((k0 : Nat) : Int) < (s_.length : Int)) (by omega))) p0)) ?_
  refine ckF ?_
  refine Q7 ?_
  exact xw _ (Xx hk0 (rfl) hI0)
 refine sn Qa [2] [] (pl 1 s_ p0) ?_
 refine Qf ?_
 exact pb [] (on_b hD0 (rfl))
def V6 (s_ : (List X4)) (f : Zr) (k0 : Nat) (a0 : AttrD) (_ : Unit) : Rd (Bool) (Unit) (Unit) := (bif ((!(Zv s_ a0.1 a0.2)) || (decide (((k0 : Nat) : Int) > (0 : Int)) && (!(Op.bytesLess ((nth f.2.2.2.2 (Int.toNat (((k0 : Nat) : Int) - 1))).1).toList a0.1.toList)))) then (.ret false) else (.next ()))
def specIsValidFile_e0 (_ : Nat) (_ : Unit) : Unit := ()
def Jw (s_ : (List X4)) (f : Zr) : Bool := (Out.on (Xz (V6 s_ f) specIsValidFile_e0 f.2.2.2.2 0 ()) (fun _ => ((Jc s_) && ((Qo f.1 1 60) && ((Qo f.2.1 0 2) && (Qo f.2.2.2.1 0 60))))))
theorem specIsValidFile_a (s_ : (List X4)) (f : Zr) : ACalls Tryz.prog 134 [.h s_, .a [.i f.1, .i f.2.1, .b f.2.2.1, .i f.2.2.2.1, .h f.2.2.2.2]] (.b (Jw s_ f)) := by
 refine en Qa Tryz.func134 fun w0 F0 hG => ?_
 refine sn Qa [0, 3, 4] [3] (p0) ?_
 refine Qb ?_
 refine tn Qa [0, 3, 4, 5] [3] (p0) ?_
 refine mz [(3, .p 3 0), (4, .b false), (5, .i 0)] [1] [(3, [.i f.1, .i f.2.1, .b f.2.2.1, .i f.2.2.2.1, .h f.2.2.2.2])] [] ?_
 refine wB 3 4 .sh f.2.2.2.2 (fun hw1 hl2 => ?_)
 refine blL0 (V6 s_ f) specIsValidFile_e0 f.2.2.2.2 () (fun k0 _ => [(5, .i ((k0 : Nat) : Int))]) [5] (fun _ => []) [5] wf0 (fun k0 s0 hk0 hI0 => ?_) (fun k0 s0 hk0 hI0 => ?_) (fun y0 hD0 => ?_)
 ·
  obtain ⟨a0, hx0⟩ := Xt (l := f.2.2.2.2) (i := k0) hk0
  refine Qb ?_
  refine sn Qa [0, 3, 4, 5, 10] [3] (pl 3 f.2.2.2.2 (pe 4 (Qk (decide_eq_true (p := ((k0 : Nat) : Int) < (f.2.2.2.2.length : Int)) (by omega))) p0)) ?_
  refine ckT ?_
  refine Qg ?_
  refine Qb ?_
  refine Qs ?_
  refine Qb ?_
  refine mz [(10, .b true)] [] [] [] ?_
  refine jn [(47, .b ((!(Zv s_ a0.1 a0.2)) || (decide (((k0 : Nat) : Int) > (0 : Int)) && (!(Op.bytesLess ((nth f.2.2.2.2 (Int.toNat (((k0 : Nat) : Int) - 1))).1).toList a0.1.toList)))))] [10] [] [] (!(Zv s_ a0.1 a0.2)) (fun h3 => ?_) (fun h3 => ?_) ?_
  ·
   have h3n : (Zv s_ a0.1 a0.2) = false := bnot_t h3
   refine rN Qa Y2 [0, 3, 4, 5, 47] [3] (pn 4 hx0 (pn 10 hx0 (pc 13 (cb h3n (specMatchesSchema_a s_ a0.1 a0.2)) (pe 14 (show .b (!false) = .b true from rfl) p0)))) ?_
   exact ⟨rfl, Qd (by rw [h3] <;> kernel_rfl)⟩
  ·
   have h3n : (Zv s_ a0.1 a0.2) = true := Zl h3
   refine Xo (decide (((k0 : Nat) : Int) > (0 : Int))) (fun h4 => ?_) (fun h4 => ?_)
   ·
    have h4d := of_decide_eq_true h4
    have hx5 := ng f.2.2.2.2 (Int.toNat (((k0 : Nat) : Int) - 1))
    refine rN Qa Y2 [0, 3, 4, 5, 47] [3] (pn 4 hx0 (pn 10 hx0 (pc 13 (cb h3n (specMatchesSchema_a s_ a0.1 a0.2)) (pe 14 (show .b (!true) = .b false from rfl) (pt 17 h4 (pe 22 (J7 (IntWalk.i64_in (((k0 : Nat) : Int) - 1) (by omega))) (pg 23 (((k0 : Nat) : Int) - 1) hx5 (pn 29 hx0 p0)))))))) ?_
    exact ⟨rfl, Qd (by rw [h3, h4] <;> kernel_rfl)⟩
   refine rN Qa Y2 [0, 3, 4, 5, 47] [3] (pn 4 hx0 (pn 10 hx0 (pc 13 (cb h3n (specMatchesSchema_a s_ a0.1 a0.2)) (pe 14 (show .b (!true) = .b false from rfl) (pf 17 h4 p0))))) ?_
   exact ⟨rfl, Qd (by rw [h3, h4] <;> kernel_rfl)⟩
  refine ck ((!(Zv s_ a0.1 a0.2)) || (decide (((k0 : Nat) : Int) > (0 : Int)) && (!(Op.bytesLess ((nth f.2.2.2.2 (Int.toNat (((k0 : Nat) : Int) - 1))).1).toList a0.1.toList)))) (fun h6 => ?_) (fun h6 => ?_)
  ·
   refine su Qa [] [47] [] [] (p0) ?_
   refine Qf ?_
   have hr7 : (Xz (V6 s_ f) specIsValidFile_e0 f.2.2.2.2 0 ()) = .ret false := Ja hx0 (Xw h6 (rfl)) hI0
   exact pb [] (on_r hr7)
  refine Qg ?_
  refine rn Qa [0, 3, 4, 5] [3] (pe 1 (J7 (Qp k0 (by omega))) p0) ?_
  exact xw _ (Qu hx0 (Qm h6 (rfl)) hI0)
 ·
  refine Qb ?_
  refine sn Qa [0, 3, 4, 5, 10] [3] (pl 3 f.2.2.2.2 (pe 4 (Qk (decide_eq_false (p := ((k0 : Nat) : Int) < (f.2.2.2.2.length : Int)) (by omega))) p0)) ?_
  refine ckF ?_
  refine Q7 ?_
  exact xw _ (Xx hk0 (rfl) hI0)
 refine Qb ?_
 refine jn [(4, .b ((Jc s_) && ((Qo f.1 1 60) && ((Qo f.2.1 0 2) && (Qo f.2.2.2.1 0 60)))))] [0, 3, 4] [] [3] (Jc s_) (fun h8 => ?_) (fun h8 => ?_) ?_
 ·
  refine Xo (Qo f.1 1 60) (fun h9 => ?_) (fun h9 => ?_)
  ·
   have h9w := l01In_iff.1 h9
   refine Xo (Qo f.2.1 0 2) (fun h10 => ?_) (fun h10 => ?_)
   ·
    have h10w := l01In_iff.1 h10
    refine rn Qa [4] [] (pc 1 (cb h8 (Jk s_)) (pc 5 (cb h9 (Yb f.1 1 60)) (pc 10 (cb h10 (Yb f.2.1 0 2)) (pc 15 (Yb f.2.2.2.1 0 60) p0)))) ?_
    exact ⟨rfl, Qd (by rw [h8, h9, h10] <;> kernel_rfl)⟩
   refine rn Qa [4] [] (pc 1 (cb h8 (Jk s_)) (pc 5 (cb h9 (Yb f.1 1 60)) (pc 10 (cb h10 (Yb f.2.1 0 2)) p0))) ?_
   exact ⟨rfl, Qd (by rw [h8, h9, h10] <;> kernel_rfl)⟩
  refine rn Qa [4] [] (pc 1 (cb h8 (Jk s_)) (pc 5 (cb h9 (Yb f.1 1 60)) p0)) ?_
  exact ⟨rfl, Qd (by rw [h8, h9] <;> kernel_rfl)⟩
 ·
  refine rn Qa [4] [] (pc 1 (cb h8 (Jk s_)) p0) ?_
  exact ⟨rfl, Qd (by rw [h8] <;> kernel_rfl)⟩
 refine Qf ?_
 exact pb [] (on_b hD0 (rfl))
def Vn (s_ : Yv) (k0 : Nat) (a0 : Zr) (_ : Unit) : Rd (Bool) (Unit) (Unit) := (bif ((!(Jw s_.1 a0)) || (decide (a0.1 ≥ s_.2.2) || (decide (((k0 : Nat) : Int) > (0 : Int)) && decide ((nth s_.2.1 (Int.toNat (((k0 : Nat) : Int) - 1))).1 ≥ a0.1)))) then (.ret false) else (.next ()))
def specIsValidStore_e0 (_ : Nat) (_ : Unit) : Unit := ()
def Zf (s_ : Yv) : Bool := (Out.on (Xz (Vn s_) specIsValidStore_e0 s_.2.1 0 ()) (fun _ => ((Jc s_.1) && (decide ((s_.2.1.length : Int) ≤ (12 : Int)) && (Qo s_.2.2 1 61)))))
theorem specIsValidStore_a (s_ : Yv) : ACalls Tryz.prog 103 [.a [.h s_.1, .h s_.2.1, .i s_.2.2]] (.b (Zf s_)) := by
 refine en Qa Tryz.func103 fun w0 F0 hG => ?_
 refine sn Qa [1, 2] [1] (p0) ?_
 refine Qb ?_
 refine tn Qa [1, 2, 3] [1] (p0) ?_
 refine mz [(1, .p 1 0), (2, .b false), (3, .i 0)] [0] [(1, [.h s_.1, .h s_.2.1, .i s_.2.2])] [] ?_
 refine wB 1 1 .sh s_.2.1 (fun hw1 hl2 => ?_)
 refine blL0 (Vn s_) specIsValidStore_e0 s_.2.1 () (fun k0 _ => [(3, .i ((k0 : Nat) : Int))]) [3] (fun _ => []) [3] wf0 (fun k0 s0 hk0 hI0 => ?_) (fun k0 s0 hk0 hI0 => ?_) (fun y0 hD0 => ?_)
 ·
  obtain ⟨a0, hx0⟩ := Xt (l := s_.2.1) (i := k0) hk0
  refine Qb ?_
  refine sn Qa [1, 2, 3, 8] [1] (pl 3 s_.2.1 (pe 4 (Qk (decide_eq_true (p := ((k0 : Nat) : Int) < (s_.2.1.length : Int)) (by omega))) p0)) ?_
  refine ckT ?_
  refine Qg ?_
  refine Qb ?_
  refine Qs ?_
  refine Qb ?_
  refine mz [(8, .b true)] [] [] [] ?_
  refine jn [(50, .b ((!(Jw s_.1 a0)) || (decide (a0.1 ≥ s_.2.2) || (decide (((k0 : Nat) : Int) > (0 : Int)) && decide ((nth s_.2.1 (Int.toNat (((k0 : Nat) : Int) - 1))).1 ≥ a0.1)))))] [8] [] [] (!(Jw s_.1 a0)) (fun h3 => ?_) (fun h3 => ?_) ?_
  ·
   have h3n : (Jw s_.1 a0) = false := bnot_t h3
   refine rN Qa Y2 [1, 2, 3, 50] [1] (pn 5 hx0 (pc 7 (cb h3n (specIsValidFile_a s_.1 a0)) (pe 8 (show .b (!false) = .b true from rfl) p0))) ?_
   exact ⟨rfl, Qd (by rw [h3] <;> kernel_rfl)⟩
  ·
   have h3n : (Jw s_.1 a0) = true := Zl h3
   refine Xo (decide (a0.1 ≥ s_.2.2)) (fun h4 => ?_) (fun h4 => ?_)
   ·
    refine rN Qa Y2 [1, 2, 3, 50] [1] (pn 5 hx0 (pc 7 (cb h3n (specIsValidFile_a s_.1 a0)) (pe 8 (show .b (!true) = .b false from rfl) (pn 13 hx0 (pt 18 h4 p0))))) ?_
    exact ⟨rfl, Qd (by rw [h3, h4] <;> kernel_rfl)⟩
   have h4d := of_decide_eq_false h4
   refine Xo (decide (((k0 : Nat) : Int) > (0 : Int))) (fun h5 => ?_) (fun h5 => ?_)
   ·
    have h5d := of_decide_eq_true h5
    have hx6 := ng s_.2.1 (Int.toNat (((k0 : Nat) : Int) - 1))
    refine rN Qa Y2 [1, 2, 3, 50] [1] (pn 5 hx0 (pc 7 (cb h3n (specIsValidFile_a s_.1 a0)) (pe 8 (show .b (!true) = .b false from rfl) (pn 13 hx0 (pf 18 h4 (pt 22 h5 (pe 27 (J7 (IntWalk.i64_in (((k0 : Nat) : Int) - 1) (by omega))) (pg 28 (((k0 : Nat) : Int) - 1) hx6 (pn 34 hx0 p0))))))))) ?_
    exact ⟨rfl, Qd (by rw [h3, h4, h5] <;> kernel_rfl)⟩
   refine rN Qa Y2 [1, 2, 3, 50] [1] (pn 5 hx0 (pc 7 (cb h3n (specIsValidFile_a s_.1 a0)) (pe 8 (show .b (!true) = .b false from rfl) (pn 13 hx0 (pf 18 h4 (pf 22 h5 p0)))))) ?_
   exact ⟨rfl, Qd (by rw [h3, h4, h5] <;> kernel_rfl)⟩
  refine ck ((!(Jw s_.1 a0)) || (decide (a0.1 ≥ s_.2.2) || (decide (((k0 : Nat) : Int) > (0 : Int)) && decide ((nth s_.2.1 (Int.toNat (((k0 : Nat) : Int) - 1))).1 ≥ a0.1)))) (fun h7 => ?_) (fun h7 => ?_)
  ·
   refine su Qa [] [50] [] [] (p0) ?_
   refine Qf ?_
   have hr8 : (Xz (Vn s_) specIsValidStore_e0 s_.2.1 0 ()) = .ret false := Ja hx0 (Xw h7 (rfl)) hI0
   exact pb [] (on_r hr8)
  have h7r : ((decide (a0.1 ≥ s_.2.2) || (decide (((k0 : Nat) : Int) > (0 : Int)) && decide ((nth s_.2.1 (Int.toNat (((k0 : Nat) : Int) - 1))).1 ≥ a0.1)))) = false := or_r h7
  have h7rl : (decide (a0.1 ≥ s_.2.2)) = false := or_l h7r
  have h7rld := of_decide_eq_false h7rl
  refine Qg ?_
  refine rn Qa [1, 2, 3] [1] (pe 1 (J7 (Qp k0 (by omega))) p0) ?_
  exact xw _ (Qu hx0 (Qm h7 (rfl)) hI0)
 ·
  refine Qb ?_
  refine sn Qa [1, 2, 3, 8] [1] (pl 3 s_.2.1 (pe 4 (Qk (decide_eq_false (p := ((k0 : Nat) : Int) < (s_.2.1.length : Int)) (by omega))) p0)) ?_
  refine ckF ?_
  refine Q7 ?_
  exact xw _ (Xx hk0 (rfl) hI0)
 refine Qb ?_
 refine jn [(2, .b ((Jc s_.1) && (decide ((s_.2.1.length : Int) ≤ (12 : Int)) && (Qo s_.2.2 1 61))))] [1, 2] [] [1] (Jc s_.1) (fun h9 => ?_) (fun h9 => ?_) ?_
 ·
  refine Xo (decide ((s_.2.1.length : Int) ≤ (12 : Int))) (fun h10 => ?_) (fun h10 => ?_)
  ·
   refine rn Qa [2] [] (pc 2 (cb h9 (Jk s_.1)) (pl 6 s_.2.1 (pt 7 h10 (pc 12 (Yb s_.2.2 1 61) p0)))) ?_
   exact ⟨rfl, Qd (by rw [h9, h10] <;> kernel_rfl)⟩
  refine rn Qa [2] [] (pc 2 (cb h9 (Jk s_.1)) (pl 6 s_.2.1 (pf 7 h10 p0))) ?_
  exact ⟨rfl, Qd (by rw [h9, h10] <;> kernel_rfl)⟩
 ·
  refine rn Qa [2] [] (pc 2 (cb h9 (Jk s_.1)) p0) ?_
  exact ⟨rfl, Qd (by rw [h9] <;> kernel_rfl)⟩
 refine Qf ?_
 exact pb [] (on_b hD0 (rfl))
theorem kind_eq (s : List X4) (n : ByteArray) : specFieldKind s n = implFieldKind s n := rfl
theorem matchSchema_eq (s : List X4) (n : ByteArray) (v : ValueD) : Zv s n v = Zi s n v := by
  unfold Zv Zi
  rw [vval_eq, kind_eq]
theorem schema_eq (s : List X4) : Jc s = Qv s := by
  unfold Jc Qv
  rw [forL_ext (f := K6 s) (g := Zw s) (e := specIsValidSchema_e0) (e' := Jz) (fun k a u => by
    unfold K6 Zw
    rw [vname_eq]
    have h : (!(Qo a.2 1 2)) = ((a.2 != 1) && (a.2 != 2)) := by
      unfold Qo
      rw [Bool.eq_iff_iff]; simp; omega
    rw [h]
    generalize (!(Op.bytesLess ((nth s (Int.toNat (((k : Nat) : Int) - 1))).1).toList a.1.toList)) = x
    cases Qz a.1 <;> cases (a.2 != (1 : Int)) <;> cases (a.2 != (2 : Int)) <;> cases decide (((k : Nat) : Int) > (0 : Int)) <;> cases x <;> rfl) (fun _ _ => rfl)]
theorem file_eq (s : List X4) (f : Zr) : Jw s f = Jv s f := by
  unfold Jw Jv
  rw [forL_ext (f := V6 s f) (g := V5 s f) (e := specIsValidFile_e0) (e' := implIsValidFile_e0) (fun k a u => by
    unfold V6 V5
    rw [matchSchema_eq]
    generalize (!(Op.bytesLess ((nth f.2.2.2.2 (Int.toNat (((k : Nat) : Int) - 1))).1).toList a.1.toList)) = x
    cases Zi s a.1 a.2 <;> cases decide (((k : Nat) : Int) > (0 : Int)) <;> cases x <;> rfl) (fun _ _ => rfl), schema_eq]
  congr 1
  funext y
  unfold implisUser
  simp only [← within_in]
  cases Qv s <;> cases Xj f.1 1 60 <;> cases Xj f.2.1 0 2 <;> cases Xj f.2.2.2.1 0 60 <;> rfl
theorem store_eq (s : Yv) : Zf s = Yd s := by
  unfold Zf Yd
  rw [forL_ext (f := Vn s) (g := Z6 s) (e := specIsValidStore_e0) (e' := Kd) (fun k a u => by
    unfold Vn Z6
    rw [file_eq]) (fun _ _ => rfl), schema_eq]
  rfl
open GoE (enc wide)
def implGetAttr_f0 (name : ByteArray) (_ : Nat) (a0 : AttrD) (_ : Unit) : Rd (ValueD) (Unit) (Unit) := (bif (a0.1.toList == name.toList) then (.ret a0.2) else (.next ()))
def implGetAttr_e0 (_ : Nat) (_ : Unit) : Unit := ()
def Zj (f : Zr) (name : ByteArray) : ValueD := (Out.on (Xz (implGetAttr_f0 name) implGetAttr_e0 f.2.2.2.2 0 ()) (fun _ => (0, 0, ⟨#[]⟩)))
theorem implGetAttr_a (f : Zr) (name : ByteArray) : ACalls Tryz.prog 213 [.a [.i f.1, .i f.2.1, .b f.2.2.1, .i f.2.2.2.1, .h f.2.2.2.2], .s name] (.a [.i ((Zj f name).1), .i ((Zj f name).2.1), .s ((Zj f name).2.2)]) := by
 refine en Qa Tryz.func213 fun w0 F0 hG => ?_
 refine sn Qa [1, 2, 4] [2, 4] (p0) ?_
 refine Qb ?_
 refine tn Qa [1, 4, 8, 9, 10] [4] (pl 2 f.2.2.2.2 p0) ?_
 refine mz [(4, .p 4 0), (8, .h f.2.2.2.2), (9, .i (f.2.2.2.2.length : Int)), (10, .i 0)] [0] [(4, [.i 0, .i 0, .s ⟨#[]⟩])] [] ?_
 refine wT 8 0 .sh f.2.2.2.2 (fun hw1 hl2 => ?_)
 refine blL0 (implGetAttr_f0 name) implGetAttr_e0 f.2.2.2.2 () (fun k0 _ => [(10, .i ((k0 : Nat) : Int))]) [10] (fun _ => []) [1, 8, 9, 10] wf0 (fun k0 s0 hk0 hI0 => ?_) (fun k0 s0 hk0 hI0 => ?_) (fun y0 hD0 => ?_)
 ·
  obtain ⟨a0, hx0⟩ := Xt (l := f.2.2.2.2) (i := k0) hk0
  refine su Qa [(11, .b true)] [] [] [] (pe 0 (Qk (decide_eq_true (p := ((k0 : Nat) : Int) < (f.2.2.2.2.length : Int)) (by omega))) p0) ?_
  refine Qb ?_
  refine ckT ?_
  refine Qg ?_
  refine Qb ?_
  refine Qs ?_
  refine sn Qa [1, 4, 6, 8, 9, 10] [4, 6] (pn 0 hx0 p0) ?_
  refine tn Qa [1, 4, 6, 8, 9, 10, 17] [4, 6] (p0) ?_
  refine ck (a0.1.toList == name.toList) (fun h3 => ?_) (fun h3 => ?_)
  ·
   refine tu Qa [] [11] [(4, [.i a0.2.1, .i a0.2.2.1, .s a0.2.2.2])] [4] (p0) ?_
   refine Qf ?_
   have hr4 : (Xz (implGetAttr_f0 name) implGetAttr_e0 f.2.2.2.2 0 ()) = .ret a0.2 := Ja hx0 (Xw h3 (rfl)) hI0
   exact pz [] (show Zj f name = _ from on_r hr4) (fun z => .a [.i z.1, .i z.2.1, .s z.2.2])
  refine Qg ?_
  refine qu Qa [(10, .i ((k0 + 1 : Nat) : Int))] [10, 11] [] [] (pe 0 (J7 (Qp k0 (by omega))) p0) ?_
  exact xw _ (Qu hx0 (Qm h3 (rfl)) hI0)
 ·
  refine sn Qa [1, 4, 8, 9, 10, 11] [4] (pe 0 (Qk (decide_eq_false (p := ((k0 : Nat) : Int) < (f.2.2.2.2.length : Int)) (by omega))) p0) ?_
  refine Qb ?_
  refine ckF ?_
  refine Q7 ?_
  exact xw _ (Xx hk0 (rfl) hI0)
 refine sn Qa [4] [4] (p0) ?_
 refine Qf ?_
 exact pz [] (show Zj f name = _ from on_b hD0 (rfl)) (fun z => .a [.i z.1, .i z.2.1, .s z.2.2])
def Ky (f : Zr) (name : ByteArray) : Int × Bool := (bif ((Zj f name).1 != (1 : Int)) then (0, false) else ((Zj f name).2.1, true))
theorem implIntAttr_a (f : Zr) (name : ByteArray) : ACalls Tryz.prog 214 [.a [.i f.1, .i f.2.1, .b f.2.2.1, .i f.2.2.2.1, .h f.2.2.2.2], .s name] (.tup [(false, [.i (((Ky f name)).1)]), (false, [.b (((Ky f name)).2)])]) := by
 refine en Qa Tryz.func214 fun w0 F0 hG => ?_
 refine sn Qa [1, 2, 4, 5] [2] (p0) ?_
 refine tn Qa [4, 5, 6] [6] (pc 2 (implGetAttr_a f name) p0) ?_
 refine Qb ?_
 refine tu Qa [(4, .i 0), (5, .b false), (6, .p 6 0), (12, .b ((Zj f name).1 != (1 : Int)))] [0, 1] [(6, [.i ((Zj f name).1), .i ((Zj f name).2.1), .s ((Zj f name).2.2)])] [] (p0) ?_
 refine ck ((Zj f name).1 != (1 : Int)) (fun h1 => ?_) (fun h1 => ?_)
 ·
  refine su Qa [] [12] [] [] (p0) ?_
  refine Qf ?_
  exact pz [] (show Ky f name = _ from Xw h1 (rfl)) (fun z => .tup [(false, [.i z.1]), (false, [.b z.2])])
 refine Qg ?_
 refine sn Qa [4, 5] [] (p0) ?_
 refine Qf ?_
 exact pz [] (show Ky f name = _ from Qm h1 (rfl)) (fun z => .tup [(false, [.i z.1]), (false, [.b z.2])])
def Vu (name : ByteArray) (_ : Nat) (a0 : Qh) (_ : Unit) : Rd ((List Int)) (Unit) (Unit) := (bif (a0.1.toList == name.toList) then (.ret a0.2) else (.next ()))
def implResultIDs_e0 (_ : Nat) (_ : Unit) : Unit := ()
def Ye (r : (List Qh)) (name : ByteArray) : (List Int) := (Out.on (Xz (Vu name) implResultIDs_e0 r 0 ()) (fun _ => []))
theorem implResultIDs_a (r : (List Qh)) (name : ByteArray) : ACalls Tryz.prog 118 [.h r, .s name] (.o 0 (Ye r name)) := by
 refine en Qa Tryz.func118 fun w0 F0 hG => ?_
 refine sn Qa [0, 1, 4] [] (p0) ?_
 refine Qb ?_
 refine tn Qa [1, 4, 7, 8, 9] [] (pl 1 r p0) ?_
 refine mz [(4, .e 0), (7, .h r), (8, .i (r.length : Int)), (9, .i 0)] [0] [] [] ?_
 refine wT 7 0 .sh r (fun hw1 hl2 => ?_)
 refine blL0 (Vu name) implResultIDs_e0 r () (fun k0 _ => [(9, .i ((k0 : Nat) : Int))]) [9] (fun _ => []) [1, 7, 8, 9] wf0 (fun k0 s0 hk0 hI0 => ?_) (fun k0 s0 hk0 hI0 => ?_) (fun y0 hD0 => ?_)
 ·
  obtain ⟨a0, hx0⟩ := Xt (l := r) (i := k0) hk0
  refine sn Qa [1, 4, 7, 8, 9, 10] [] (pe 0 (Qk (decide_eq_true (p := ((k0 : Nat) : Int) < (r.length : Int)) (by omega))) p0) ?_
  refine Qb ?_
  refine ckT ?_
  refine Qg ?_
  refine Qb ?_
  refine Qs ?_
  refine tn Qa [1, 4, 6, 7, 8, 9] [6] (pn 0 hx0 p0) ?_
  refine tu Qa [(6, .p 6 0), (16, .b (a0.1.toList == name.toList))] [] [(6, [.s a0.1, .h a0.2])] [] (p0) ?_
  refine ck (a0.1.toList == name.toList) (fun h3 => ?_) (fun h3 => ?_)
  ·
   refine sn Qa [1, 4, 7, 8, 9] [] (pc 2 (cloneInt_a a0.2) p0) ?_
   refine Qf ?_
   have hr4 : (Xz (Vu name) implResultIDs_e0 r 0 ()) = .ret a0.2 := Ja hx0 (Xw h3 (rfl)) hI0
   exact po0 [] (on_r hr4)
  refine Qg ?_
  refine rn Qa [1, 4, 7, 8, 9] [] (pe 0 (J7 (Qp k0 (by omega))) p0) ?_
  exact xw _ (Qu hx0 (Qm h3 (rfl)) hI0)
 ·
  refine sn Qa [1, 4, 7, 8, 9, 10] [] (pe 0 (Qk (decide_eq_false (p := ((k0 : Nat) : Int) < (r.length : Int)) (by omega))) p0) ?_
  refine Qb ?_
  refine ckF ?_
  refine Q7 ?_
  exact xw _ (Xx hk0 (rfl) hI0)
 refine sn Qa [4] [] (p0) ?_
 refine opn [(false, 4, 0, true, 384000, 1)] ?_
 refine Qf ?_
 exact po0 [] (on_b hD0 (rfl))
def Zy (v : Int) (k0 : Nat) (a0 : Int) (_ : Unit) : Rd (Int) (Unit) (Unit) := (bif (v == a0) then (.ret ((k0 : Nat) : Int)) else (.next ()))
def Kt (_ : Nat) (_ : Unit) : Unit := ()
def slicesIndex_int (s_ : (List Int)) (v : Int) : Int := (Out.on (Xz (Zy v) Kt s_ 0 ()) (fun _ => -1))
theorem slicesIndex_int_a (s_ : (List Int)) (v : Int) : ACalls Tryz.prog 254 [.h s_, .i v] (.i (slicesIndex_int s_ v)) := by
 refine en Qa Tryz.func254 fun w0 F0 hG => ?_
 refine sn Qa [0, 1, 4] [] (p0) ?_
 refine Qb ?_
 refine tn Qa [0, 1, 4, 7, 8] [] (pl 1 s_ p0) ?_
 refine mz [(4, .i 0), (7, .i (s_.length : Int)), (8, .i 0)] [] [] [] ?_
 refine wT 0 0 .sh s_ (fun hw1 hl2 => ?_)
 refine blL0 (Zy v) Kt s_ () (fun k0 _ => [(8, .i ((k0 : Nat) : Int))]) [8] (fun _ => []) [0, 1, 7, 8] wf0 (fun k0 s0 hk0 hI0 => ?_) (fun k0 s0 hk0 hI0 => ?_) (fun y0 hD0 => ?_)
 ·
  obtain ⟨a0, hx0⟩ := Xt (l := s_) (i := k0) hk0
  refine sn Qa [0, 1, 4, 7, 8, 9] [] (pe 0 (Qk (decide_eq_true (p := ((k0 : Nat) : Int) < (s_.length : Int)) (by omega))) p0) ?_
  refine Qb ?_
  refine ckT ?_
  refine Qg ?_
  refine Qb ?_
  refine Qs ?_
  refine tn Qa [0, 1, 4, 5, 7, 8] [] (p0) ?_
  refine tu Qa [(5, .i ((k0 : Nat) : Int)), (16, .b (v == a0))] [] [] [] (pn 3 hx0 p0) ?_
  refine ck (v == a0) (fun h3 => ?_) (fun h3 => ?_)
  ·
   refine sn Qa [0, 1, 4, 7, 8] [] (p0) ?_
   refine Qf ?_
   have hr4 : (Xz (Zy v) Kt s_ 0 ()) = .ret ((k0 : Nat) : Int) := Ja hx0 (Xw h3 (rfl)) hI0
   exact pi [] (on_r hr4)
  have h3d := Zk h3
  refine Qg ?_
  refine rn Qa [0, 1, 4, 7, 8] [] (pe 0 (J7 (Qp k0 (by omega))) p0) ?_
  exact xw _ (Qu hx0 (Qm h3 (rfl)) hI0)
 ·
  refine sn Qa [0, 1, 4, 7, 8, 9] [] (pe 0 (Qk (decide_eq_false (p := ((k0 : Nat) : Int) < (s_.length : Int)) (by omega))) p0) ?_
  refine Qb ?_
  refine ckF ?_
  refine Q7 ?_
  exact xw _ (Xx hk0 (rfl) hI0)
 refine sn Qa [4] [] (p0) ?_
 refine Qf ?_
 exact pi [] (on_b hD0 (rfl))
def Ku (s_ : (List Int)) (v : Int) : Bool := decide ((slicesIndex_int s_ v) ≥ (0 : Int))
theorem slicesContains_int_a (s_ : (List Int)) (v : Int) : ACalls Tryz.prog 233 [.h s_, .i v] (.b (Ku s_ v)) := by
 refine en Qa Tryz.func233 fun w0 F0 hG => ?_
 refine sn Qa [0, 1, 4] [] (p0) ?_
 refine tn Qa [4] [] (pc 2 (slicesIndex_int_a s_ v) p0) ?_
 refine Qf ?_
 exact pb [] (show Ku s_ v = decide ((slicesIndex_int s_ v) ≥ (0 : Int)) from rfl)
def Kj (ids : (List Int)) (id : Int) : Bool := (Ku ids id)
theorem implContainsID_a (ids : (List Int)) (id : Int) : ACalls Tryz.prog 215 [.h ids, .i id] (.b (Kj ids id)) := by
 refine en Qa Tryz.func215 fun w0 F0 hG => ?_
 refine sn Qa [0, 1, 4] [] (p0) ?_
 refine tn Qa [4] [] (pc 2 (slicesContains_int_a ids id) p0) ?_
 refine Qf ?_
 exact pb [] (show Kj ids id = (Ku ids id) from rfl)
def Xy (n_ : Nat) (q : (List Yi)) (at_ : Int) (f : Zr) (r : (List Qh)) : Bool := match n_ with
 | 0 => default
 | n_ + 1 => (bif ((nth q (Int.toNat at_)).1 == (2 : Int)) then ((Zj f ((nth q (Int.toNat at_)).2.2.2.1)).1 != (0 : Int)) else (bif ((nth q (Int.toNat at_)).1 == (3 : Int)) then (((Zj f ((nth q (Int.toNat at_)).2.2.2.1)).1 == (nth q (Int.toNat at_)).2.2.2.2.1) && (((Zj f ((nth q (Int.toNat at_)).2.2.2.1)).2.1 == (nth q (Int.toNat at_)).2.2.2.2.2.1) && ((((Zj f ((nth q (Int.toNat at_)).2.2.2.1)).2.2).toList == ((nth q (Int.toNat at_)).2.2.2.2.2.2).toList) && true))) else (bif ((nth q (Int.toNat at_)).1 == (4 : Int)) then (((Ky f ((nth q (Int.toNat at_)).2.2.2.1))).2 && decide (((Ky f ((nth q (Int.toNat at_)).2.2.2.1))).1 < (nth q (Int.toNat at_)).2.2.2.2.2.1)) else (bif ((nth q (Int.toNat at_)).1 == (5 : Int)) then (!(Xy n_ q ((nth q (Int.toNat at_)).2.1) f r)) else (bif ((nth q (Int.toNat at_)).1 == (6 : Int)) then ((Xy n_ q ((nth q (Int.toNat at_)).2.1) f r) && (Xy n_ q ((nth q (Int.toNat at_)).2.2.1) f r)) else (bif ((nth q (Int.toNat at_)).1 == (7 : Int)) then ((Xy n_ q ((nth q (Int.toNat at_)).2.1) f r) || (Xy n_ q ((nth q (Int.toNat at_)).2.2.1) f r)) else (bif ((nth q (Int.toNat at_)).1 == (8 : Int)) then (Kj (Ye r ((nth q (Int.toNat at_)).2.2.2.1)) f.1) else (bif ((nth q (Int.toNat at_)).1 == (9 : Int)) then ((f.2.2.2.1 != (0 : Int)) && (Kj (Ye r ((nth q (Int.toNat at_)).2.2.2.1)) f.2.2.2.1)) else true))))))))
theorem implmatchesAt_a : ∀ (n_ : Nat) (q : (List Yi)) (at_ : Int) (f : Zr) (r : (List Qh)) (hv : Qn q = true) (ha : 0 ≤ at_) (hb : at_ < (q.length : Int)) (hn : at_ < ((n_ : Nat) : Int)), ACalls Tryz.prog 185 [.h q, .i at_, .a [.i f.1, .i f.2.1, .b f.2.2.1, .i f.2.2.2.1, .h f.2.2.2.2], .h r] (.b (Xy n_ q at_ f r)) := by
 intro n_
 induction n_ with
 | zero => intro q at_ f r hv ha hb hn; exact (by omega : False).elim
 | succ n_ ih =>
  intro q at_ f r hv ha hb hn
  refine en Qa Tryz.func185 fun w0 F0 hG => ?_
  refine sn Qa [0, 1, 3, 6, 8] [6] (p0) ?_
  refine wT 0 0 .sh q (fun hw2 hl3 => ?_)
  have hx1 := ng q (Int.toNat at_)
  refine tn Qa [0, 3, 6, 8, 9] [6, 9] (pg 2 at_ hx1 p0) ?_
  refine Qb ?_
  refine tu Qa [(6, .p 6 0), (8, .b false), (9, .p 9 0), (17, .i ((nth q (Int.toNat at_)).1))] [1, 2] [(6, [.i f.1, .i f.2.1, .b f.2.2.1, .i f.2.2.2.1, .h f.2.2.2.2]), (9, [.i ((nth q (Int.toNat at_)).1), .i ((nth q (Int.toNat at_)).2.1), .i ((nth q (Int.toNat at_)).2.2.1), .s ((nth q (Int.toNat at_)).2.2.2.1), .i ((nth q (Int.toNat at_)).2.2.2.2.1), .i ((nth q (Int.toNat at_)).2.2.2.2.2.1), .s ((nth q (Int.toNat at_)).2.2.2.2.2.2)])] [] (p0) ?_
  refine Qs ?_
  refine sn Qa [0, 3, 6, 8, 9, 17, 18] [6, 9] (p0) ?_
  refine ck ((nth q (Int.toNat at_)).1 == (2 : Int)) (fun h4 => ?_) (fun h4 => ?_)
  ·
   refine tn Qa [8] [] (pc 3 (implGetAttr_a f ((nth q (Int.toNat at_)).2.2.2.1)) p0) ?_
   refine Qf ?_
   exact pb [] (Xw h4 (rfl))
  have h4d := Zk h4
  refine tn Qa [0, 3, 6, 8, 9, 17, 26] [6, 9] (p0) ?_
  refine ck ((nth q (Int.toNat at_)).1 == (3 : Int)) (fun h5 => ?_) (fun h5 => ?_)
  ·
   refine tU Qa Y2 [(8, .b (((Zj f ((nth q (Int.toNat at_)).2.2.2.1)).1 == (nth q (Int.toNat at_)).2.2.2.2.1) && (((Zj f ((nth q (Int.toNat at_)).2.2.2.1)).2.1 == (nth q (Int.toNat at_)).2.2.2.2.2.1) && ((((Zj f ((nth q (Int.toNat at_)).2.2.2.1)).2.2).toList == ((nth q (Int.toNat at_)).2.2.2.2.2.2).toList) && true))))] [0, 3, 6, 8, 9, 17] [] [6, 9] (pc 3 (implGetAttr_a f ((nth q (Int.toNat at_)).2.2.2.1)) p0) ?_
   refine Qf ?_
   exact pb [] (Qm h4 (Xw h5 (rfl)))
  have h5d := Zk h5
  refine tu Qa [(35, .b ((nth q (Int.toNat at_)).1 == (4 : Int)))] [] [] [] (p0) ?_
  refine ck ((nth q (Int.toNat at_)).1 == (4 : Int)) (fun h6 => ?_) (fun h6 => ?_)
  ·
   refine sn Qa [8, 9, 10, 11] [9] (pc 3 (implIntAttr_a f ((nth q (Int.toNat at_)).2.2.2.1)) p0) ?_
   refine Qb ?_
   refine mz [(10, .i (((Ky f ((nth q (Int.toNat at_)).2.2.2.1))).1)), (11, .b (((Ky f ((nth q (Int.toNat at_)).2.2.2.1))).2))] [0, 3, 6, 17, 35] [] [6] ?_
   refine jn [(8, .b (((Ky f ((nth q (Int.toNat at_)).2.2.2.1))).2 && decide (((Ky f ((nth q (Int.toNat at_)).2.2.2.1))).1 < (nth q (Int.toNat at_)).2.2.2.2.2.1)))] [8, 9, 10, 11] [] [9] (((Ky f ((nth q (Int.toNat at_)).2.2.2.1))).2) (fun h7 => ?_) (fun h7 => ?_) ?_
   ·
    refine rn Qa [8] [] (pt 0 h7 p0) ?_
    exact ⟨rfl, Qd (by rw [h7] <;> kernel_rfl)⟩
   ·
    refine rn Qa [8] [] (pf 0 h7 p0) ?_
    exact ⟨rfl, Qd (by rw [h7] <;> kernel_rfl)⟩
   refine Qf ?_
   exact pb [] (Qm h4 (Qm h5 (Xw h6 (rfl))))
  have h6d := Zk h6
  refine sn Qa [0, 3, 6, 8, 9, 17, 52] [6, 9] (p0) ?_
  refine ck ((nth q (Int.toNat at_)).1 == (5 : Int)) (fun h8 => ?_) (fun h8 => ?_)
  ·
   have h8d := eq_of_beq h8
   refine tn Qa [8] [] (pc 5 (ih q ((nth q (Int.toNat at_)).2.1) f r hv (by have hz := ql_a hv ha hb h8; omega) (by have hz := ql_a hv ha hb h8; omega) (by have hz := ql_a hv ha hb h8; omega)) p0) ?_
   refine Qf ?_
   exact pb [] (Qm h4 (Qm h5 (Qm h6 (Xw h8 (rfl)))))
  have h8d := Zk h8
  refine tn Qa [0, 3, 6, 8, 9, 17, 61] [6, 9] (p0) ?_
  refine ck ((nth q (Int.toNat at_)).1 == (6 : Int)) (fun h9 => ?_) (fun h9 => ?_)
  ·
   have h9d := eq_of_beq h9
   refine Qb ?_
   refine mz [(61, .b ((nth q (Int.toNat at_)).1 == (6 : Int)))] [35] [] [] ?_
   refine jn [(8, .b ((Xy n_ q ((nth q (Int.toNat at_)).2.1) f r) && (Xy n_ q ((nth q (Int.toNat at_)).2.2.1) f r)))] [0, 3, 6, 8, 9, 17, 61] [] [6, 9] (Xy n_ q ((nth q (Int.toNat at_)).2.1) f r) (fun h10 => ?_) (fun h10 => ?_) ?_
   ·
    refine rn Qa [8] [] (pc 5 (cb h10 (ih q ((nth q (Int.toNat at_)).2.1) f r hv (by have hz := ql_b hv ha hb h9; omega) (by have hz := ql_b hv ha hb h9; omega) (by have hz := ql_b hv ha hb h9; omega))) (pc 12 (ih q ((nth q (Int.toNat at_)).2.2.1) f r hv (by have hz := qr_b hv ha hb h9; omega) (by have hz := qr_b hv ha hb h9; omega) (by have hz := qr_b hv ha hb h9; omega)) p0)) ?_
    exact ⟨rfl, Qd (by rw [h10] <;> kernel_rfl)⟩
   ·
    refine rn Qa [8] [] (pc 5 (cb h10 (ih q ((nth q (Int.toNat at_)).2.1) f r hv (by have hz := ql_b hv ha hb h9; omega) (by have hz := ql_b hv ha hb h9; omega) (by have hz := ql_b hv ha hb h9; omega))) p0) ?_
    exact ⟨rfl, Qd (by rw [h10] <;> kernel_rfl)⟩
   refine Qf ?_
   exact pb [] (Qm h4 (Qm h5 (Qm h6 (Qm h8 (Xw h9 (rfl))))))
  have h9d := Zk h9
  refine tu Qa [(77, .b ((nth q (Int.toNat at_)).1 == (7 : Int)))] [35] [] [] (p0) ?_
  refine ck ((nth q (Int.toNat at_)).1 == (7 : Int)) (fun h11 => ?_) (fun h11 => ?_)
  ·
   have h11d := eq_of_beq h11
   refine Qb ?_
   refine jn [(8, .b ((Xy n_ q ((nth q (Int.toNat at_)).2.1) f r) || (Xy n_ q ((nth q (Int.toNat at_)).2.2.1) f r)))] [0, 3, 6, 8, 9, 17, 77] [] [6, 9] (Xy n_ q ((nth q (Int.toNat at_)).2.1) f r) (fun h12 => ?_) (fun h12 => ?_) ?_
   ·
    refine rn Qa [8] [] (pc 5 (cb h12 (ih q ((nth q (Int.toNat at_)).2.1) f r hv (by have hz := ql_c hv ha hb h11; omega) (by have hz := ql_c hv ha hb h11; omega) (by have hz := ql_c hv ha hb h11; omega))) p0) ?_
    exact ⟨rfl, Qd (by rw [h12] <;> kernel_rfl)⟩
   ·
    refine rn Qa [8] [] (pc 5 (cb h12 (ih q ((nth q (Int.toNat at_)).2.1) f r hv (by have hz := ql_c hv ha hb h11; omega) (by have hz := ql_c hv ha hb h11; omega) (by have hz := ql_c hv ha hb h11; omega))) (pc 12 (ih q ((nth q (Int.toNat at_)).2.2.1) f r hv (by have hz := qr_c hv ha hb h11; omega) (by have hz := qr_c hv ha hb h11; omega) (by have hz := qr_c hv ha hb h11; omega)) p0)) ?_
    exact ⟨rfl, Qd (by rw [h12] <;> kernel_rfl)⟩
   refine Qf ?_
   exact pb [] (Qm h4 (Qm h5 (Qm h6 (Qm h8 (Qm h9 (Xw h11 (rfl)))))))
  refine sn Qa [3, 6, 8, 9, 17, 93] [6, 9] (p0) ?_
  refine ck ((nth q (Int.toNat at_)).1 == (8 : Int)) (fun h13 => ?_) (fun h13 => ?_)
  ·
   refine tN Qa Y2 [8] [] (pc 3 (implResultIDs_a r ((nth q (Int.toNat at_)).2.2.2.1)) (pc 6 (implContainsID_a (Ye r ((nth q (Int.toNat at_)).2.2.2.1)) f.1) p0)) ?_
   refine Qf ?_
   exact pb [] (Qm h4 (Qm h5 (Qm h6 (Qm h8 (Qm h9 (Qm h11 (Xw h13 (rfl))))))))
  refine tn Qa [3, 6, 8, 9, 102] [6, 9] (p0) ?_
  refine ck ((nth q (Int.toNat at_)).1 == (9 : Int)) (fun h14 => ?_) (fun h14 => ?_)
  ·
   refine Qb ?_
   refine mz [(102, .b ((nth q (Int.toNat at_)).1 == (9 : Int)))] [0, 17, 77] [] [] ?_
   refine jn [(8, .b ((f.2.2.2.1 != (0 : Int)) && (Kj (Ye r ((nth q (Int.toNat at_)).2.2.2.1)) f.2.2.2.1)))] [3, 6, 8, 9, 102] [] [6, 9] (f.2.2.2.1 != (0 : Int)) (fun h15 => ?_) (fun h15 => ?_) ?_
   ·
    refine rN Qa Y2 [8] [] (pt 2 h15 (pc 7 (implResultIDs_a r ((nth q (Int.toNat at_)).2.2.2.1)) (pc 10 (implContainsID_a (Ye r ((nth q (Int.toNat at_)).2.2.2.1)) f.2.2.2.1) p0))) ?_
    exact ⟨rfl, Qd (by rw [h15] <;> kernel_rfl)⟩
   ·
    refine rN Qa Y2 [8] [] (pf 2 h15 p0) ?_
    exact ⟨rfl, Qd (by rw [h15] <;> kernel_rfl)⟩
   refine Qf ?_
   exact pb [] (Qm h4 (Qm h5 (Qm h6 (Qm h8 (Qm h9 (Qm h11 (Qm h13 (Xw h14 (rfl)))))))))
  refine Qg ?_
  refine tu Qa [(8, .b true)] [0, 3, 6, 8, 9, 17, 77] [] [6, 9] (p0) ?_
  refine Qf ?_
  exact pb [] (Qm h4 (Qm h5 (Qm h6 (Qm h8 (Qm h9 (Qm h11 (Qm h13 (Qm h14 (rfl)))))))))
def Kz (q : (List Yi)) (f : Zr) (r : (List Qh)) : Bool := ((Qn q) && (Xy (List.length q) q ((q.length : Int) - 1) f r))
theorem implMatches_a (q : (List Yi)) (f : Zr) (r : (List Qh)) : ACalls Tryz.prog 150 [.h q, .a [.i f.1, .i f.2.1, .b f.2.2.1, .i f.2.2.2.1, .h f.2.2.2.2], .h r] (.b (Kz q f r)) := by
 refine en Qa Tryz.func150 fun w0 F0 hG => ?_
 refine sn Qa [0, 2, 4, 6] [4] (p0) ?_
 refine Qb ?_
 refine mz [(4, .p 4 0), (6, .b false)] [1] [(4, [.i f.1, .i f.2.1, .b f.2.2.1, .i f.2.2.2.1, .h f.2.2.2.2])] [] ?_
 refine jn [(6, .b ((Qn q) && (Xy (List.length q) q ((q.length : Int) - 1) f r)))] [0, 2, 4, 6] [] [4] (Qn q) (fun h1 => ?_) (fun h1 => ?_) ?_
 ·
  refine wT 0 0 .sh q (fun hw2 hl3 => ?_)
  refine rn Qa [6] [] (pc 1 (cb h1 (V1 q)) (pl 5 q (pe 6 (J7 (IntWalk.i64_in ((q.length : Int) - 1) (by omega))) (pc 9 (implmatchesAt_a (List.length q) q ((q.length : Int) - 1) f r h1 (by have := vq_len h1; omega) (by omega) (by omega)) p0)))) ?_
  exact ⟨rfl, Qd (by rw [h1] <;> kernel_rfl)⟩
 ·
  refine rn Qa [6] [] (pc 1 (cb h1 (V1 q)) p0) ?_
  exact ⟨rfl, Qd (by rw [h1] <;> kernel_rfl)⟩
 refine Qf ?_
 exact pb [] (show Kz q f r = ((Qn q) && (Xy (List.length q) q ((q.length : Int) - 1) f r)) from rfl)
def V7 (q : (List Yi)) (r : (List Qh)) (_ : Nat) (a0 : Zr) (s0 : (List Int)) : Rd ((List Int)) ((List Int)) ((List Int)) := (bif (Kz q a0 r) then (.next (s0 ++ [a0.1])) else (.next s0))
def implSelectFiles_e0 (_ : Nat) (s0 : (List Int)) : (List Int) := s0
def X6 (s_ : Yv) (q : (List Yi)) (r : (List Qh)) : (List Int) := (Out.on (Xz (V7 q r) implSelectFiles_e0 s_.2.1 0 []) (fun y0 => y0))
theorem implSelectFiles_a (s_ : Yv) (q : (List Yi)) (r : (List Qh)) : ACalls Tryz.prog 120 [.a [.h s_.1, .h s_.2.1, .i s_.2.2], .h q, .h r] (.o 0 (X6 s_ q r)) := by
 refine en Qa Tryz.func120 fun w0 F0 hG => ?_
 refine sn Qa [1, 2, 3, 6] [3] (p0) ?_
 refine tn Qa [1, 2, 3, 6, 7] [3] (p0) ?_
 refine Qb ?_
 refine tu Qa [(6, .e 0), (7, .one (.slc (.own true 640) 1 [])), (12, .h s_.2.1), (13, .i (s_.2.1.length : Int)), (14, .i 0)] [0] [] [] (pl 2 s_.2.1 p0) ?_
 refine wT 12 0 .sh s_.2.1 (fun hw1 hl2 => ?_)
 refine blL1 (V7 q r) implSelectFiles_e0 s_.2.1 [] (fun k0 s0 => [(7, .o 147203 s0), (14, .i ((k0 : Nat) : Int))]) [7, 14] (fun y0 => [(7, .o 147353 y0)]) [1, 2, 7, 12, 13, 14] (fun k0 s0 => List.length s0 ≤ k0) (Yw [(640, 147203)] (by kernel_rfl)) (by simp) (fun k0 s0 hk0 hI0 => ?_) (fun k0 s0 hk0 hI0 => ?_) (fun y0 hD0 => ?_)
 ·
  have hA0_0 := hI0.2
  obtain ⟨a0, hx0⟩ := Xt (l := s_.2.1) (i := k0) hk0
  refine su Qa [(15, .b true)] [] [] [] (pe 0 (Qk (decide_eq_true (p := ((k0 : Nat) : Int) < (s_.2.1.length : Int)) (by omega))) p0) ?_
  refine Qb ?_
  refine ckT ?_
  refine Qg ?_
  refine Qb ?_
  refine Qs ?_
  refine sn Qa [1, 2, 6, 7, 9, 12, 13, 14] [9] (pn 0 hx0 p0) ?_
  refine tn Qa [1, 2, 6, 7, 9, 12, 13, 14, 21] [9] (pc 3 (implMatches_a q a0 r) p0) ?_
  refine ck (Kz q a0 r) (fun h3 => ?_) (fun h3 => ?_)
  ·
   refine wT 7 0 (.own true 147203) s0 (fun hw4 hl5 => ?_)
   refine qu Qa [(7, .one (.slc (.own true 1664) 1 ((eL s0) ++ [[.i a0.1]])))] [7, 15] [] [] (pa s0 [a0.1] p0) ?_
   refine eqn [(7, .o 1664 (s0 ++ [a0.1]))] [7] [] [] (by rw [show ((eL s0) ++ [[.i a0.1]]) = (eL (s0 ++ [a0.1])) from app_eL (rfl) (rfl)]; first | done | kernel_rfl) ?_
   refine rn Qa [1, 2, 6, 7, 12, 13, 14] [] (pe 0 (J7 (Qp k0 (by omega))) p0) ?_
   exact Exists.intro (s0 ++ [a0.1]) (And.intro (Yw [(1664, 147203)] (by kernel_rfl)) ⟨Qu hx0 (Xw h3 (rfl)) hI0.1, by first | omega | (simp; omega) | simp⟩)
  refine Qg ?_
  refine qu Qa [(14, .i ((k0 + 1 : Nat) : Int))] [14, 15] [] [] (pe 0 (J7 (Qp k0 (by omega))) p0) ?_
  exact xw s0 ⟨Qu hx0 (Qm h3 (rfl)) hI0.1, by first | omega | (simp; omega) | simp⟩
 ·
  have hA0_0 := hI0.2
  refine su Qa [(15, .b false)] [] [] [] (pe 0 (Qk (decide_eq_false (p := ((k0 : Nat) : Int) < (s_.2.1.length : Int)) (by omega))) p0) ?_
  refine Qb ?_
  refine ckF ?_
  refine Q7 ?_
  exact Exists.intro _ (And.intro (Yw [(147203, 147353)] (by kernel_rfl)) (Xx hk0 (rfl) hI0.1))
 refine sn Qa [6] [] (p0) ?_
 refine Qf ?_
 exact po0 [] (on_b hD0 (rfl))
def specGetAttr_f0 (name : ByteArray) (_ : Nat) (a0 : AttrD) (_ : Unit) : Rd (ValueD) (Unit) (Unit) := (bif (a0.1.toList == name.toList) then (.ret a0.2) else (.next ()))
def specGetAttr_e0 (_ : Nat) (_ : Unit) : Unit := ()
def Zq (f : Zr) (name : ByteArray) : ValueD := (Out.on (Xz (specGetAttr_f0 name) specGetAttr_e0 f.2.2.2.2 0 ()) (fun _ => (0, 0, ⟨#[]⟩)))
theorem specGetAttr_a (f : Zr) (name : ByteArray) : ACalls Tryz.prog 198 [.a [.i f.1, .i f.2.1, .b f.2.2.1, .i f.2.2.2.1, .h f.2.2.2.2], .s name] (.a [.i ((Zq f name).1), .i ((Zq f name).2.1), .s ((Zq f name).2.2)]) := by
 refine en Qa Tryz.func198 fun w0 F0 hG => ?_
 refine sn Qa [1, 2, 4] [2, 4] (p0) ?_
 refine Qb ?_
 refine tn Qa [1, 2, 4, 5] [2, 4] (p0) ?_
 refine mz [(2, .p 2 0), (4, .p 4 0), (5, .i 0)] [0] [(2, [.i f.1, .i f.2.1, .b f.2.2.1, .i f.2.2.2.1, .h f.2.2.2.2]), (4, [.i 0, .i 0, .s ⟨#[]⟩])] [] ?_
 refine wB 2 4 .sh f.2.2.2.2 (fun hw1 hl2 => ?_)
 refine blL0b (specGetAttr_f0 name) specGetAttr_e0 f.2.2.2.2 () (fun k0 _ => [(5, .i ((k0 : Nat) : Int))]) [5] (fun _ _ => []) [] (fun _ => []) [1, 2, 5] (fun _ => []) [2] wf0 (fun k0 s0 hk0 hI0 => ?_) (fun k0 s0 hk0 hI0 => ?_) (fun y0 hD0 => ?_)
 ·
  obtain ⟨a0, hx0⟩ := Xt (l := f.2.2.2.2) (i := k0) hk0
  refine Qb ?_
  refine sn Qa [1, 2, 4, 5, 10] [2, 4] (pl 3 f.2.2.2.2 (pe 4 (Qk (decide_eq_true (p := ((k0 : Nat) : Int) < (f.2.2.2.2.length : Int)) (by omega))) p0)) ?_
  refine ckT ?_
  refine Qg ?_
  refine Qb ?_
  refine Qs ?_
  refine tn Qa [1, 2, 4, 5, 20] [2, 4] (pn 3 hx0 p0) ?_
  refine ck (a0.1.toList == name.toList) (fun h3 => ?_) (fun h3 => ?_)
  ·
   refine tu Qa [] [] [(4, [.i a0.2.1, .i a0.2.2.1, .s a0.2.2.2])] [4] (pn 3 hx0 p0) ?_
   refine Qf ?_
   have hr4 : (Xz (specGetAttr_f0 name) specGetAttr_e0 f.2.2.2.2 0 ()) = .ret a0.2 := Ja hx0 (Xw h3 (rfl)) hI0
   exact pz [] (show Zq f name = _ from on_r hr4) (fun z => .a [.i z.1, .i z.2.1, .s z.2.2])
  refine Qg ?_
  refine qu Qa [(5, .i ((k0 + 1 : Nat) : Int))] [5] [] [] (pe 1 (J7 (Qp k0 (by omega))) p0) ?_
  exact xw _ (Qu hx0 (Qm h3 (rfl)) hI0)
 ·
  refine Qb ?_
  refine sn Qa [1, 2, 4, 5, 10] [2, 4] (pl 3 f.2.2.2.2 (pe 4 (Qk (decide_eq_false (p := ((k0 : Nat) : Int) < (f.2.2.2.2.length : Int)) (by omega))) p0)) ?_
  refine ckF ?_
  refine Q7 ?_
  exact xw _ (Xx hk0 (rfl) hI0)
 refine sn Qa [4] [4] (p0) ?_
 refine Qf ?_
 exact pz [] (show Zq f name = _ from on_b hD0 (rfl)) (fun z => .a [.i z.1, .i z.2.1, .s z.2.2])
def specResultIDs_f0 (name : ByteArray) (_ : Nat) (a0 : Qh) (_ : Unit) : Rd ((List Int)) (Unit) (Unit) := (bif (a0.1.toList == name.toList) then (.ret a0.2) else (.next ()))
def specResultIDs_e0 (_ : Nat) (_ : Unit) : Unit := ()
def specResultIDs (a_ : (List Qh)) (name : ByteArray) : (List Int) := (Out.on (Xz (specResultIDs_f0 name) specResultIDs_e0 a_ 0 ()) (fun _ => []))
theorem specResultIDs_a (a_ : (List Qh)) (name : ByteArray) : ACalls Tryz.prog 200 [.h a_, .s name] (.o 0 (specResultIDs a_ name)) := by
 refine en Qa Tryz.func200 fun w0 F0 hG => ?_
 refine sn Qa [0, 1, 4] [] (p0) ?_
 refine Qb ?_
 refine tn Qa [0, 1, 4, 5] [] (p0) ?_
 refine mz [(4, .e 0), (5, .i 0)] [] [] [] ?_
 refine wT 0 0 .sh a_ (fun hw1 hl2 => ?_)
 refine blL0 (specResultIDs_f0 name) specResultIDs_e0 a_ () (fun k0 _ => [(5, .i ((k0 : Nat) : Int))]) [5] (fun _ => []) [0, 1, 5] wf0 (fun k0 s0 hk0 hI0 => ?_) (fun k0 s0 hk0 hI0 => ?_) (fun y0 hD0 => ?_)
 ·
  obtain ⟨a0, hx0⟩ := Xt (l := a_) (i := k0) hk0
  refine Qb ?_
  refine sn Qa [0, 1, 4, 5, 9] [] (pl 2 a_ (pe 3 (Qk (decide_eq_true (p := ((k0 : Nat) : Int) < (a_.length : Int)) (by omega))) p0)) ?_
  refine ckT ?_
  refine Qg ?_
  refine Qb ?_
  refine Qs ?_
  refine tn Qa [0, 1, 4, 5, 18] [] (pn 2 hx0 p0) ?_
  refine ck (a0.1.toList == name.toList) (fun h3 => ?_) (fun h3 => ?_)
  ·
   have hl4 : List.length a0.2 ≤ 1073741824 := wide_len (wide_snd (wide_get hx0 (hw1)))
   refine tu Qa [(4, .o 1600 a0.2)] [4] [] [] (pn 3 hx0 (po 6 (.flat) (px (ob_len (n := (([] : List (List PV)).length + ((eL a0.2) : List (List PV)).length)) (len_of (rfl) (Ym a0.2) (by first | omega | (simp only [List.length_cons, List.length_nil]; omega) | (simp; omega) | simp))) (px (ob_flat (flat_eL a0.2)) p0)))) ?_
   refine Qf ?_
   have hr5 : (Xz (specResultIDs_f0 name) specResultIDs_e0 a_ 0 ()) = .ret a0.2 := Ja hx0 (Xw h3 (rfl)) hI0
   exact po0 [] (on_r hr5)
  refine Qg ?_
  refine qu Qa [(5, .i ((k0 + 1 : Nat) : Int))] [5] [] [] (pe 1 (J7 (Qp k0 (by omega))) p0) ?_
  exact xw _ (Qu hx0 (Qm h3 (rfl)) hI0)
 ·
  refine Qb ?_
  refine sn Qa [0, 1, 4, 5, 9] [] (pl 2 a_ (pe 3 (Qk (decide_eq_false (p := ((k0 : Nat) : Int) < (a_.length : Int)) (by omega))) p0)) ?_
  refine ckF ?_
  refine Q7 ?_
  exact xw _ (Xx hk0 (rfl) hI0)
 refine sn Qa [4] [] (p0) ?_
 refine Qf ?_
 exact po0 [] (on_b hD0 (rfl))
def Ve (id : Int) (_ : Nat) (a0 : Int) (_ : Unit) : Rd (Bool) (Unit) (Unit) := (bif (a0 == id) then (.ret true) else (.next ()))
def specContainsID_e0 (_ : Nat) (_ : Unit) : Unit := ()
def specContainsID (ids : (List Int)) (id : Int) : Bool := (Out.on (Xz (Ve id) specContainsID_e0 ids 0 ()) (fun _ => false))
theorem specContainsID_a (ids : (List Int)) (id : Int) : ACalls Tryz.prog 199 [.h ids, .i id] (.b (specContainsID ids id)) := by
 refine en Qa Tryz.func199 fun w0 F0 hG => ?_
 refine sn Qa [0, 1, 4] [] (p0) ?_
 refine Qb ?_
 refine tn Qa [0, 1, 4, 5] [] (p0) ?_
 refine mz [(4, .b false), (5, .i 0)] [] [] [] ?_
 refine wT 0 0 .sh ids (fun hw1 hl2 => ?_)
 refine blL0 (Ve id) specContainsID_e0 ids () (fun k0 _ => [(5, .i ((k0 : Nat) : Int))]) [5] (fun _ => []) [0, 1, 5] wf0 (fun k0 s0 hk0 hI0 => ?_) (fun k0 s0 hk0 hI0 => ?_) (fun y0 hD0 => ?_)
 ·
  obtain ⟨a0, hx0⟩ := Xt (l := ids) (i := k0) hk0
  refine Qb ?_
  refine sn Qa [0, 1, 4, 5, 9] [] (pl 2 ids (pe 3 (Qk (decide_eq_true (p := ((k0 : Nat) : Int) < (ids.length : Int)) (by omega))) p0)) ?_
  refine ckT ?_
  refine Qg ?_
  refine Qb ?_
  refine Qs ?_
  refine tn Qa [0, 1, 4, 5, 17] [] (pn 2 hx0 p0) ?_
  refine ck (a0 == id) (fun h3 => ?_) (fun h3 => ?_)
  ·
   refine tu Qa [(4, .b true)] [4] [] [] (p0) ?_
   refine Qf ?_
   have hr4 : (Xz (Ve id) specContainsID_e0 ids 0 ()) = .ret true := Ja hx0 (Xw h3 (rfl)) hI0
   exact pb [] (on_r hr4)
  have h3d := Zk h3
  refine Qg ?_
  refine qu Qa [(5, .i ((k0 + 1 : Nat) : Int))] [5] [] [] (pe 1 (J7 (Qp k0 (by omega))) p0) ?_
  exact xw _ (Qu hx0 (Qm h3 (rfl)) hI0)
 ·
  refine Qb ?_
  refine sn Qa [0, 1, 4, 5, 9] [] (pl 2 ids (pe 3 (Qk (decide_eq_false (p := ((k0 : Nat) : Int) < (ids.length : Int)) (by omega))) p0)) ?_
  refine ckF ?_
  refine Q7 ?_
  exact xw _ (Xx hk0 (rfl) hI0)
 refine sn Qa [4] [] (p0) ?_
 refine Qf ?_
 exact pb [] (on_b hD0 (rfl))
def Z7 (n_ : Nat) (q : (List Yi)) (at_ : Int) (f : Zr) (a_ : (List Qh)) : Bool := match n_ with
 | 0 => default
 | n_ + 1 => (bif ((nth q (Int.toNat at_)).1 == (1 : Int)) then true else (bif ((nth q (Int.toNat at_)).1 == (2 : Int)) then ((Zq f ((nth q (Int.toNat at_)).2.2.2.1)).1 != (0 : Int)) else (bif ((nth q (Int.toNat at_)).1 == (3 : Int)) then (((Zq f ((nth q (Int.toNat at_)).2.2.2.1)).1 == (nth q (Int.toNat at_)).2.2.2.2.1) && (((Zq f ((nth q (Int.toNat at_)).2.2.2.1)).2.1 == (nth q (Int.toNat at_)).2.2.2.2.2.1) && ((((Zq f ((nth q (Int.toNat at_)).2.2.2.1)).2.2).toList == ((nth q (Int.toNat at_)).2.2.2.2.2.2).toList) && true))) else (bif ((nth q (Int.toNat at_)).1 == (4 : Int)) then (((Zq f ((nth q (Int.toNat at_)).2.2.2.1)).1 == (1 : Int)) && decide ((Zq f ((nth q (Int.toNat at_)).2.2.2.1)).2.1 < (nth q (Int.toNat at_)).2.2.2.2.2.1)) else (bif ((nth q (Int.toNat at_)).1 == (5 : Int)) then (!(Z7 n_ q ((nth q (Int.toNat at_)).2.1) f a_)) else (bif ((nth q (Int.toNat at_)).1 == (6 : Int)) then ((Z7 n_ q ((nth q (Int.toNat at_)).2.1) f a_) && (Z7 n_ q ((nth q (Int.toNat at_)).2.2.1) f a_)) else (bif ((nth q (Int.toNat at_)).1 == (7 : Int)) then ((Z7 n_ q ((nth q (Int.toNat at_)).2.1) f a_) || (Z7 n_ q ((nth q (Int.toNat at_)).2.2.1) f a_)) else (bif ((nth q (Int.toNat at_)).1 == (8 : Int)) then (specContainsID (specResultIDs a_ ((nth q (Int.toNat at_)).2.2.2.1)) f.1) else ((f.2.2.2.1 != (0 : Int)) && (specContainsID (specResultIDs a_ ((nth q (Int.toNat at_)).2.2.2.1)) f.2.2.2.1))))))))))
theorem specl14Node_a : ∀ (n_ : Nat) (q : (List Yi)) (at_ : Int) (f : Zr) (a_ : (List Qh)) (hv : Qn q = true) (ha : 0 ≤ at_) (hb : at_ < (q.length : Int)) (hn : at_ < ((n_ : Nat) : Int)), ACalls Tryz.prog 167 [.h q, .i at_, .a [.i f.1, .i f.2.1, .b f.2.2.1, .i f.2.2.2.1, .h f.2.2.2.2], .h a_] (.b (Z7 n_ q at_ f a_)) := by
 intro n_
 induction n_ with
 | zero => intro q at_ f a_ hv ha hb hn; exact (by omega : False).elim
 | succ n_ ih =>
  intro q at_ f a_ hv ha hb hn
  refine en Qa Tryz.func167 fun w0 F0 hG => ?_
  refine sn Qa [0, 1, 3, 6, 8] [6] (p0) ?_
  refine wT 0 0 .sh q (fun hw2 hl3 => ?_)
  have hx1 := ng q (Int.toNat at_)
  refine tn Qa [0, 3, 6, 8, 9] [6, 9] (pg 2 at_ hx1 p0) ?_
  refine tu Qa [(6, .p 6 0), (8, .b false), (9, .p 9 0), (10, .p 10 0)] [1, 2] [(6, [.i f.1, .i f.2.1, .b f.2.2.1, .i f.2.2.2.1, .h f.2.2.2.2]), (9, [.i ((nth q (Int.toNat at_)).1), .i ((nth q (Int.toNat at_)).2.1), .i ((nth q (Int.toNat at_)).2.2.1), .s ((nth q (Int.toNat at_)).2.2.2.1), .i ((nth q (Int.toNat at_)).2.2.2.2.1), .i ((nth q (Int.toNat at_)).2.2.2.2.2.1), .s ((nth q (Int.toNat at_)).2.2.2.2.2.2)]), (10, [.i ((Zq f ((nth q (Int.toNat at_)).2.2.2.1)).1), .i ((Zq f ((nth q (Int.toNat at_)).2.2.2.1)).2.1), .s ((Zq f ((nth q (Int.toNat at_)).2.2.2.1)).2.2)])] [] (pc 3 (specGetAttr_a f ((nth q (Int.toNat at_)).2.2.2.1)) p0) ?_
  refine Qb ?_
  refine sn Qa [0, 3, 6, 8, 9, 10, 20] [6, 9, 10] (p0) ?_
  refine Qs ?_
  refine tn Qa [0, 3, 6, 8, 9, 10, 20, 21] [6, 9, 10] (p0) ?_
  refine ck ((nth q (Int.toNat at_)).1 == (1 : Int)) (fun h4 => ?_) (fun h4 => ?_)
  ·
   refine tu Qa [(8, .b true)] [0, 8, 10] [] [10] (p0) ?_
   refine Qf ?_
   exact pb [] (Xw h4 (rfl))
  have h4d := Zk h4
  refine tu Qa [(20, .i ((nth q (Int.toNat at_)).1)), (23, .b ((nth q (Int.toNat at_)).1 == (2 : Int)))] [] [] [] (p0) ?_
  refine ck ((nth q (Int.toNat at_)).1 == (2 : Int)) (fun h5 => ?_) (fun h5 => ?_)
  ·
   refine sn Qa [3, 6, 8, 9] [6, 9] (p0) ?_
   refine Qf ?_
   exact pb [] (Qm h4 (Xw h5 (rfl)))
  have h5d := Zk h5
  refine sn Qa [0, 3, 6, 8, 9, 10, 20, 28] [6, 9, 10] (p0) ?_
  refine ck ((nth q (Int.toNat at_)).1 == (3 : Int)) (fun h6 => ?_) (fun h6 => ?_)
  ·
   refine tn Qa [3, 6, 8, 9] [6, 9] (p0) ?_
   refine Qf ?_
   exact pb [] (Qm h4 (Qm h5 (Xw h6 (rfl))))
  have h6d := Zk h6
  refine tn Qa [0, 3, 6, 8, 9, 10, 20, 34] [6, 9, 10] (p0) ?_
  refine ck ((nth q (Int.toNat at_)).1 == (4 : Int)) (fun h7 => ?_) (fun h7 => ?_)
  ·
   refine Qb ?_
   refine mz [(34, .b ((nth q (Int.toNat at_)).1 == (4 : Int)))] [23] [] [] ?_
   refine jn [(8, .b (((Zq f ((nth q (Int.toNat at_)).2.2.2.1)).1 == (1 : Int)) && decide ((Zq f ((nth q (Int.toNat at_)).2.2.2.1)).2.1 < (nth q (Int.toNat at_)).2.2.2.2.2.1)))] [0, 8, 10, 20, 34] [] [10] ((Zq f ((nth q (Int.toNat at_)).2.2.2.1)).1 == (1 : Int)) (fun h8 => ?_) (fun h8 => ?_) ?_
   ·
    refine rn Qa [3, 6, 8, 9] [6, 9] (pt 2 h8 p0) ?_
    exact ⟨rfl, Qd (by rw [h8] <;> kernel_rfl)⟩
   ·
    refine rn Qa [3, 6, 8, 9] [6, 9] (pf 2 h8 p0) ?_
    exact ⟨rfl, Qd (by rw [h8] <;> kernel_rfl)⟩
   refine Qf ?_
   exact pb [] (Qm h4 (Qm h5 (Qm h6 (Xw h7 (rfl)))))
  have h7d := Zk h7
  refine tu Qa [(47, .b ((nth q (Int.toNat at_)).1 == (5 : Int)))] [10, 23] [] [10] (p0) ?_
  refine ck ((nth q (Int.toNat at_)).1 == (5 : Int)) (fun h9 => ?_) (fun h9 => ?_)
  ·
   have h9d := eq_of_beq h9
   refine sn Qa [3, 6, 8, 9] [6, 9] (pc 5 (ih q ((nth q (Int.toNat at_)).2.1) f a_ hv (by have hz := ql_a hv ha hb h9; omega) (by have hz := ql_a hv ha hb h9; omega) (by have hz := ql_a hv ha hb h9; omega)) p0) ?_
   refine Qf ?_
   exact pb [] (Qm h4 (Qm h5 (Qm h6 (Qm h7 (Xw h9 (rfl))))))
  have h9d := Zk h9
  refine sn Qa [0, 3, 6, 8, 9, 20, 56] [6, 9] (p0) ?_
  refine ck ((nth q (Int.toNat at_)).1 == (6 : Int)) (fun h10 => ?_) (fun h10 => ?_)
  ·
   have h10d := eq_of_beq h10
   refine Qb ?_
   refine mz [(56, .b ((nth q (Int.toNat at_)).1 == (6 : Int)))] [47] [] [] ?_
   refine jn [(8, .b ((Z7 n_ q ((nth q (Int.toNat at_)).2.1) f a_) && (Z7 n_ q ((nth q (Int.toNat at_)).2.2.1) f a_)))] [0, 8, 20, 56] [] [] (Z7 n_ q ((nth q (Int.toNat at_)).2.1) f a_) (fun h11 => ?_) (fun h11 => ?_) ?_
   ·
    refine rn Qa [3, 6, 8, 9] [6, 9] (pc 5 (cb h11 (ih q ((nth q (Int.toNat at_)).2.1) f a_ hv (by have hz := ql_b hv ha hb h10; omega) (by have hz := ql_b hv ha hb h10; omega) (by have hz := ql_b hv ha hb h10; omega))) (pc 12 (ih q ((nth q (Int.toNat at_)).2.2.1) f a_ hv (by have hz := qr_b hv ha hb h10; omega) (by have hz := qr_b hv ha hb h10; omega) (by have hz := qr_b hv ha hb h10; omega)) p0)) ?_
    exact ⟨rfl, Qd (by rw [h11] <;> kernel_rfl)⟩
   ·
    refine rn Qa [3, 6, 8, 9] [6, 9] (pc 5 (cb h11 (ih q ((nth q (Int.toNat at_)).2.1) f a_ hv (by have hz := ql_b hv ha hb h10; omega) (by have hz := ql_b hv ha hb h10; omega) (by have hz := ql_b hv ha hb h10; omega))) p0) ?_
    exact ⟨rfl, Qd (by rw [h11] <;> kernel_rfl)⟩
   refine Qf ?_
   exact pb [] (Qm h4 (Qm h5 (Qm h6 (Qm h7 (Qm h9 (Xw h10 (rfl)))))))
  have h10d := Zk h10
  refine tn Qa [0, 3, 6, 8, 9, 20, 72] [6, 9] (p0) ?_
  refine ck ((nth q (Int.toNat at_)).1 == (7 : Int)) (fun h12 => ?_) (fun h12 => ?_)
  ·
   have h12d := eq_of_beq h12
   refine Qb ?_
   refine mz [(72, .b ((nth q (Int.toNat at_)).1 == (7 : Int)))] [47] [] [] ?_
   refine jn [(8, .b ((Z7 n_ q ((nth q (Int.toNat at_)).2.1) f a_) || (Z7 n_ q ((nth q (Int.toNat at_)).2.2.1) f a_)))] [0, 8, 20, 72] [] [] (Z7 n_ q ((nth q (Int.toNat at_)).2.1) f a_) (fun h13 => ?_) (fun h13 => ?_) ?_
   ·
    refine rn Qa [3, 6, 8, 9] [6, 9] (pc 5 (cb h13 (ih q ((nth q (Int.toNat at_)).2.1) f a_ hv (by have hz := ql_c hv ha hb h12; omega) (by have hz := ql_c hv ha hb h12; omega) (by have hz := ql_c hv ha hb h12; omega))) p0) ?_
    exact ⟨rfl, Qd (by rw [h13] <;> kernel_rfl)⟩
   ·
    refine rn Qa [3, 6, 8, 9] [6, 9] (pc 5 (cb h13 (ih q ((nth q (Int.toNat at_)).2.1) f a_ hv (by have hz := ql_c hv ha hb h12; omega) (by have hz := ql_c hv ha hb h12; omega) (by have hz := ql_c hv ha hb h12; omega))) (pc 12 (ih q ((nth q (Int.toNat at_)).2.2.1) f a_ hv (by have hz := qr_c hv ha hb h12; omega) (by have hz := qr_c hv ha hb h12; omega) (by have hz := qr_c hv ha hb h12; omega)) p0)) ?_
    exact ⟨rfl, Qd (by rw [h13] <;> kernel_rfl)⟩
   refine Qf ?_
   exact pb [] (Qm h4 (Qm h5 (Qm h6 (Qm h7 (Qm h9 (Qm h10 (Xw h12 (rfl))))))))
  refine tu Qa [(88, .b ((nth q (Int.toNat at_)).1 == (8 : Int)))] [0, 20, 47] [] [] (p0) ?_
  refine ck ((nth q (Int.toNat at_)).1 == (8 : Int)) (fun h14 => ?_) (fun h14 => ?_)
  ·
   refine sN Qa Y2 [3, 6, 8, 9] [6, 9] (pc 3 (specResultIDs_a a_ ((nth q (Int.toNat at_)).2.2.2.1)) (pc 6 (specContainsID_a (specResultIDs a_ ((nth q (Int.toNat at_)).2.2.2.1)) f.1) p0)) ?_
   refine Qf ?_
   exact pb [] (Qm h4 (Qm h5 (Qm h6 (Qm h7 (Qm h9 (Qm h10 (Qm h12 (Xw h14 (rfl)))))))))
  refine Qg ?_
  refine Qb ?_
  refine jn [(8, .b ((f.2.2.2.1 != (0 : Int)) && (specContainsID (specResultIDs a_ ((nth q (Int.toNat at_)).2.2.2.1)) f.2.2.2.1)))] [3, 6, 8, 9, 88] [] [6, 9] (f.2.2.2.1 != (0 : Int)) (fun h15 => ?_) (fun h15 => ?_) ?_
  ·
   refine rN Qa Y2 [8] [] (pt 2 h15 (pc 7 (specResultIDs_a a_ ((nth q (Int.toNat at_)).2.2.2.1)) (pc 10 (specContainsID_a (specResultIDs a_ ((nth q (Int.toNat at_)).2.2.2.1)) f.2.2.2.1) p0))) ?_
   exact ⟨rfl, Qd (by rw [h15] <;> kernel_rfl)⟩
  ·
   refine rN Qa Y2 [8] [] (pf 2 h15 p0) ?_
   exact ⟨rfl, Qd (by rw [h15] <;> kernel_rfl)⟩
  refine Qf ?_
  exact pb [] (Qm h4 (Qm h5 (Qm h6 (Qm h7 (Qm h9 (Qm h10 (Qm h12 (Qm h14 (rfl)))))))))
def specMatches (q : (List Yi)) (f : Zr) (a_ : (List Qh)) : Bool := ((X9 q) && (Z7 (List.length q) q ((q.length : Int) - 1) f a_))
theorem specMatches_a (q : (List Yi)) (f : Zr) (a_ : (List Qh)) : ACalls Tryz.prog 136 [.h q, .a [.i f.1, .i f.2.1, .b f.2.2.1, .i f.2.2.2.1, .h f.2.2.2.2], .h a_] (.b (specMatches q f a_)) := by
 refine en Qa Tryz.func136 fun w0 F0 hG => ?_
 refine sn Qa [0, 2, 4, 6] [4] (p0) ?_
 refine Qb ?_
 refine mz [(4, .p 4 0), (6, .b false)] [1] [(4, [.i f.1, .i f.2.1, .b f.2.2.1, .i f.2.2.2.1, .h f.2.2.2.2])] [] ?_
 refine jn [(6, .b ((X9 q) && (Z7 (List.length q) q ((q.length : Int) - 1) f a_)))] [0, 2, 4, 6] [] [4] (X9 q) (fun h1 => ?_) (fun h1 => ?_) ?_
 ·
  refine wT 0 0 .sh q (fun hw2 hl3 => ?_)
  refine rn Qa [6] [] (pc 1 (cb h1 (Kr q)) (pl 5 q (pe 6 (J7 (IntWalk.i64_in ((q.length : Int) - 1) (by omega))) (pc 9 (specl14Node_a (List.length q) q ((q.length : Int) - 1) f a_ (vq_spec h1) (by have := vq_len (vq_spec h1); omega) (by omega) (by omega)) p0)))) ?_
  exact ⟨rfl, Qd (by rw [h1] <;> kernel_rfl)⟩
 ·
  refine rn Qa [6] [] (pc 1 (cb h1 (Kr q)) p0) ?_
  exact ⟨rfl, Qd (by rw [h1] <;> kernel_rfl)⟩
 refine Qf ?_
 exact pb [] (show specMatches q f a_ = ((X9 q) && (Z7 (List.length q) q ((q.length : Int) - 1) f a_)) from rfl)
def specSelectFiles_f0 (q : (List Yi)) (a_ : (List Qh)) (_ : Nat) (a0 : Zr) (s0 : (List Int)) : Rd ((List Int)) ((List Int)) ((List Int)) := (bif (specMatches q a0 a_) then (.next (s0 ++ [a0.1])) else (.next s0))
def specSelectFiles_e0 (_ : Nat) (s0 : (List Int)) : (List Int) := s0
def Ys (s_ : Yv) (q : (List Yi)) (a_ : (List Qh)) : (List Int) := (Out.on (Xz (specSelectFiles_f0 q a_) specSelectFiles_e0 s_.2.1 0 []) (fun y0 => y0))
theorem specSelectFiles_a (s_ : Yv) (q : (List Yi)) (a_ : (List Qh)) : ACalls Tryz.prog 105 [.a [.h s_.1, .h s_.2.1, .i s_.2.2], .h q, .h a_] (.o 0 (Ys s_ q a_)) := by
 refine en Qa Tryz.func105 fun w0 F0 hG => ?_
 refine sn Qa [1, 2, 3, 6] [3] (p0) ?_
 refine tn Qa [1, 2, 3, 6, 7] [3] (p0) ?_
 refine Qb ?_
 refine tu Qa [(3, .p 3 0), (6, .e 0), (7, .one (.slc (.own true 576) 1 [])), (8, .i 0)] [0] [(3, [.h s_.1, .h s_.2.1, .i s_.2.2])] [] (p0) ?_
 refine wB 3 1 .sh s_.2.1 (fun hw1 hl2 => ?_)
 refine blL1b (specSelectFiles_f0 q a_) specSelectFiles_e0 s_.2.1 [] (fun k0 s0 => [(7, .o 147204 s0), (8, .i ((k0 : Nat) : Int))]) [7, 8] (fun _ _ => []) [] (fun y0 => [(7, .o 147354 y0)]) [1, 2, 3, 7, 8] (fun _ => []) [3] (fun k0 s0 => List.length s0 ≤ k0) (Yw [(576, 147204)] (by kernel_rfl)) (by simp) (fun k0 s0 hk0 hI0 => ?_) (fun k0 s0 hk0 hI0 => ?_) (fun y0 hD0 => ?_)
 ·
  have hA0_0 := hI0.2
  obtain ⟨a0, hx0⟩ := Xt (l := s_.2.1) (i := k0) hk0
  refine Qb ?_
  refine su Qa [(14, .b true)] [] [] [] (pl 3 s_.2.1 (pe 4 (Qk (decide_eq_true (p := ((k0 : Nat) : Int) < (s_.2.1.length : Int)) (by omega))) p0)) ?_
  refine ckT ?_
  refine Qg ?_
  refine Qb ?_
  refine Qs ?_
  refine sn Qa [1, 2, 3, 6, 7, 8, 24] [3] (pn 4 hx0 (pc 7 (specMatches_a q a0 a_) p0)) ?_
  refine ck (specMatches q a0 a_) (fun h3 => ?_) (fun h3 => ?_)
  ·
   refine wT 7 0 (.own true 147204) s0 (fun hw4 hl5 => ?_)
   refine qu Qa [(7, .one (.slc (.own true 2112) 1 ((eL s0) ++ [[.i a0.1]])))] [7, 14] [] [] (pn 4 hx0 (pa s0 [a0.1] p0)) ?_
   refine eqn [(7, .o 2112 (s0 ++ [a0.1]))] [7] [] [] (by rw [show ((eL s0) ++ [[.i a0.1]]) = (eL (s0 ++ [a0.1])) from app_eL (rfl) (rfl)]; first | done | kernel_rfl) ?_
   refine rn Qa [1, 2, 3, 6, 7, 8] [3] (pe 1 (J7 (Qp k0 (by omega))) p0) ?_
   exact Exists.intro (s0 ++ [a0.1]) (And.intro (Yw [(2112, 147204)] (by kernel_rfl)) ⟨Qu hx0 (Xw h3 (rfl)) hI0.1, by first | omega | (simp; omega) | simp⟩)
  refine Qg ?_
  refine qn Qa [1, 2, 3, 6, 7, 8] [3] (pe 1 (J7 (Qp k0 (by omega))) p0) ?_
  exact xw s0 ⟨Qu hx0 (Qm h3 (rfl)) hI0.1, by first | omega | (simp; omega) | simp⟩
 ·
  have hA0_0 := hI0.2
  refine Qb ?_
  refine su Qa [(14, .b false)] [] [] [] (pl 3 s_.2.1 (pe 4 (Qk (decide_eq_false (p := ((k0 : Nat) : Int) < (s_.2.1.length : Int)) (by omega))) p0)) ?_
  refine ckF ?_
  refine Q7 ?_
  exact Exists.intro _ (And.intro (Yw [(147204, 147354)] (by kernel_rfl)) (Xx hk0 (rfl) hI0.1))
 refine sn Qa [6] [] (p0) ?_
 refine Qf ?_
 exact po0 [] (on_b hD0 (rfl))
theorem cid_eq (l : List Int) (x : Int) : Kj l x = specContainsID l x := by
  unfold Kj Ku slicesIndex_int specContainsID
  have key : ∀ (l : List Int) (k : Nat), decide (((Xz (Zy x) Kt l k ()).on fun _ => -1) ≥ 0) = ((Xz (Ve x) specContainsID_e0 l k ()).on fun _ => false) := by
    intro l
    induction l with
    | nil => intro k; rfl
    | cons a l ih =>
      intro k
      by_cases h : x = a
      · subst h; simp [Xz, Zy, Ve, Out.on]
      have e1 : (x == a) = false := beq_eq_false_iff_ne.2 h
      have e2 : (a == x) = false := beq_eq_false_iff_ne.2 (Ne.symm h)
      simp only [Xz, Zy, Ve, e1, e2, cond_false]
      exact ih (k + 1)
  exact key l 0
theorem rids_eq (r : List Qh) (s : ByteArray) : Ye r s = specResultIDs r s := rfl
theorem attr_eq (f : Zr) (s : ByteArray) : Zj f s = Zq f s := rfl
theorem vn_op {n : Yi} {k : Int} (h : Yr n k = true) : n.1 = 1 ∨ n.1 = 2 ∨ n.1 = 3 ∨ n.1 = 4 ∨ n.1 = 5 ∨ n.1 = 6 ∨ n.1 = 7 ∨ n.1 = 8 ∨ n.1 = 9 := by
  refine Classical.byContradiction fun hn => ?_
  simp only [not_or] at hn
  obtain ⟨h1, h2, h3, h4, h5, h6, h7, h8, h9⟩ := hn
  unfold Yr at h
  simp only [beq_eq_false_iff_ne.2 h1, beq_eq_false_iff_ne.2 h2, beq_eq_false_iff_ne.2 h3, beq_eq_false_iff_ne.2 h4, beq_eq_false_iff_ne.2 h5, beq_eq_false_iff_ne.2 h6, beq_eq_false_iff_ne.2 h7, beq_eq_false_iff_ne.2 h8, beq_eq_false_iff_ne.2 h9, cond_false] at h
  cases h
theorem match_eq {q : List Yi} (hv : Qn q = true) (f : Zr) (r : List Qh) : ∀ (n : Nat) (k : Int), 0 ≤ k → k < (q.length : Int) → Xy n q k f r = Z7 n q k f r
  | 0, _, _, _ => rfl
  | n + 1, k, h0, h1 => by
    have hn := vq_node hv (nth_get (l := q) (i := Int.toNat k) (by omega))
    rw [Int.toNat_of_nonneg h0] at hn
    obtain ⟨hl, hr⟩ := vq_kids hv h0 h1
    unfold Xy Z7
    have ih := match_eq hv f r n
    unfold Ky
    simp only [attr_eq, rids_eq, cid_eq]
    generalize nth q (Int.toNat k) = m at hn hl hr ⊢
    rcases vn_op hn with h | h | h | h | h | h | h | h | h
    · simp [h]
    · simp [h]
    · simp [h]
    · rw [h]
      cases hz : ((Zq f m.2.2.2.1).1 == (1 : Int)) with
      | true => simp [bne, hz]
      | false => simp [bne, hz]
    · simp [h, ih _ (hl (by simp [h])).1 (by have := (hl (by simp [h])).2; omega)]
    · simp [h, ih _ (hl (by simp [h])).1 (by have := (hl (by simp [h])).2; omega), ih _ (hr (by simp [h])).1 (by have := (hr (by simp [h])).2; omega)]
    · simp [h, ih _ (hl (by simp [h])).1 (by have := (hl (by simp [h])).2; omega), ih _ (hr (by simp [h])).1 (by have := (hr (by simp [h])).2; omega)]
    · simp [h]
    simp [h]
theorem matches_eq (q : List Yi) (f : Zr) (r : List Qh) : Kz q f r = specMatches q f r := by
  unfold Kz specMatches
  rw [← vq_eq]
  cases hv : Qn q with
  | false => rfl
  | true => rw [match_eq hv f r _ _ (by have := vq_len hv; omega) (by omega)]
theorem select_eq (s : Yv) (q : List Yi) (r : List Qh) : X6 s q r = Ys s q r := by
  unfold X6 Ys
  rw [forL_ext (f := V7 q r) (g := specSelectFiles_f0 q r) (e := implSelectFiles_e0) (e' := specSelectFiles_e0) (fun i a s => by
    unfold V7 specSelectFiles_f0
    rw [matches_eq]) (fun _ _ => rfl)]
end
section
section
variable {φ : Type} (fs : List φ) (idOf : φ → Int)
def sel (p : φ → Bool) : List Int := (fs.filter p).map idOf
theorem filter_grow {p q : φ → Bool} : ∀ (l : List φ), (∀ f, f ∈ l → p f = true → q f = true) → (l.filter p).length ≤ (l.filter q).length ∧ ((l.filter q).length ≤ (l.filter p).length → l.filter p = l.filter q)
  | [], _ => ⟨Nat.le_refl _, fun _ => rfl⟩
  | f :: l, h => by
    obtain ⟨h1, h2⟩ := filter_grow l fun g hg => h g (List.mem_cons_of_mem _ hg)
    have h0 := h f (List.mem_cons_self ..)
    cases hp : p f with
    | true =>
      have hq := h0 hp
      simp only [List.filter_cons, hp, hq, if_true, List.length_cons]
      exact ⟨by omega, fun hl => by rw [h2 (by omega)]⟩
    | false =>
      cases hq : q f with
      | true =>
        simp only [List.filter_cons, hp, hq, if_true, List.length_cons, Bool.false_eq_true, if_false]
        exact ⟨by omega, fun hl => absurd hl (by omega)⟩
      | false =>
        simp only [List.filter_cons, hp, hq, Bool.false_eq_true, if_false]
        exact ⟨h1, h2⟩
theorem sel_len (p : φ → Bool) : (sel fs idOf p).length ≤ fs.length := by
  unfold sel; rw [List.length_map]; exact List.length_filter_le _ _
variable {fs idOf}
theorem sel_grow {p q : φ → Bool} (h : ∀ f, f ∈ fs → p f = true → q f = true) (hn : sel fs idOf p ≠ sel fs idOf q) : (sel fs idOf p).length + 1 ≤ (sel fs idOf q).length := by
  obtain ⟨h1, h2⟩ := filter_grow fs h
  unfold sel at hn ⊢
  rw [List.length_map, List.length_map]
  refine Nat.lt_of_le_of_ne h1 fun e => hn ?_
  rw [h2 (by omega)]
theorem sel_sub {p q : φ → Bool} (h : ∀ f, f ∈ fs → p f = true → q f = true) {x : Int} (hx : x ∈ sel fs idOf p) : x ∈ sel fs idOf q := by
  unfold sel at hx ⊢
  obtain ⟨f, hf, rfl⟩ := List.mem_map.1 hx
  obtain ⟨h1, h2⟩ := List.mem_filter.1 hf
  exact List.mem_map.2 ⟨f, List.mem_filter.2 ⟨h1, h f h1 h2⟩, rfl⟩
end
abbrev CD := ByteArray × List Int
def putC (out : List CD) (k : Nat) (ids : List Int) : List CD := out.set k ((nth out k).1, ids)
theorem nth_setC {out : List CD} {k : Nat} (x : CD) (hk : k < out.length) (j : Nat) : nth (out.set k x) j = if j = k then x else nth out j := by
  unfold nth
  simp only [List.getD_eq_getElem?_getD, List.getElem?_set]
  by_cases h : k = j
  · subst h; simp [hk]
  simp [h, Ne.symm h]
theorem putC_names {out : List CD} {k : Nat} (ids : List Int) (hk : k < out.length) : (putC out k ids).map (·.1) = out.map (·.1) := by
  unfold putC
  rw [List.map_set]
  refine List.ext_getElem (by simp) fun i h1 h2 => ?_
  rw [List.getElem_set]
  split
  · rename_i h; subst h; simp [nth, List.getD, hk]
  rfl
def room (B : Nat) (act : Nat → Bool) : Nat → List CD → Nat
  | _, [] => 0
  | k, r :: l => (bif act k then B - r.2.length else 0) + room B act (k + 1) l
theorem room_le (B : Nat) (act : Nat → Bool) : ∀ (l : List CD) (k : Nat), room B act k l ≤ l.length * B
  | [], k => by simp [room]
  | r :: l, k => by
    have := room_le B act l (k + 1)
    simp only [room, List.length_cons, Nat.add_mul, Nat.one_mul]
    cases act k with
    | true => simp only [cond_true]; omega
    | false => simp only [cond_false]; omega
theorem room_set (B : Nat) (act : Nat → Bool) (x : CD) : ∀ (l : List CD) (k i : Nat), i < l.length → act (k + i) = true → (nth l i).2.length + 1 ≤ x.2.length → x.2.length ≤ B → room B act k (l.set i x) + 1 ≤ room B act k l
  | [], k, i, hi, _, _, _ => by simp at hi
  | r :: l, k, 0, _, ha, h1, h2 => by
    have e : nth (r :: l) 0 = r := rfl
    rw [e] at h1
    rw [Nat.add_zero] at ha
    simp only [List.set, room, ha, cond_true]
    omega
  | r :: l, k, i + 1, hi, ha, h1, h2 => by
    have := room_set B act x l (k + 1) i (by simpa using hi) (by rwa [show k + 1 + i = k + (i + 1) by omega]) h1 h2
    simp only [List.set, room]
    omega
section
variable {φ : Type} {fs : List φ} {idOf : φ → Int} (m : Nat → List CD → φ → Bool) (act : Nat → Bool)
def LeC (a b : List CD) : Prop := ∀ j, (∀ x, x ∈ (nth a j).2 → x ∈ (nth b j).2) ∧ (act j = false → (nth a j).2 = (nth b j).2)
variable (fs idOf)
def GoodC (out : List CD) : Prop := ∀ k, k < out.length → act k = true → ∃ p : φ → Bool, (nth out k).2 = sel fs idOf p ∧ ∀ f, f ∈ fs → p f = true → m k out f = true
def MonoC (nm : List ByteArray) : Prop := ∀ a b : List CD, a.map (·.1) = nm → b.map (·.1) = nm → LeC act a b → ∀ k, k < nm.length → act k = true → ∀ f, f ∈ fs → m k a f = true → m k b f = true
def stepC (s : List CD × Bool) (k : Nat) : List CD × Bool := bif act k then (if sel fs idOf (m k s.1) = (nth s.1 k).2 then s else (putC s.1 k (sel fs idOf (m k s.1)), true)) else s
def passC (ks : List Nat) (s : List CD × Bool) : List CD × Bool := ks.foldl (stepC fs idOf m act) s
variable {fs idOf m act} {nm : List ByteArray}
structure StateC (fs : List φ) (idOf : φ → Int) (m : Nat → List CD → φ → Bool) (act : Nat → Bool) (nm : List ByteArray) (o out : List CD) : Prop where
  names : out.map (·.1) = nm
  good : GoodC fs idOf m act out
  rest : ∀ j, act j = false → nth out j = nth o j
theorem stepC_ok (hm : MonoC fs m act nm) {o : List CD} {s : List CD × Bool} (h : StateC fs idOf m act nm o s.1) {k : Nat} (hk : k < nm.length) :
    StateC fs idOf m act nm o (stepC fs idOf m act s k).1 ∧ room fs.length act 0 (stepC fs idOf m act s k).1 ≤ room fs.length act 0 s.1 ∧ ((stepC fs idOf m act s k).2 = true → s.2 = true ∨ room fs.length act 0 (stepC fs idOf m act s k).1 + 1 ≤ room fs.length act 0 s.1) := by
  unfold stepC
  cases ha : act k with
  | false => exact ⟨h, Nat.le_refl _, .inl⟩
  | true =>
    simp only [cond_true]
    split
    · exact ⟨h, Nat.le_refl _, .inl⟩
    rename_i hne
    have hlen : nm.length = s.1.length := by rw [← h.names, List.length_map]
    have hk' : k < s.1.length := by omega
    obtain ⟨p, hp1, hp2⟩ := h.good k hk' ha
    rw [hp1] at hne
    have hgrow := sel_grow (idOf := idOf) hp2 (Ne.symm hne)
    have hnames : (putC s.1 k (sel fs idOf (m k s.1))).map (·.1) = nm := by rw [putC_names _ hk', h.names]
    have hle : LeC act s.1 (putC s.1 k (sel fs idOf (m k s.1))) := fun j => by
      unfold putC
      rw [nth_setC _ hk']
      by_cases hj : j = k
      · subst hj
        rw [if_pos rfl]
        exact ⟨fun x hx => sel_sub hp2 (hp1 ▸ hx), fun hf => absurd ha (by simp [hf])⟩
      rw [if_neg hj]
      exact ⟨fun _ hx => hx, fun _ => rfl⟩
    have hmono := hm _ _ h.names hnames hle
    have hr : room fs.length act 0 (putC s.1 k (sel fs idOf (m k s.1))) + 1 ≤ room fs.length act 0 s.1 :=
      room_set _ _ _ _ 0 k hk' (by rw [Nat.zero_add]; exact ha) (by rw [hp1]; exact hgrow) (sel_len _ _ _)
    refine ⟨⟨hnames, fun j hj hja => ?_, fun j hj => ?_⟩, Nat.le_of_succ_le hr, fun _ => .inr hr⟩
    · have hj' : j < s.1.length := by unfold putC at hj; rwa [List.length_set] at hj
      by_cases e : j = k
      · subst e
        refine ⟨m j s.1, ?_, fun f hf hmf => hmono j (by omega) hja f hf hmf⟩
        unfold putC; rw [nth_setC _ hk', if_pos rfl]
      obtain ⟨p', h1, h2⟩ := h.good j hj' hja
      refine ⟨p', ?_, fun f hf hpf => hmono j (by omega) hja f hf (h2 f hf hpf)⟩
      unfold putC; rw [nth_setC _ hk', if_neg e]; exact h1
    have e : j ≠ k := fun e => absurd ha (by simp [← e, hj])
    unfold putC; rw [nth_setC _ hk', if_neg e]; exact h.rest j hj
theorem passC_ok (hm : MonoC fs m act nm) {o : List CD} : ∀ (ks : List Nat) (s : List CD × Bool), (∀ k, k ∈ ks → k < nm.length) → StateC fs idOf m act nm o s.1 →
    StateC fs idOf m act nm o (passC fs idOf m act ks s).1 ∧ room fs.length act 0 (passC fs idOf m act ks s).1 ≤ room fs.length act 0 s.1 ∧ ((passC fs idOf m act ks s).2 = true → s.2 = true ∨ room fs.length act 0 (passC fs idOf m act ks s).1 + 1 ≤ room fs.length act 0 s.1)
  | [], s, _, h => ⟨h, Nat.le_refl _, .inl⟩
  | k :: ks, s, hks, h => by
    obtain ⟨h1, h2, h3⟩ := stepC_ok hm h (hks k (List.mem_cons_self ..))
    obtain ⟨g1, g2, g3⟩ := passC_ok hm ks _ (fun j hj => hks j (List.mem_cons_of_mem _ hj)) h1
    refine ⟨g1, Nat.le_trans g2 h2, fun hc => ?_⟩
    rcases g3 hc with hc | hc
    · rcases h3 hc with hc | hc
      · exact .inl hc
      exact .inr (Nat.le_trans (Nat.add_le_add_right g2 1) hc)
    exact .inr (Nat.le_trans hc h2)
theorem whlC {R S T : Type} {F : S → Rd R S T} {out : S → List CD} {ch : S → Bool} {n : Nat} (hn : n = nm.length)
    (hF : ∀ s, ch s = true → ∃ s', F s = .next s' ∧ (out s', ch s') = passC fs idOf m act (List.range n) (out s, false))
    (hE : ∀ s, ch s = false → ∃ t, F s = .brk t)
    (hm : MonoC fs m act nm) {o : List CD} : ∀ (k : Nat) (s : S), StateC fs idOf m act nm o (out s) → room fs.length act 0 (out s) + (bif ch s then 2 else 1) ≤ k →
    ∃ s', StateC fs idOf m act nm o (out s') ∧ ch s' = false ∧ ∃ t, F s' = .brk t ∧ whl F k s = some (.brk t)
  | 0, s, _, hk => by cases hc : ch s <;> simp [hc] at hk
  | k + 1, s, h, hk => by
    cases hc : ch s with
    | false =>
      obtain ⟨t, ht⟩ := hE s hc
      exact ⟨s, h, hc, t, ht, by simp only [whl, ht]⟩
    | true =>
      rw [hc] at hk
      simp only [cond_true] at hk
      obtain ⟨s', h1, h2⟩ := hF s hc
      obtain ⟨g1, g2, g3⟩ := passC_ok hm (o := o) (List.range n) (out s, false) (fun j hj => by rw [← hn]; exact List.mem_range.1 hj) h
      rw [← h2] at g1 g2 g3
      simp only [whl, h1]
      refine whlC hn hF hE hm k s' g1 ?_
      simp only [Bool.false_eq_true, false_or] at g3
      cases hc' : ch s' with
      | false => simp only [cond_false]; have : room fs.length act 0 (out s') ≤ room fs.length act 0 (out s) := g2; omega
      | true => simp only [cond_true]; have : room fs.length act 0 (out s') + 1 ≤ room fs.length act 0 (out s) := g3 hc'; omega
end
/-! ### a slice that is nil, handed on -/
open Go.RowKit in
def ArgLe (a b : AV) : Prop := ∀ (J : Inj) (w : World) (v : Value), AR J w v a → AR J w v b
theorem ArgLe.rfl (a : AV) : ArgLe a a := fun _ _ _ h => h
theorem ArgLe.nil (n : Nat) : ArgLe (.one (.slc .sh 0 [])) (.one (.slc .sh n [])) := fun J w v h => by
  have h' : VV J.F w v (.slc 0 []) := h
  show VV J.F w v (.slc n [])
  generalize hp : PV.slc 0 ([] : List (List PV)) = p at h'
  cases h' with
  | int | bool | str | any | raw => cases hp
  | emp oa m hc => exact .emp oa n hc
  | @slc b off cap m cs l hx hcells hr hle hcap =>
    cases hp
    exact .emp _ n hcap.1
theorem acalls_args {P : Program} {f : Nat} {r : AV} {args args' : List AV} (h : All2 ArgLe args args') (c : ACalls P f args' r) : ACalls P f args r := ⟨c.1, fun w hg F vals hF hall => c.2 w hg F vals hF (by
  clear c
  induction h generalizing vals with
  | nil => exact hall
  | cons h1 h2 ih =>
    cases hall with
    | cons g1 g2 => exact .cons (h1 _ _ _ g1) (ih _ g2))⟩
/-! ### a flat row of ours, handed back -/
end
section
open Go.RowKit
/-! ### each node but the last is named once -/
def isRef (n : Yi) (c : Int) : Bool := ((n.2.1 == c) && (n.1 == 6 || n.1 == 7 || n.1 == 5)) || ((n.2.2.1 == c) && (n.1 == 6 || n.1 == 7))
theorem refs_step (c : Int) (k : Nat) (a : Yi) (s : Int) (h0 : 0 ≤ s) (h1 : s ≤ 1000) : ∃ s', Zx c k a s = .next s' ∧ s + (bif isRef a c then 1 else 0) ≤ s' ∧ s' ≤ s + 2 := by
  have w1 : IntKind.i64.wrap (s + 1) = s + 1 := IntWalk.i64_in _ (by omega)
  have w2 : IntKind.i64.wrap (s + 1 + 1) = s + 1 + 1 := IntWalk.i64_in _ (by omega)
  unfold Zx isRef
  rw [w1, w2]
  cases (a.2.1 == c) <;> cases (a.2.2.1 == c) <;> cases (a.1 == 6) <;> cases (a.1 == 7) <;> cases (a.1 == 5) <;> exact ⟨_, rfl, by first | (simp; done) | (simp; omega) | omega, by omega⟩
theorem refs_loop (c : Int) : ∀ (l : List Yi) (k : Nat) (s : Int), 0 ≤ s → s + 2 * l.length ≤ 1000 → ∃ s', Xz (Zx c) Vq l k s = .brk s' ∧ s + (l.filter fun n => isRef n c).length ≤ s'
  | [], k, s, _, _ => ⟨s, rfl, by simp⟩
  | a :: l, k, s, h0, h1 => by
    rw [List.length_cons] at h1
    obtain ⟨s1, e1, g1, g2⟩ := refs_step c k a s h0 (by omega)
    have hp : 0 ≤ s1 := by cases hb : isRef a c <;> (rw [hb] at g1; simp at g1; omega)
    obtain ⟨s2, e2, g3⟩ := refs_loop c l (k + 1) s1 hp (by omega)
    refine ⟨s2, by simp only [Xz, e1]; exact e2, ?_⟩
    rw [List.filter_cons]
    cases hb : isRef a c with
    | true => rw [hb] at g1; simp only [cond_true] at g1; simp only [if_true, List.length_cons]; omega
    | false => rw [hb] at g1; simp only [cond_false] at g1; simp only [Bool.false_eq_true, if_false]; omega
theorem two_of {α : Type} {p : α → Bool} {l : List α} {i j : Nat} {a b : α} (hij : i < j) (hi : l[i]? = some a) (hj : l[j]? = some b) (ha : p a = true) (hb : p b = true) : 2 ≤ (l.filter p).length := by
  have e : l = l.take j ++ l.drop j := (List.take_append_drop j l).symm
  rw [e, List.filter_append, List.length_append]
  have h1 : 1 ≤ ((l.take j).filter p).length := List.length_pos_of_mem (a := a) (List.mem_filter.2 ⟨List.mem_of_getElem? (i := i) (by rw [List.getElem?_take, if_pos hij]; exact hi), ha⟩)
  have h2 : 1 ≤ ((l.drop j).filter p).length := List.length_pos_of_mem (a := b) (List.mem_filter.2 ⟨List.mem_of_getElem? (i := 0) (by rw [List.getElem?_drop]; exact hj), hb⟩)
  omega
theorem vq_refs {q : List Yi} (h : Qn q = true) {i : Nat} (hi : i + 1 < q.length) : Zp q (i : Int) = 1 := by
  obtain ⟨⟨t, ht⟩, _⟩ := vq_run h
  have := forL_all (fun k a t => by unfold Yk; generalize (_ || _ : Bool) = c; cases c <;> simp) ht i (nth q i) (nth_get (by omega))
  unfold Yk at this
  rw [Nat.zero_add] at this
  have hd : decide (((i : Nat) : Int) < ((q.length : Int) - 1)) = true := decide_eq_true (by omega)
  rw [hd, Bool.true_and] at this
  cases hn : (Zp q ((i : Nat) : Int) != (1 : Int)) with
  | false => exact eq_of_bne hn
  | true => rw [hn, Bool.or_true] at this; simp at this
theorem ref_once {q : List Yi} (h : Qn q = true) {c i j : Nat} (hc : c + 1 < q.length) (hij : i < j) (hj : j < q.length) (h1 : isRef (nth q i) (c : Int) = true) (h2 : isRef (nth q j) (c : Int) = true) : False := by
  have hr := vq_refs h hc
  have hl := (vq_len h).2
  obtain ⟨s, e, g⟩ := refs_loop (c : Int) q 0 0 (by omega) (by omega)
  unfold Zp at hr
  rw [e] at hr
  have := two_of (p := fun n => isRef n (c : Int)) hij (nth_get (by omega)) (nth_get hj) h1 h2
  simp only [Out.on] at hr
  omega
theorem ref_lt {q : List Yi} (h : Qn q = true) {c i : Nat} (hi : i < q.length) (hr : isRef (nth q i) (c : Int) = true) : c < i := by
  obtain ⟨h1, h2⟩ := vq_kids h (k := (i : Int)) (by omega) (by omega)
  rw [Int.toNat_natCast] at h1 h2
  unfold isRef at hr
  simp only [Bool.or_eq_true, Bool.and_eq_true, beq_iff_eq] at hr
  rcases hr with ⟨e, hop⟩ | ⟨e, hop⟩
  · have := h1 (by omega); omega
  have := h2 (by omega); omega
/-! ### below a negation -/
theorem nth_setB {L : List Bool} {i : Nat} (x : Bool) (hi : i < L.length) (j : Nat) : nth (L.set i x) j = if j = i then x else nth L j := by
  unfold nth
  simp only [List.getD_eq_getElem?_getD, List.getElem?_set]
  by_cases h : i = j
  · subst h; simp [hi]
  simp [h, Ne.symm h]
theorem neg_step {q : List Yi} (h : Qn q = true) {k : Nat} (hk : k < q.length) (s : List Bool) (hs : s.length = q.length) : ∃ s', Yn q k s = .next s' ∧ s'.length = q.length ∧
    (∀ j : Nat, isRef (nth q (q.length - 1 - k)) (j : Int) = false → nth s' j = nth s j) ∧
    (∀ j : Nat, isRef (nth q (q.length - 1 - k)) (j : Int) = true → nth s' j = (nth s (q.length - 1 - k) || ((nth q (q.length - 1 - k)).1 == 5))) := by
  have hdn : Int.toNat (dn ((q.length : Int) - 1) k) = q.length - 1 - k := by rw [dn_eq]; omega
  obtain ⟨hl, hr⟩ := vq_kids h (k := ((q.length - 1 - k : Nat) : Int)) (by omega) (by omega)
  rw [Int.toNat_natCast] at hl hr
  have hlt : q.length - 1 - k < s.length := by omega
  unfold Yn
  rw [hdn]
  generalize q.length - 1 - k = i at hl hr hlt ⊢
  generalize nth q i = n at hl hr ⊢
  generalize (nth s i || (n.1 == 5)) = b
  have both : ∀ (e5 : (n.1 == (5 : Int)) = false), (n.1 = 6 ∨ n.1 = 7) → (List.set (List.set s (Int.toNat n.2.1) b) (Int.toNat n.2.2.1) b).length = q.length ∧ (∀ j : Nat, isRef n (j : Int) = false → nth (List.set (List.set s (Int.toNat n.2.1) b) (Int.toNat n.2.2.1) b) j = nth s j) ∧ (∀ j : Nat, isRef n (j : Int) = true → nth (List.set (List.set s (Int.toNat n.2.1) b) (Int.toNat n.2.2.1) b) j = b) := fun e5 h67 => by
    obtain ⟨g1, g2⟩ := hl (.inr h67)
    obtain ⟨g3, g4⟩ := hr h67
    have hop : (n.1 == 6 || n.1 == 7) = true := by rcases h67 with e | e <;> simp [e]
    have hlen : (List.set s (Int.toNat n.2.1) b).length = s.length := List.length_set ..
    refine ⟨by rw [List.length_set, hlen, hs], fun j hj => ?_, fun j hj => ?_⟩
    · simp only [isRef, hop, Bool.true_or, Bool.and_true, Bool.or_eq_false_iff, beq_eq_false_iff_ne, ne_eq] at hj
      rw [nth_set_ne _ (by omega), nth_set_ne _ (by omega)]
    simp only [isRef, hop, Bool.true_or, Bool.and_true, Bool.or_eq_true, beq_iff_eq] at hj
    rw [nth_setB _ (by omega), nth_setB _ (by omega)]
    split
    · rfl
    rw [if_pos (by omega)]
  by_cases h5 : n.1 = 5
  · obtain ⟨g1, g2⟩ := hl (.inl h5)
    simp only [h5, beq_self_eq_true, cond_true]
    refine ⟨_, rfl, by rw [List.length_set, hs], fun j hj => ?_, fun j hj => ?_⟩
    · have : n.2.1 ≠ (j : Int) := by simpa [isRef, h5] using hj
      exact nth_set_ne _ (by omega)
    have : n.2.1 = (j : Int) := by simpa [isRef, h5] using hj
    rw [nth_setB _ (by omega), if_pos (by omega)]
  have e5 : (n.1 == (5 : Int)) = false := beq_eq_false_iff_ne.2 h5
  rw [e5, cond_false]
  by_cases h6 : n.1 = 6
  · simp only [h6, beq_self_eq_true, cond_true]
    exact ⟨_, rfl, both e5 (.inl h6)⟩
  by_cases h7 : n.1 = 7
  · simp only [h7, beq_self_eq_true, cond_true]
    exact ⟨_, rfl, both e5 (.inr h7)⟩
  have e6 : (n.1 == (6 : Int)) = false := beq_eq_false_iff_ne.2 h6
  have e7 : (n.1 == (7 : Int)) = false := beq_eq_false_iff_ne.2 h7
  rw [e6, e7, cond_false, cond_false]
  refine ⟨_, rfl, hs, fun _ _ => rfl, fun j hj => ?_⟩
  simp [isRef, e5, e6, e7] at hj
def NegOk (q : List Yi) (k : Nat) (s : List Bool) : Prop := s.length = q.length ∧ ∀ i, q.length ≤ i + k → i < q.length → ∀ c : Nat, isRef (nth q i) (c : Int) = true → nth s c = (nth s i || ((nth q i).1 == 5))
theorem neg_next {q : List Yi} (h : Qn q = true) {k : Nat} (hk : k < q.length) {s : List Bool} (hs : NegOk q k s) : ∃ s', Yn q k s = .next s' ∧ NegOk q (k + 1) s' := by
  obtain ⟨s', h1, h2, h3, h4⟩ := neg_step h hk s hs.1
  have hself : nth s' (q.length - 1 - k) = nth s (q.length - 1 - k) := h3 _ (by
    cases hr : isRef (nth q (q.length - 1 - k)) ((q.length - 1 - k : Nat) : Int) with
    | false => rfl
    | true => have := ref_lt h (by omega) hr; omega)
  refine ⟨s', h1, h2, fun i hi1 hi2 c hc => ?_⟩
  by_cases e : i = q.length - 1 - k
  · subst e
    rw [h4 c hc, hself]
  have hci := ref_lt h hi2 hc
  have n1 : isRef (nth q (q.length - 1 - k)) (c : Int) = false := by
    cases hr : isRef (nth q (q.length - 1 - k)) (c : Int) with
    | false => rfl
    | true => exact (ref_once h (c := c) (i := q.length - 1 - k) (j := i) (by omega) (by omega) hi2 hr hc).elim
  have n2 : isRef (nth q (q.length - 1 - k)) (i : Int) = false := by
    cases hr : isRef (nth q (q.length - 1 - k)) (i : Int) with
    | false => rfl
    | true => have := ref_lt h (by omega) hr; omega
  rw [h3 c n1, h3 i n2]
  exact hs.2 i (by omega) hi2 c hc
theorem neg_loop {q : List Yi} (h : Qn q = true) : ∀ (n k : Nat) (s : List Bool), k + n = q.length → NegOk q k s → ∃ s', Vs (Yn q) Vj n k s = .brk s' ∧ NegOk q q.length s'
  | 0, k, s, hk, hs => ⟨s, rfl, by rw [show k = q.length by omega] at hs; exact hs⟩
  | n + 1, k, s, hk, hs => by
    obtain ⟨s1, h1, h2⟩ := neg_next h (by omega) hs
    obtain ⟨s2, h3, h4⟩ := neg_loop h n (k + 1) s1 (by omega) h2
    exact ⟨s2, by simp only [Vs, h1]; exact h3, h4⟩
theorem neg_kids {q : List Yi} (h : Qn q = true) : NegOk q q.length (Xd q) := by
  unfold Xd
  obtain ⟨s, h1, h2⟩ := neg_loop h (List.length q) 0 (List.replicate (Int.toNat (q.length : Int)) false) (by omega) ⟨by simp, fun i h1 h2 => by omega⟩
  rw [h]
  simp only [Bool.not_true, cond_false, h1, Out.on]
  exact h2
theorem neg_name {q : List Yi} {i : Nat} (hi : i < (Xd q).length) (hn : nth (Xd q) i = true) (hd : Z5 (nth q i) = true) : (nth q i).2.2.2.1 ∈ Xe q := by
  have key : ∀ (l : List Bool) (k : Nat) (s : List ByteArray), ∃ t, Xz (J3 q true) Vt l k s = .brk t ∧ (∀ x, x ∈ s → x ∈ t) ∧ ∀ j, l[j]? = some true → Z5 (nth q (k + j)) = true → (nth q (k + j)).2.2.2.1 ∈ t := by
    intro l
    induction l with
    | nil => intro k s; exact ⟨s, rfl, fun _ h => h, fun j h => by simp at h⟩
    | cons a l ih =>
      intro k s
      simp only [Xz, J3]
      cases hc : (Z5 (nth q k) && (a == true)) with
      | true =>
        obtain ⟨t, h1, h2, h3⟩ := ih (k + 1) (s ++ [(nth q k).2.2.2.1])
        refine ⟨t, h1, fun x hx => h2 x (List.mem_append_left _ hx), fun j hj hnm => ?_⟩
        cases j with
        | zero => exact h2 _ (List.mem_append_right _ (by simp))
        | succ j =>
          have := h3 j (by simpa using hj) (by rwa [show k + 1 + j = k + (j + 1) by omega])
          rwa [show k + 1 + j = k + (j + 1) by omega] at this
      | false =>
        obtain ⟨t, h1, h2, h3⟩ := ih (k + 1) s
        refine ⟨t, h1, h2, fun j hj hnm => ?_⟩
        cases j with
        | zero =>
          obtain rfl : a = true := by simpa using hj
          rw [Nat.add_zero] at hnm
          rw [hnm] at hc; cases hc
        | succ j =>
          have := h3 j (by simpa using hj) (by rwa [show k + 1 + j = k + (j + 1) by omega])
          rwa [show k + 1 + j = k + (j + 1) by omega] at this
  unfold Xe Kh
  obtain ⟨t, h1, _, h3⟩ := key (Xd q) 0 []
  rw [h1]
  simp only [Out.on]
  have := h3 i (by rw [nth_get hi, hn]) (by rwa [Nat.zero_add])
  rw [Nat.zero_add] at this
  exact ((once_spec t).2 _).2 this
/-! ### what a node says -/
theorem cid_iff (l : List Int) (x : Int) : Kj l x = true ↔ x ∈ l := by
  unfold Kj Ku slicesIndex_int
  have key : ∀ (l : List Int) (k : Nat), decide (((Xz (Zy x) Kt l k ()).on fun _ => -1) ≥ 0) = true ↔ x ∈ l := by
    intro l
    induction l with
    | nil => intro k; simp [Xz, Out.on, Kt]
    | cons a l ih =>
      intro k
      by_cases h : x = a
      · subst h; simp [Xz, Zy, Out.on]
      have e1 : (x == a) = false := beq_eq_false_iff_ne.2 h
      simp only [Xz, Zy, e1, cond_false]
      rw [ih (k + 1)]
      simp [h]
  exact key l 0
structure Seen (q : List Yi) (a b : List Qh) : Prop where
  grow : ∀ nm x, x ∈ Ye a nm → x ∈ Ye b nm
  same : ∀ nm, nm ∈ Xe q → Ye a nm = Ye b nm
theorem match_grow {q : List Yi} (hv : Qn q = true) {a b : List Qh} (hs : Seen q a b) (f : Zr) : ∀ (n : Nat) (k : Nat), k < n → k < q.length →
    (nth (Xd q) k = true → Xy n q (k : Int) f a = Xy n q (k : Int) f b) ∧ (Xy n q (k : Int) f a = true → Xy n q (k : Int) f b = true)
  | 0, _, h, _ => absurd h (by omega)
  | n + 1, k, hkn, hk => by
    obtain ⟨hl, hr⟩ := vq_kids hv (k := (k : Int)) (by omega) (by omega)
    rw [Int.toNat_natCast] at hl hr
    obtain ⟨hlen, hneg⟩ := neg_kids hv
    have hneg := hneg k (by omega) hk
    have hop := vn_op (vq_node hv (nth_get hk))
    have hnm := neg_name (q := q) (i := k) (by omega)
    have ih := match_grow hv hs f n
    unfold Xy
    rw [Int.toNat_natCast]
    generalize nth q k = m at hl hr hneg hop hnm ⊢
    have kid : ∀ c : Int, 0 ≤ c → c < (k : Int) → isRef m c = true → ((nth (Xd q) k || (m.1 == 5)) = true → Xy n q c f a = Xy n q c f b) ∧ (Xy n q c f a = true → Xy n q c f b = true) := fun c h0 h1 hrf => by
      obtain ⟨j, rfl⟩ : ∃ j : Nat, c = (j : Int) := ⟨Int.toNat c, by omega⟩
      obtain ⟨g1, g2⟩ := ih j (by omega) (by omega)
      exact ⟨fun hn => g1 ((hneg j hrf).trans hn), g2⟩
    rcases hop with h | h | h | h | h | h | h | h | h
    · simp [h]
    · simp [h]
    · simp [h]
    · simp [h]
    · obtain ⟨k1, k2⟩ := hl (.inl h)
      obtain ⟨g1, _⟩ := kid m.2.1 k1 k2 (by simp [isRef, h])
      have := g1 (by simp [h])
      simp [h, this]
    · obtain ⟨k1, k2⟩ := hl (.inr (.inl h))
      obtain ⟨k3, k4⟩ := hr (.inl h)
      obtain ⟨g1, g2⟩ := kid m.2.1 k1 k2 (by simp [isRef, h])
      obtain ⟨g3, g4⟩ := kid m.2.2.1 k3 k4 (by simp [isRef, h])
      refine ⟨fun hn => ?_, fun hm => ?_⟩
      · simp [h, g1 (by simp [hn]), g3 (by simp [hn])]
      simp [h] at hm ⊢
      exact ⟨g2 hm.1, g4 hm.2⟩
    · obtain ⟨k1, k2⟩ := hl (.inr (.inr h))
      obtain ⟨k3, k4⟩ := hr (.inr h)
      obtain ⟨g1, g2⟩ := kid m.2.1 k1 k2 (by simp [isRef, h])
      obtain ⟨g3, g4⟩ := kid m.2.2.1 k3 k4 (by simp [isRef, h])
      refine ⟨fun hn => ?_, fun hm => ?_⟩
      · simp [h, g1 (by simp [hn]), g3 (by simp [hn])]
      simp [h] at hm ⊢
      exact hm.imp g2 g4
    · refine ⟨fun hn => ?_, fun hm => ?_⟩
      · simp [h, hs.same _ (hnm hn (by simp [Z5, h]))]
      simp [h] at hm ⊢
      exact (cid_iff _ _).2 (hs.grow _ _ ((cid_iff _ _).1 hm))
    refine ⟨fun hn => ?_, fun hm => ?_⟩
    · simp [h, hs.same _ (hnm hn (by simp [Z5, h]))]
    simp [h] at hm ⊢
    exact ⟨hm.1, (cid_iff _ _).2 (hs.grow _ _ ((cid_iff _ _).1 hm.2))⟩
theorem matches_grow {q : List Yi} {a b : List Qh} (hs : Seen q a b) (f : Zr) (h : Kz q f a = true) : Kz q f b = true := by
  unfold Kz at h ⊢
  cases hv : Qn q with
  | false => rw [hv] at h; cases h
  | true =>
    rw [hv, Bool.true_and] at h
    rw [Bool.true_and]
    have hl := vq_len hv
    have e : ((q.length : Int) - 1) = ((q.length - 1 : Nat) : Int) := by omega
    rw [e] at h ⊢
    exact (match_grow hv hs f q.length (q.length - 1) (by omega) (by omega)).2 h
theorem select_sel (s : Yv) (q : List Yi) (r : List Qh) : X6 s q r = sel s.2.1 (fun f => f.1) fun f => Kz q f r := by
  unfold X6
  rw [forL_filter (f := V7 q r) (p := fun f => Kz q f r) (g := fun f => f.1) (fun _ _ _ => rfl)]
  rfl
/-! ### strata that hold -/
theorem strata_ok {d : List Y7} {L : List Int} (h : Qj d = (L, true)) : Zs d = true ∧ L.length = d.length ∧ Sat (Z1 d) d.length L ∧ ∀ j, 0 ≤ nth L j := by
  unfold Qj at h
  cases hv : Zs d with
  | false => rw [hv] at h; simp at h
  | true =>
    rw [hv] at h
    simp only [Bool.not_true, cond_false] at h
    have h5 := vdirs_len hv
    have hw := whl_climb (d := d) (f := V3 d) (e := V4) (F := Ki d) (fun _ _ _ => rfl) (fun _ _ => rfl) (fun _ => rfl) (by omega) (d.length * d.length + 3) (List.replicate d.length 0) true (zeroL_ok _).1 (zeroL_ok _).2
    have hsome : (climb (Z1 d) d.length d.length (d.length * d.length + 3) (true, List.replicate d.length 0)).isSome = true := by
      have := implStrata_w d h5
      rw [Int.toNat_natCast, hw, Option.isSome_map] at this
      exact this
    obtain ⟨r, hr⟩ := Option.isSome_iff_exists.1 hsome
    unfold whlD at h
    rw [Int.toNat_natCast, hw, hr] at h
    have hw' : ∀ i e, e ∈ Z1 d i → e.2 ≤ 1 ∧ e.1 < d.length := fun i e he => ⟨(edgesD_ok d i e he).1, (edgesD_ok d i e he).2.1⟩
    obtain ⟨h1, _⟩ := climb_eq hw' _ 0 true r (fun e => by cases e) hr
    cases r with
    | none => simp [endD, Out.on] at h
    | some M =>
      have e : M = L := by simpa [endD, Out.on] using h
      subst e
      obtain ⟨hrest, hM⟩ := h1 M rfl
      rw [hM]
      exact ⟨rfl, K5 _ _ _, rest_sat (K5 _ _ _) hrest, fun j => after_nonneg _ _ j _⟩
theorem strata_le {d : List Y7} {L : List Int} (h : Qj d = (L, true)) : ∀ j, nth L j ≤ (d.length : Int) := by
  obtain ⟨hv, hlen, _, _⟩ := strata_ok h
  have h5 := vdirs_len hv
  unfold Qj at h
  rw [hv] at h
  simp only [Bool.not_true, cond_false] at h
  have hw := whl_climb (d := d) (f := V3 d) (e := V4) (F := Ki d) (fun _ _ _ => rfl) (fun _ _ => rfl) (fun _ => rfl) (by omega) (d.length * d.length + 3) (List.replicate d.length 0) true (zeroL_ok _).1 (zeroL_ok _).2
  have hsome : (climb (Z1 d) d.length d.length (d.length * d.length + 3) (true, List.replicate d.length 0)).isSome = true := by
    have := implStrata_w d h5
    rw [Int.toNat_natCast, hw, Option.isSome_map] at this
    exact this
  obtain ⟨r, hr⟩ := Option.isSome_iff_exists.1 hsome
  unfold whlD at h
  rw [Int.toNat_natCast, hw, hr] at h
  have hw' : ∀ i e, e ∈ Z1 d i → e.2 ≤ 1 ∧ e.1 < d.length := fun i e he => ⟨(edgesD_ok d i e he).1, (edgesD_ok d i e he).2.1⟩
  obtain ⟨h1, _⟩ := climb_eq hw' _ 0 true r (fun e => by cases e) hr
  cases r with
  | none => simp [endD, Out.on] at h
  | some M =>
    have e : M = L := by simpa [endD, Out.on] using h
    subst e
    obtain ⟨hrest, hM⟩ := h1 M rfl
    intro j
    by_cases hj : j < d.length
    · rw [hM]; exact Int.le_of_lt (rest_lt hw' hrest j hj)
    have : nth M j = 0 := nth_out (by omega)
    omega
theorem edgesOfN_mem {d : List Y7} {w : Int} {nm : ByteArray} : ∀ {l : List ByteArray}, nm ∈ l → 0 ≤ Xf d nm → (Int.toNat (Xf d nm), w) ∈ Jg d w l
  | x :: l, h, h0 => by
    simp only [Jg]
    rcases List.mem_cons.1 h with rfl | h
    · rw [if_pos h0]; exact List.mem_cons_self ..
    split
    · exact List.mem_cons_of_mem _ (edgesOfN_mem h h0)
    exact edgesOfN_mem h h0
theorem strata_neg {d : List Y7} {L : List Int} (h : Qj d = (L, true)) {i : Nat} (hi : i < d.length) {nm : ByteArray} (hn : nm ∈ Xe (nth d i).2) (h0 : 0 ≤ Xf d nm) : nth L (Int.toNat (Xf d nm)) < nth L i := by
  obtain ⟨_, _, hs, _⟩ := strata_ok h
  have hm : (Int.toNat (Xf d nm), (1 : Int)) ∈ Z1 d i := by
    unfold Z1
    rw [if_pos hi]
    exact List.mem_append_right _ (edgesOfN_mem hn h0)
  have := (need_le.1 (hs i hi)).2 _ hm
  simp only at this
  omega
theorem rids_go (nm : ByteArray) : ∀ (d : List Y7) (o : List Qh) (k : Nat), o.map (·.1) = d.map (·.1) →
    (Xz (Xn nm) X8 d k () = .brk () ∧ Xz (Vu nm) implResultIDs_e0 o k () = .brk ()) ∨
    ∃ i : Nat, i < d.length ∧ Xz (Xn nm) X8 d k () = .ret (((k + i : Nat)) : Int) ∧ Xz (Vu nm) implResultIDs_e0 o k () = .ret (nth o i).2
  | [], [], _, _ => .inl ⟨rfl, rfl⟩
  | [], _ :: _, _, h => by simp at h
  | _ :: _, [], _, h => by simp at h
  | a :: d, b :: o, k, h => by
    simp only [List.map_cons, List.cons.injEq] at h
    obtain ⟨h1, h2⟩ := h
    simp only [Xz, Xn, Vu, impldirAt_1, h1]
    cases (a.1.toList == nm.toList) with
    | true => exact .inr ⟨0, by simp, rfl, rfl⟩
    | false =>
      simp only [cond_false]
      rcases rids_go nm d o (k + 1) h2 with h | ⟨i, hi, h3, h4⟩
      · exact .inl h
      exact .inr ⟨i + 1, by simpa using hi, by rw [h3, show k + 1 + i = k + (i + 1) by omega], h4⟩
theorem rids_at {d : List Y7} {o : List Qh} (h : o.map (·.1) = d.map (·.1)) (nm : ByteArray) : (Xf d nm < 0 ∧ Ye o nm = []) ∨ (0 ≤ Xf d nm ∧ Int.toNat (Xf d nm) < d.length ∧ Ye o nm = (nth o (Int.toNat (Xf d nm))).2) := by
  unfold Xf Zh Ye
  rcases rids_go nm d o 0 h with ⟨h1, h2⟩ | ⟨i, hi, h1, h2⟩
  · rw [h1, h2]
    refine .inl ⟨?_, ?_⟩
    · show (-1 : Int) < 0; omega
    rfl
  rw [h1, h2]
  simp only [Out.on, Nat.zero_add, Int.toNat_natCast]
  exact .inr ⟨by omega, hi, trivial⟩
abbrev pickD (d : List Y7) (k : Nat) (o : List Qh) (f : Zr) : Bool := Kz (nth d k).2 f o
theorem mono_ok {d : List Y7} {L : List Int} (h : Qj d = (L, true)) (fs : List Zr) {act : Nat → Bool} {level : Int} (ha : ∀ k, act k = true → nth L k = level) : MonoC fs (pickD d) act (d.map (·.1)) := by
  intro a b hna hnb hle k hk hact f _ hm
  rw [List.length_map] at hk
  refine matches_grow (⟨fun nm x hx => ?_, fun nm hn => ?_⟩ : Seen (nth d k).2 a b) f hm
  · rcases rids_at hna nm with ⟨h1, h2⟩ | ⟨h1, h2, h3⟩
    · rw [h2] at hx; simp at hx
    rcases rids_at hnb nm with ⟨g1, _⟩ | ⟨_, _, g3⟩
    · omega
    rw [h3] at hx
    rw [g3]
    exact (hle _).1 x hx
  rcases rids_at hna nm with ⟨h1, h2⟩ | ⟨h1, h2, h3⟩
  · rcases rids_at hnb nm with ⟨_, g2⟩ | ⟨g1, _, _⟩
    · rw [h2, g2]
    omega
  rcases rids_at hnb nm with ⟨g1, _⟩ | ⟨_, _, g3⟩
  · omega
  rw [h3, g3]
  refine (hle _).2 ?_
  have hlt := strata_neg h hk hn h1
  cases hp : act (Int.toNat (Xf d nm)) with
  | false => rfl
  | true => have := ha _ hp; have := ha _ hact; omega
structure EvS (d : List Y7) (L : List Int) (on : Nat → Bool) (fs : List Zr) (k : Int) (o : List Qh) : Prop where
  names : o.map (·.1) = d.map (·.1)
  none : ∀ j, k ≤ nth L j → on j = true → (nth o j).2 = []
  some_ : ∀ j, j < d.length → on j = true → ∃ p : Zr → Bool, (nth o j).2 = sel fs (fun f => f.1) p
def actD (L : List Int) (on : Nat → Bool) (k : Int) (j : Nat) : Bool := (nth L j == k) && on j
theorem evS_state {d : List Y7} {L : List Int} {on : Nat → Bool} {fs : List Zr} {k : Int} {o : List Qh} (h : EvS d L on fs k o) : StateC fs (fun f : Zr => f.1) (pickD d) (actD L on k) (d.map (·.1)) o o :=
  ⟨h.names, fun j _ hj => ⟨fun _ => false, by
    unfold actD at hj
    simp only [Bool.and_eq_true, beq_iff_eq] at hj
    rw [h.none j (by omega) hj.2]; simp [sel], fun f _ hf => by cases hf⟩, fun _ _ => rfl⟩
theorem evS_next {d : List Y7} {L : List Int} {on : Nat → Bool} {k : Int} {o o' : List Qh} {fs : List Zr} (h : EvS d L on fs k o) (h' : StateC fs (fun f : Zr => f.1) (pickD d) (actD L on k) (d.map (·.1)) o o') : EvS d L on fs (k + 1) o' :=
  ⟨h'.names, fun j hj hon => by
    rw [h'.rest j (by unfold actD; rw [Bool.and_eq_false_iff]; exact .inl (beq_eq_false_iff_ne.2 (by omega)))]
    exact h.none j (by omega) hon, fun j hj hon => by
    cases ha : actD L on k j with
    | false => rw [h'.rest j ha]; exact h.some_ j hj hon
    | true =>
      have hlen : o'.length = d.length := by have := congrArg List.length h'.names; simpa using this
      obtain ⟨p, hp, _⟩ := h'.good j (by omega) ha
      exact ⟨p, hp⟩⟩
theorem evS_len {d : List Y7} {L : List Int} {on : Nat → Bool} {fs : List Zr} {k : Int} {o : List Qh} (h : EvS d L on fs k o) : List.length o = List.length d := by have := congrArg List.length h.names; simpa using this
theorem ints_dec (a b : List Int) : Kx a b = decide (a = b) := by
  by_cases h : a.length = b.length
  · exact ints_eq a b h
  have hb : ((a.length : Int) != (b.length : Int)) = true := by simpa using fun e : (a.length : Int) = (b.length : Int) => h (by omega)
  unfold Kx
  rw [hb, decide_eq_false (fun e => h (congrArg List.length e))]
  rfl
def StepE (s : Yv) (d : List Y7) (L : List Int) (on : Nat → Bool) (lv : Int) {R T : Type} (f : Nat → Y7 → List Qh × Bool → Rd R (List Qh × Bool) T) : Prop :=
  ∀ k a o c, d[k]? = some a → f k a (o, c) = bif actD L on lv k then (bif !(decide (X6 s a.2 o = (nth o k).2)) then .next (List.set o k ((nth o k).1, X6 s a.2 o), true) else .next (o, c)) else .next (o, c)
theorem pass_eq {R : Type} {s : Yv} {d : List Y7} {L : List Int} {on : Nat → Bool} {lv : Int} {f : Nat → Y7 → List Qh × Bool → Rd R (List Qh × Bool) (List Qh × Bool)} {e : Nat → List Qh × Bool → List Qh × Bool}
    (hf : StepE s d L on lv f) (he : ∀ k s, e k s = s) : ∀ (l : List Y7) (k : Nat) (o : List Qh) (c : Bool), d.drop k = l → Xz f e l k (o, c) = .brk (passC s.2.1 (fun f : Zr => f.1) (pickD d) (actD L on lv) (List.range' k l.length) (o, c))
  | [], k, o, c, _ => by simp [Xz, passC, he]
  | a :: l, k, o, c, hl => by
    have hk : d[k]? = some a := by
      have := congrArg (·[0]?) hl
      simpa using this
    have ha : nth d k = a := nth_of hk
    have hrest : d.drop (k + 1) = l := by rw [← List.drop_drop, hl]; rfl
    have hp : passC s.2.1 (fun f : Zr => f.1) (pickD d) (actD L on lv) (List.range' k (a :: l).length) (o, c) = passC s.2.1 (fun f : Zr => f.1) (pickD d) (actD L on lv) (List.range' (k + 1) l.length) (stepC s.2.1 (fun f : Zr => f.1) (pickD d) (actD L on lv) (o, c) k) := by
      rw [List.length_cons, List.range'_succ]; rfl
    have hsel : sel s.2.1 (fun f : Zr => f.1) (pickD d k o) = X6 s a.2 o := by rw [select_sel, ← ha]
    rw [hp]
    simp only [Xz, hf k a o c hk]
    unfold stepC
    cases actD L on lv k with
    | false => simp only [cond_false]; exact pass_eq hf he l (k + 1) o c hrest
    | true =>
      simp only [cond_true, hsel]
      by_cases hq : X6 s a.2 o = (nth o k).2
      · rw [decide_eq_true hq, if_pos hq]; exact pass_eq hf he l (k + 1) o c hrest
      rw [decide_eq_false hq, if_neg hq]; exact pass_eq hf he l (k + 1) _ true hrest
theorem ev_run {R' : Type} {s : Yv} {d : List Y7} {L : List Int} {on : Nat → Bool} {lv : Int} {f : Nat → Y7 → List Qh × Bool → Rd (Rd R' (List Qh × Int × Bool) (List Qh × Int)) (List Qh × Bool) (List Qh × Bool)} {e : Nat → List Qh × Bool → List Qh × Bool} {F : List Qh × Int × Bool → Rd R' (List Qh × Int × Bool) (List Qh × Int)}
    (hf : StepE s d L on lv f) (he : ∀ k s, e k s = s) (hF : ∀ x, F x = bif x.2.2 then (Out.on (Xz f e d 0 (x.1, false)) fun y => .next (y.1, IntKind.i64.wrap (x.2.1 + 1), y.2)) else .brk (x.1, x.2.1))
    (hS : Qj d = (L, true)) {o : List Qh} (h : EvS d L on s.2.1 lv o) (p : Int) :
    ∃ o' p', whl F (List.length d * List.length s.2.1 + 2) (o, p, true) = some (.brk (o', p')) ∧ EvS d L on s.2.1 (lv + 1) o' := by
  have hlen : o.length = d.length := by have := congrArg List.length h.names; simpa using this
  have hroom := room_le s.2.1.length (actD L on lv) o 0
  rw [hlen] at hroom
  obtain ⟨s', h1, hc, t, h2, h3⟩ := whlC (fs := s.2.1) (idOf := fun f : Zr => f.1) (m := pickD d) (act := actD L on lv) (nm := d.map (·.1)) (F := F) (out := fun x => x.1) (ch := fun x => x.2.2) (n := d.length) (by simp)
    (fun x hx => ⟨_, by rw [hF, hx, cond_true, pass_eq hf he d 0 x.1 false rfl]; rfl, by rw [List.range_eq_range']⟩)
    (fun x hx => ⟨_, by rw [hF, hx, cond_false]⟩) (mono_ok hS s.2.1 fun k hk => by unfold actD at hk; simp only [Bool.and_eq_true, beq_iff_eq] at hk; exact hk.1) (o := o) (List.length d * List.length s.2.1 + 2) (o, p, true) (evS_state h) (by simp only [cond_true]; omega)
  have hc' : s'.2.2 = false := hc
  have hb : F s' = .brk (s'.1, s'.2.1) := by rw [hF, hc']; rfl
  rw [hb] at h2
  cases h2
  exact ⟨s'.1, s'.2.1, h3, evS_next h h1⟩
theorem ev_start {R T : Type} {d : List Y7} {L : List Int} {on : Nat → Bool} {fs : List Zr} {g : Y7 → List Int} {f : Nat → Y7 → List Qh → Rd R (List Qh) T} {e : Nat → List Qh → T} (hf : ∀ k a s, f k a s = .next (s ++ [(a.1, g a)])) (hg : ∀ j, j < d.length → on j = true → g (nth d j) = []) :
    Xz f e d 0 [] = .brk (e d.length (d.map fun a => (a.1, g a))) ∧ EvS d L on fs 0 (d.map fun a => (a.1, g a)) := by
  refine ⟨by rw [forL_map (g := fun a => ((a.1, g a) : Qh)) hf]; simp, ?_, fun j _ hj => ?_, fun j hj hon => ?_⟩
  · rw [List.map_map]; rfl
  · by_cases hjl : j < d.length
    · have : nth (d.map fun a => ((a.1, g a) : Qh)) j = ((nth d j).1, g (nth d j)) := by simp [nth, List.getD, hjl]
      rw [this]; exact hg j hjl hj
    have : nth (d.map fun a => ((a.1, g a) : Qh)) j = default := by simp [nth, List.getD, hjl]
    rw [this]; rfl
  have : nth (d.map fun a => ((a.1, g a) : Qh)) j = ((nth d j).1, g (nth d j)) := by simp [nth, List.getD, hj]
  exact ⟨fun _ => false, by rw [this, hg j hj hon]; simp [sel]⟩
theorem strata_small {d : List Y7} (h : ((Qj d)).2 = true) : List.length ((Qj d)).1 = List.length d ∧ List.length d ≤ 5 ∧ ∀ x, x ∈ ((Qj d)).1 → 0 ≤ x ∧ x ≤ 5 := by
  have hS : Qj d = ((Qj d).1, true) := Prod.ext rfl h
  obtain ⟨hv, hlen, hs, h0⟩ := strata_ok hS
  have h5 := vdirs_len hv
  refine ⟨hlen, h5, fun x hx => ?_⟩
  obtain ⟨i, hi, rfl⟩ := mem_nth hx
  refine ⟨h0 i, ?_⟩
  have hb := strata_le hS i
  omega
open GoE (enc wide)
def implDirNames_f0 (_ : Nat) (a0 : Y7) (s0 : (List ByteArray)) : Rd ((List ByteArray)) ((List ByteArray)) ((List ByteArray)) := (.next (s0 ++ [a0.1]))
def implDirNames_e0 (_ : Nat) (s0 : (List ByteArray)) : (List ByteArray) := s0
def Zn (d : (List Y7)) : (List ByteArray) := (Out.on (Xz implDirNames_f0 implDirNames_e0 d 0 []) (fun y0 => y0))
theorem implDirNames_a (d : (List Y7)) : ACalls Tryz.prog 88 [.h d] (.o 0 (Zn d)) := by
 refine en Qa Tryz.func88 fun w0 F0 hG => ?_
 refine sn Qa [0, 2] [] (p0) ?_
 refine tn Qa [0, 2, 3] [] (p0) ?_
 refine Qb ?_
 refine tu Qa [(2, .e 0), (3, .one (.slc (.own true 384) 1 [])), (7, .h d), (8, .i (d.length : Int)), (9, .i 0)] [0] [] [] (pl 1 d p0) ?_
 refine wT 7 0 .sh d (fun hw1 hl2 => ?_)
 refine blL1 implDirNames_f0 implDirNames_e0 d [] (fun k0 s0 => [(3, .o 147201 s0), (9, .i ((k0 : Nat) : Int))]) [3, 9] (fun y0 => [(3, .o 147351 y0)]) [3, 7, 8, 9] (fun k0 s0 => List.length s0 ≤ k0) (Yw [(384, 147201)] (by kernel_rfl)) (by simp) (fun k0 s0 hk0 hI0 => ?_) (fun k0 s0 hk0 hI0 => ?_) (fun y0 hD0 => ?_)
 ·
  have hA0_0 := hI0.2
  obtain ⟨a0, hx0⟩ := Xt (l := d) (i := k0) hk0
  refine sn Qa [2, 3, 7, 8, 9, 10] [] (pe 0 (Qk (decide_eq_true (p := ((k0 : Nat) : Int) < (d.length : Int)) (by omega))) p0) ?_
  refine Qb ?_
  refine ckT ?_
  refine Qg ?_
  refine Qb ?_
  refine Qs ?_
  refine tn Qa [2, 3, 5, 7, 8, 9] [5] (pn 0 hx0 p0) ?_
  refine wT 3 0 (.own true 147201) s0 (fun hw3 hl4 => ?_)
  refine qu Qa [(3, .one (.slc (.own true 1088) 1 ((eL s0) ++ [[.s a0.1]])))] [3] [] [] (pa s0 [a0.1] p0) ?_
  refine eqn [(3, .o 1088 (s0 ++ [a0.1]))] [3] [] [] (by rw [show ((eL s0) ++ [[.s a0.1]]) = (eL (s0 ++ [a0.1])) from app_eL (rfl) (rfl)]; first | done | kernel_rfl) ?_
  refine rn Qa [2, 3, 7, 8, 9] [] (pe 0 (J7 (Qp k0 (by omega))) p0) ?_
  exact Exists.intro (s0 ++ [a0.1]) (And.intro (Yw [(1088, 147201)] (by kernel_rfl)) ⟨Qu hx0 (rfl) hI0.1, by first | omega | (simp; omega) | simp⟩)
 ·
  have hA0_0 := hI0.2
  refine sn Qa [2, 3, 7, 8, 9, 10] [] (pe 0 (Qk (decide_eq_false (p := ((k0 : Nat) : Int) < (d.length : Int)) (by omega))) p0) ?_
  refine Qb ?_
  refine ckF ?_
  refine Q7 ?_
  exact Exists.intro _ (And.intro (Yw [(147201, 147351)] (by kernel_rfl)) (Xx hk0 (rfl) hI0.1))
 refine sn Qa [2] [] (p0) ?_
 refine Qf ?_
 exact po0 [] (on_b hD0 (rfl))
def Kn (v : ByteArray) (k0 : Nat) (a0 : ByteArray) (_ : Unit) : Rd (Int) (Unit) (Unit) := (bif (v.toList == a0.toList) then (.ret ((k0 : Nat) : Int)) else (.next ()))
def V8 (_ : Nat) (_ : Unit) : Unit := ()
def slicesIndex_string (s_ : (List ByteArray)) (v : ByteArray) : Int := (Out.on (Xz (Kn v) V8 s_ 0 ()) (fun _ => -1))
theorem slicesIndex_string_a (s_ : (List ByteArray)) (v : ByteArray) : ACalls Tryz.prog 148 [.h s_, .s v] (.i (slicesIndex_string s_ v)) := by
 refine en Qa Tryz.func148 fun w0 F0 hG => ?_
 refine sn Qa [0, 1, 4] [] (p0) ?_
 refine Qb ?_
 refine tn Qa [0, 1, 4, 7, 8] [] (pl 1 s_ p0) ?_
 refine mz [(4, .i 0), (7, .i (s_.length : Int)), (8, .i 0)] [] [] [] ?_
 refine wT 0 0 .sh s_ (fun hw1 hl2 => ?_)
 refine blL0 (Kn v) V8 s_ () (fun k0 _ => [(8, .i ((k0 : Nat) : Int))]) [8] (fun _ => []) [0, 1, 7, 8] wf0 (fun k0 s0 hk0 hI0 => ?_) (fun k0 s0 hk0 hI0 => ?_) (fun y0 hD0 => ?_)
 ·
  obtain ⟨a0, hx0⟩ := Xt (l := s_) (i := k0) hk0
  refine sn Qa [0, 1, 4, 7, 8, 9] [] (pe 0 (Qk (decide_eq_true (p := ((k0 : Nat) : Int) < (s_.length : Int)) (by omega))) p0) ?_
  refine Qb ?_
  refine ckT ?_
  refine Qg ?_
  refine Qb ?_
  refine Qs ?_
  refine tn Qa [0, 1, 4, 5, 7, 8] [] (p0) ?_
  refine tu Qa [(5, .i ((k0 : Nat) : Int)), (16, .b (v.toList == a0.toList))] [] [] [] (pn 3 hx0 p0) ?_
  refine ck (v.toList == a0.toList) (fun h3 => ?_) (fun h3 => ?_)
  ·
   refine sn Qa [0, 1, 4, 7, 8] [] (p0) ?_
   refine Qf ?_
   have hr4 : (Xz (Kn v) V8 s_ 0 ()) = .ret ((k0 : Nat) : Int) := Ja hx0 (Xw h3 (rfl)) hI0
   exact pi [] (on_r hr4)
  refine Qg ?_
  refine rn Qa [0, 1, 4, 7, 8] [] (pe 0 (J7 (Qp k0 (by omega))) p0) ?_
  exact xw _ (Qu hx0 (Qm h3 (rfl)) hI0)
 ·
  refine sn Qa [0, 1, 4, 7, 8, 9] [] (pe 0 (Qk (decide_eq_false (p := ((k0 : Nat) : Int) < (s_.length : Int)) (by omega))) p0) ?_
  refine Qb ?_
  refine ckF ?_
  refine Q7 ?_
  exact xw _ (Xx hk0 (rfl) hI0)
 refine sn Qa [4] [] (p0) ?_
 refine Qf ?_
 exact pi [] (on_b hD0 (rfl))
def Q8 (s_ : (List ByteArray)) (v : ByteArray) : Bool := decide ((slicesIndex_string s_ v) ≥ (0 : Int))
theorem slicesContains_string_a (s_ : (List ByteArray)) (v : ByteArray) : ACalls Tryz.prog 117 [.h s_, .s v] (.b (Q8 s_ v)) := by
 refine en Qa Tryz.func117 fun w0 F0 hG => ?_
 refine sn Qa [0, 1, 4] [] (p0) ?_
 refine tn Qa [4] [] (pc 2 (slicesIndex_string_a s_ v) p0) ?_
 refine Qf ?_
 exact pb [] (show Q8 s_ v = decide ((slicesIndex_string s_ v) ≥ (0 : Int)) from rfl)
def Vv (x : (List Int)) (k0 : Nat) (s0 : Int) : Rd (Int) (Int) (Int) := (.next (max s0 (nth x (k0 + 1))))
def slicesMax_int_e0 (_ : Nat) (s0 : Int) : Int := s0
def slicesMax_int (x : (List Int)) : Int := (Out.on (Vs (Vv x) slicesMax_int_e0 (x.length - 1) 0 (nth x 0)) (fun y0 => y0))
theorem slicesMax_int_a (x : (List Int)) (hp : 0 < x.length) : ACalls Tryz.prog 149 [.h x] (.i (slicesMax_int x)) := by
 refine en Qa Tryz.func149 fun w0 F0 hG => ?_
 refine sn Qa [0, 2] [] (p0) ?_
 refine Qb ?_
 refine tn Qa [0, 2, 7] [] (pl 1 x (pe 2 (show .b (decide ((x.length : Int) < (1 : Int))) = .b false from Qk (decide_eq_false (by omega))) p0)) ?_
 refine ckF ?_
 refine Qg ?_
 refine wT 0 0 .sh x (fun hw2 hl3 => ?_)
 have hx1 := ng x 0
 refine tu Qa [(2, .i 0), (3, .i (nth x 0))] [] [] [] (pg 1 0 hx1 p0) ?_
 refine Qb ?_
 refine sn Qa [0, 2, 3, 4] [] (p0) ?_
 refine mz [(4, .i 1)] [] [] [] ?_
 refine blN0 (Vv x) slicesMax_int_e0 (x.length - 1) (nth x 0) (fun k0 s0 => [(3, .i s0), (4, .i ((k0 + 1 : Nat) : Int))]) [3, 4] (fun y0 => [(3, .i y0)]) [0, 3, 4] wf0 (fun k0 s0 hk0 hI0 => ?_) (fun k0 s0 hk0 hI0 => ?_) (fun y0 hD0 => ?_)
 ·
  refine Qb ?_
  refine sn Qa [0, 2, 3, 4, 15] [] (pl 2 x (pe 3 (Qk (decide_eq_true (p := ((k0 + 1 : Nat) : Int) < (x.length : Int)) (by omega))) p0)) ?_
  refine ckT ?_
  refine Qg ?_
  refine Qb ?_
  refine Qs ?_
  have hx4 := ng x (k0 + 1)
  refine qn Qa [0, 2, 3, 4] [] (pg 3 ((k0 + 1 : Nat) : Int) hx4 p0) ?_
  refine qu Qa [(3, .i (max s0 (nth x (k0 + 1)))), (4, .i ((k0 + 2 : Nat) : Int))] [3, 4] [] [] (pe 1 (show .i (IntKind.i64.wrap (((k0 + 1 : Nat) : Int) + 1)) = .i ((k0 + 2 : Nat) : Int) from J7 ((IntWalk.i64_in _ (by omega)).trans (by omega))) p0) ?_
  exact xw _ (J9 hk0 (rfl) hI0)
 ·
  refine Qb ?_
  refine sn Qa [0, 2, 3, 4, 15] [] (pl 2 x (pe 3 (Qk (decide_eq_false (p := ((k0 + 1 : Nat) : Int) < (x.length : Int)) (by omega))) p0)) ?_
  refine ckF ?_
  refine Q7 ?_
  exact xw _ (forN_end hk0 (rfl) hI0)
 refine sn Qa [2] [] (p0) ?_
 refine Qf ?_
 exact pi [] (on_b hD0 (rfl))
def Kk (d : (List Y7)) : Int := (bif ((!(((Qj d)).2)) || (((((Qj d)).1).length : Int) == (0 : Int))) then -1 else (slicesMax_int (((Qj d)).1)))
theorem implMaxStratum_a (d : (List Y7)) : ACalls Tryz.prog 119 [.h d] (.i (Kk d)) := by
 refine en Qa Tryz.func119 fun w0 F0 hG => ?_
 refine sn Qa [0, 2] [] (p0) ?_
 refine tn Qa [2, 3, 4] [] (pc 1 (implStrata_a d) p0) ?_
 refine Qb ?_
 refine Qb ?_
 refine mz [(2, .i 0), (3, .o 448 (((Qj d)).1)), (4, .b (((Qj d)).2))] [0] [] [] ?_
 refine jn [(16, .b ((!(((Qj d)).2)) || (((((Qj d)).1).length : Int) == (0 : Int))))] [4] [] [] (!(((Qj d)).2)) (fun h1 => ?_) (fun h1 => ?_) ?_
 ·
  have h1n : (((Qj d)).2) = false := bnot_t h1
  refine rn Qa [2, 3, 16] [] (pf 0 h1n (pe 1 (show .b (!false) = .b true from rfl) p0)) ?_
  exact ⟨rfl, Qd (by rw [h1] <;> kernel_rfl)⟩
 ·
  have h1n : (((Qj d)).2) = true := Zl h1
  refine rn Qa [2, 3, 16] [] (pt 0 h1n (pe 1 (show .b (!true) = .b false from rfl) (pl 4 (((Qj d)).1) p0))) ?_
  exact ⟨rfl, Qd (by rw [h1] <;> kernel_rfl)⟩
 refine ck ((!(((Qj d)).2)) || (((((Qj d)).1).length : Int) == (0 : Int))) (fun h2 => ?_) (fun h2 => ?_)
 ·
  refine sn Qa [2, 3] [] (p0) ?_
  refine Qf ?_
  exact pi [] (Xw h2 (rfl))
 have h2l : ((!(((Qj d)).2))) = false := or_l h2
 have h2ln : (((Qj d)).2) = true := Zl h2l
 have h2r : ((((((Qj d)).1).length : Int) == (0 : Int))) = false := or_r h2
 have h2rd := Zk h2r
 refine Qg ?_
 refine sn Qa [2] [] (pc 1 (slicesMax_int_a (((Qj d)).1) (by first | omega | (simp_all; omega))) p0) ?_
 refine Qf ?_
 exact pi [] (Qm h2 (rfl))
def V9 (s2_ : (List Int)) (k0 : Nat) (a0 : Int) (_ : Unit) : Rd (Bool) (Unit) (Unit) := (bif (a0 != (nth s2_ k0)) then (.ret false) else (.next ()))
def slicesEqual_int_e0 (_ : Nat) (_ : Unit) : Unit := ()
def Jx (s1_ : (List Int)) (s2_ : (List Int)) : Bool := (bif ((s1_.length : Int) != (s2_.length : Int)) then false else (Out.on (Xz (V9 s2_) slicesEqual_int_e0 s1_ 0 ()) (fun _ => true)))
theorem slicesEqual_int_a (s1_ : (List Int)) (s2_ : (List Int)) : ACalls Tryz.prog 121 [.h s1_, .h s2_] (.b (Jx s1_ s2_)) := by
 refine en Qa Tryz.func121 fun w0 F0 hG => ?_
 refine sn Qa [0, 1, 4] [] (p0) ?_
 refine Qb ?_
 refine tn Qa [0, 1, 4, 10] [] (pl 1 s1_ (pl 3 s2_ p0)) ?_
 refine ck ((s1_.length : Int) != (s2_.length : Int)) (fun h1 => ?_) (fun h1 => ?_)
 ·
  refine tu Qa [(4, .b false)] [] [] [] (p0) ?_
  refine Qf ?_
  exact pb [] (Xw h1 (rfl))
 have h1d := eq_of_bne h1
 refine Qg ?_
 refine Qb ?_
 refine tu Qa [(4, .b false), (12, .i (s1_.length : Int)), (13, .i 0)] [] [] [] (pl 1 s1_ p0) ?_
 refine wT 0 0 .sh s1_ (fun hw2 hl3 => ?_)
 refine blL0 (V9 s2_) slicesEqual_int_e0 s1_ () (fun k0 _ => [(13, .i ((k0 : Nat) : Int))]) [13] (fun _ => []) [0, 1, 12, 13] wf0 (fun k0 s0 hk0 hI0 => ?_) (fun k0 s0 hk0 hI0 => ?_) (fun y0 hD0 => ?_)
 ·
  obtain ⟨a0, hx0⟩ := Xt (l := s1_) (i := k0) hk0
  refine su Qa [(14, .b true)] [] [] [] (pe 0 (Qk (decide_eq_true (p := ((k0 : Nat) : Int) < (s1_.length : Int)) (by omega))) p0) ?_
  refine Qb ?_
  refine ckT ?_
  refine Qg ?_
  refine Qb ?_
  refine Qs ?_
  refine sn Qa [0, 1, 4, 5, 12, 13] [] (p0) ?_
  refine wT 1 0 .sh s2_ (fun hw5 hl6 => ?_)
  have hx4 := ng s2_ k0
  refine tN Qa Y2 [0, 1, 4, 12, 13, 24] [] (pn 2 hx0 (pn 6 hx4 p0)) ?_
  refine ck (a0 != (nth s2_ k0)) (fun h7 => ?_) (fun h7 => ?_)
  ·
   refine tu Qa [] [14] [] [] (p0) ?_
   refine Qf ?_
   have hr8 : (Xz (V9 s2_) slicesEqual_int_e0 s1_ 0 ()) = .ret false := Ja hx0 (Xw h7 (rfl)) hI0
   exact pb [] (Qm h1 (on_r hr8))
  have h7d := eq_of_bne h7
  refine Qg ?_
  refine qu Qa [(13, .i ((k0 + 1 : Nat) : Int))] [13, 14] [] [] (pe 0 (J7 (Qp k0 (by omega))) p0) ?_
  exact xw _ (Qu hx0 (Qm h7 (rfl)) hI0)
 ·
  refine sn Qa [0, 1, 4, 12, 13, 14] [] (pe 0 (Qk (decide_eq_false (p := ((k0 : Nat) : Int) < (s1_.length : Int)) (by omega))) p0) ?_
  refine Qb ?_
  refine ckF ?_
  refine Q7 ?_
  exact xw _ (Xx hk0 (rfl) hI0)
 refine sn Qa [4] [] (p0) ?_
 refine Qf ?_
 exact pb [] (Qm h1 (on_b hD0 (rfl)))
def K0 (r : (List Qh)) (names : (List ByteArray)) (_ : Nat) (a0 : Y7) (s0 : (List Qh)) : Rd ((List Qh) × Int × Bool) ((List Qh)) ((List Qh)) := (bif (!(Q8 names a0.1)) then (.next (s0 ++ [(a0.1, (Ye r a0.1))])) else (.next (s0 ++ [((a0.1, []) : Qh)])))
def implevaluated_e0 (_ : Nat) (s0 : (List Qh)) : (List Qh) := s0
def J4 (s_ : Yv) (d : (List Y7)) (names : (List ByteArray)) (k1 : Nat) (k3 : Nat) (a3 : Y7) (s3 : (List Qh) × Bool) : Rd (Rd (Rd ((List Qh) × Int × Bool) ((List Qh) × Int) ((List Qh) × Int)) ((List Qh) × Int × Bool) ((List Qh) × Int)) ((List Qh) × Bool) ((List Qh) × Bool) := (bif (((nth (((Qj d)).1) k3) != ((k1 : Nat) : Int)) || (!(Q8 names a3.1))) then (.next (s3.1, s3.2)) else (bif (!(Jx (X6 s_ a3.2 s3.1) ((nth s3.1 k3).2))) then (.next (List.set s3.1 k3 ((nth s3.1 k3).1, (X6 s_ a3.2 s3.1)), true)) else (.next (s3.1, s3.2))))
def implevaluated_e3 (_ : Nat) (s3 : (List Qh) × Bool) : (List Qh) × Bool := (s3.1, s3.2)
def Jh (s_ : Yv) (d : (List Y7)) (names : (List ByteArray)) (k1 : Nat) (s2 : (List Qh) × Int × Bool) : Rd (Rd ((List Qh) × Int × Bool) ((List Qh) × Int) ((List Qh) × Int)) ((List Qh) × Int × Bool) ((List Qh) × Int) := (bif s2.2.2 then (Out.on (Xz (J4 s_ d names k1) implevaluated_e3 d 0 (s2.1, false)) (fun y3 => (.next (y3.1, IntKind.i64.wrap (s2.2.1 + 1), y3.2)))) else (.brk (s2.1, s2.2.1)))
def implevaluated_f1 (s_ : Yv) (d : (List Y7)) (names : (List ByteArray)) (k1 : Nat) (s1 : (List Qh) × Int) : Rd ((List Qh) × Int × Bool) ((List Qh) × Int) ((List Qh) × Int) := (Out.on (whlD (Jh s_ d names k1) (List.length d * List.length s_.2.1 + 2) (s1.1, s1.2, true)) (fun y2 => (.next (y2.1, y2.2))))
def implevaluated_e1 (_ : Nat) (s1 : (List Qh) × Int) : (List Qh) × Int := (s1.1, s1.2)
def Zz (s_ : Yv) (d : (List Y7)) (r : (List Qh)) (names : (List ByteArray)) : (List Qh) × Int × Bool := (bif ((!(((Qj d)).2)) || (!(Yd s_))) then ([], 0, false) else (Out.on (Xz (K0 r names) implevaluated_e0 d 0 []) (fun y0 => (Out.on (Vs (implevaluated_f1 s_ d names) implevaluated_e1 (Int.toNat ((Kk d) + 1)) 0 (y0, 0)) (fun y1 => (y1.1, y1.2, true))))))
theorem max_go {B : Int} {x : List Int} (hx : ∀ a, a ∈ x → a ≤ B) (hB : 0 ≤ B) : ∀ (n k : Nat) (s : Int), s ≤ B → ∃ t, Vs (Vv x) slicesMax_int_e0 n k s = .brk t ∧ t ≤ B
  | 0, k, s, h => ⟨s, rfl, h⟩
  | n + 1, k, s, h => by
    obtain ⟨t, h1, h2⟩ := max_go hx hB n (k + 1) (max s (nth x (k + 1))) (by
      by_cases hk : k + 1 < x.length
      · have := hx _ (nth_mem hk); omega
      rw [nth_out (by omega)]; omega)
    exact ⟨t, by simp only [Vs, Vv]; exact h1, h2⟩
theorem strata_factsI {d : List Y7} (h : ((Qj d)).2 = true) : List.length ((Qj d)).1 = List.length d ∧ List.length d ≤ 5 ∧ Kk d ≤ 5 := by
 obtain ⟨h1, h2, h3⟩ := strata_small h
 refine ⟨h1, h2, ?_⟩
 unfold Kk
 rw [h]
 simp only [Bool.not_true, Bool.false_or]
 cases hl : (((((Qj d)).1).length : Int) == (0 : Int)) with
 | true => simp only [cond_true]; omega
 | false =>
  simp only [cond_false]
  have hp : 0 < (((Qj d)).1).length := by have := Zk hl; omega
  unfold slicesMax_int
  obtain ⟨t, e, ht⟩ := max_go (B := 5) (x := ((Qj d)).1) (fun a ha => (h3 a ha).2) (by omega) ((((Qj d)).1).length - 1) 0 (nth ((Qj d)).1 0) (h3 _ (nth_mem hp)).2
  rw [e]; exact ht
theorem eqI_go (b : List Int) : ∀ (l : List Int) (k : Nat), l.length = (b.drop k).length → Out.on (Xz (V9 b) slicesEqual_int_e0 l k ()) (fun _ => true) = decide (l = b.drop k)
  | [], k, h => by
    have : b.drop k = [] := List.eq_nil_of_length_eq_zero (by rw [← h]; rfl)
    rw [this]; rfl
  | a :: l, k, h => by
    have hk : k < b.length := by simp only [List.length_cons, List.length_drop] at h; omega
    have hd : b.drop k = nth b k :: b.drop (k + 1) := by
      rw [List.drop_eq_getElem_cons hk, show nth b k = b[k] by simp [nth, List.getD, hk]]
    rw [hd] at h ⊢
    simp only [Xz, V9]
    by_cases e : a = nth b k
    · rw [show (a != nth b k) = false by simp [e], cond_false, eqI_go b l (k + 1) (by simpa using h)]
      simp [e]
    rw [show (a != nth b k) = true by simp [e], cond_true]
    simp [e, Out.on]
theorem eqI_eq (a b : List Int) (h : a.length = b.length) : Jx a b = decide (a = b) := by
 unfold Jx
 rw [show ((a.length : Int) != (b.length : Int)) = false by simp [h], cond_false, eqI_go b a 0 (by simpa using h), List.drop_zero]
theorem eqI_dec (a b : List Int) : Jx a b = decide (a = b) := by
  by_cases h : a.length = b.length
  · exact eqI_eq a b h
  have hb : ((a.length : Int) != (b.length : Int)) = true := by simpa using fun e : (a.length : Int) = (b.length : Int) => h (by omega)
  unfold Jx
  rw [hb, decide_eq_false (fun e => h (congrArg List.length e))]
  rfl
def onD (d : List Y7) (names : List ByteArray) (j : Nat) : Bool := Q8 names (nth d j).1
theorem evaluated_step (s_ : Yv) (d : List Y7) (names : List ByteArray) (k1 : Nat) : StepE s_ d (Qj d).1 (onD d names) (k1 : Int) (J4 s_ d names k1) := by
 intro k a o c hk
 have ha : nth d k = a := nth_of hk
 unfold J4 actD onD
 rw [ha, eqI_dec]
 simp only [bne]
 cases (nth (Qj d).1 k == (k1 : Int)) <;> cases Q8 names a.1 <;> rfl
section
variable {s_ : Yv} {d : List Y7} {names : List ByteArray} {k1 : Nat} {o : List Qh} {p : Int}
theorem evaluated_run (hS : ((Qj d)).2 = true) (h : EvS d ((Qj d)).1 (onD d names) s_.2.1 (k1 : Int) o) : ∃ o' p', whl (Jh s_ d names k1) (List.length d * List.length s_.2.1 + 2) (o, p, true) = some (.brk (o', p')) ∧ EvS d ((Qj d)).1 (onD d names) s_.2.1 ((k1 : Int) + 1) o' :=
 ev_run (f := J4 s_ d names k1) (e := implevaluated_e3) (evaluated_step s_ d names k1) (fun _ _ => rfl) (fun _ => rfl) (Prod.ext rfl hS) h p
theorem evaluated_w (hS : ((Qj d)).2 = true) (h : EvS d ((Qj d)).1 (onD d names) s_.2.1 (((k1 : Nat)) : Int) o) : (whl (Jh s_ d names k1) (List.length d * List.length s_.2.1 + 2) (o, p, true)).isSome = true := by
 obtain ⟨o', p', h1, _⟩ := evaluated_run (p := p) hS h
 rw [h1]; rfl
theorem evaluated_next {y : List Qh × Int} (hS : ((Qj d)).2 = true) (h : EvS d ((Qj d)).1 (onD d names) s_.2.1 (((k1 : Nat)) : Int) o) (hy : whlD (Jh s_ d names k1) (List.length d * List.length s_.2.1 + 2) (o, p, true) = .brk y) : EvS d ((Qj d)).1 (onD d names) s_.2.1 ((((k1 + 1) : Nat)) : Int) y.1 := by
 obtain ⟨o', p', h1, h2⟩ := evaluated_run (p := p) hS h
 unfold whlD at hy
 rw [h1] at hy
 have e : (o', p') = y := by simpa using hy
 rw [← e, Int.natCast_add]; exact h2
def startG (r : List Qh) (names : List ByteArray) (a : Y7) : List Int := bif (!(Q8 names a.1)) then (Ye r a.1) else []
theorem Ko {r : List Qh} (hy : Xz (K0 r names) implevaluated_e0 d 0 [] = .brk o) : EvS d ((Qj d)).1 (onD d names) s_.2.1 (((0 : Nat)) : Int) o := by
 obtain ⟨h1, h2⟩ := ev_start (L := ((Qj d)).1) (on := onD d names) (fs := s_.2.1) (g := startG r names) (f := K0 r names) (e := implevaluated_e0) (d := d) (fun k a s => by
  unfold K0 startG
  cases Q8 names a.1 <;> rfl) (fun j _ hj => by unfold onD at hj; unfold startG; rw [hj]; rfl)
 rw [h1] at hy
 have e : (d.map fun a => ((a.1, startG r names a) : Qh)) = o := Out.brk.inj hy
 rw [← e]; exact h2
end
theorem implevaluated_a (s_ : Yv) (d : (List Y7)) (r : (List Qh)) (names : (List ByteArray)) : ACalls Tryz.prog 87 [.a [.h s_.1, .h s_.2.1, .i s_.2.2], .h d, .h r, .h names] (.tup [(false, [.o 0 (((Zz s_ d r names)).1)]), (false, [.i (((Zz s_ d r names)).2.1)]), (false, [.b (((Zz s_ d r names)).2.2)])]) := by
 refine en Qa Tryz.func87 fun w0 F0 hG => ?_
 refine sn Qa [1, 2, 3, 4, 8, 9, 10] [4] (p0) ?_
 refine tn Qa [1, 2, 3, 4, 8, 9, 10, 11, 12] [4] (pc 1 (implStrata_a d) p0) ?_
 refine Qb ?_
 refine Qb ?_
 refine mz [(4, .p 4 0), (8, .e 0), (9, .i 0), (10, .b false), (11, .o 1600 (((Qj d)).1)), (12, .b (((Qj d)).2))] [0] [(4, [.h s_.1, .h s_.2.1, .i s_.2.2])] [] ?_
 refine jn [(34, .b ((!(((Qj d)).2)) || (!(Yd s_))))] [12] [] [] (!(((Qj d)).2)) (fun h1 => ?_) (fun h1 => ?_) ?_
 ·
  have h1n : (((Qj d)).2) = false := bnot_t h1
  refine ru Qa [(34, .b true)] [12] [] [] (pf 0 h1n (pe 1 (show .b (!false) = .b true from rfl) p0)) ?_
  exact ⟨rfl, Qd (by rw [h1] <;> kernel_rfl)⟩
 ·
  have h1n : (((Qj d)).2) = true := Zl h1
  have h1nsf := strata_factsI h1n
  refine rn Qa [1, 2, 3, 4, 8, 9, 10, 11, 34] [4] (pt 0 h1n (pe 1 (show .b (!true) = .b false from rfl) (pc 4 (implIsValidStore_a s_) p0))) ?_
  exact ⟨rfl, Qd (by rw [h1] <;> kernel_rfl)⟩
 refine ck ((!(((Qj d)).2)) || (!(Yd s_))) (fun h2 => ?_) (fun h2 => ?_)
 ·
  refine su Qa [] [34] [] [] (p0) ?_
  refine opn [(false, 8, 0, true, 384000, 2)] ?_
  refine Qf ?_
  exact pz [] (show Zz s_ d r names = _ from Xw h2 (rfl)) (fun z => .tup [(false, [.o 0 z.1]), (false, [.i z.2.1]), (false, [.b z.2.2])])
 have h2l : ((!(((Qj d)).2))) = false := or_l h2
 have h2ln : (((Qj d)).2) = true := Zl h2l
 have h2lnsf := strata_factsI h2ln
 have h2r : ((!(Yd s_))) = false := or_r h2
 have h2rn : (Yd s_) = true := Zl h2r
 refine Qg ?_
 refine sn Qa [1, 2, 3, 4, 8, 9, 10, 11, 13] [4] (p0) ?_
 refine Qb ?_
 refine tn Qa [1, 2, 3, 4, 8, 9, 10, 11, 13, 36, 37, 38] [4] (pl 1 d p0) ?_
 refine mz [(13, .one (.slc (.own true 2240) 2 [])), (36, .h d), (37, .i (d.length : Int)), (38, .i 0)] [34] [] [] ?_
 refine wT 1 0 .sh d (fun hw3 hl4 => ?_)
 refine blL1 (K0 r names) implevaluated_e0 d [] (fun k0 s0 => [(13, .o 147208 s0), (38, .i ((k0 : Nat) : Int))]) [13, 38] (fun y0 => [(13, .o 147358 y0)]) [2, 13, 36, 37, 38] (fun k0 s0 => List.length s0 ≤ k0) (Yw [(2240, 147208)] (by kernel_rfl)) (by simp) (fun k0 s0 hk0 hI0 => ?_) (fun k0 s0 hk0 hI0 => ?_) (fun y0 hD0 => ?_)
 ·
  have hA0_0 := hI0.2
  obtain ⟨a0, hx0⟩ := Xt (l := d) (i := k0) hk0
  refine su Qa [(39, .b true)] [] [] [] (pe 0 (Qk (decide_eq_true (p := ((k0 : Nat) : Int) < (d.length : Int)) (by omega))) p0) ?_
  refine Qb ?_
  refine ckT ?_
  refine Qg ?_
  refine Qb ?_
  refine Qs ?_
  refine su Qa [(15, .p 15 0)] [39] [(15, [.s a0.1, .h a0.2])] [] (pn 0 hx0 p0) ?_
  refine su Qa [(16, .p 16 0)] [] [(16, [.s a0.1, .e 1])] [] (p0) ?_
  refine Qb ?_
  refine su Qa [(49, .b (!(Q8 names a0.1)))] [] [] [] (pc 3 (slicesContains_string_a names a0.1) p0) ?_
  refine ck (!(Q8 names a0.1)) (fun h5 => ?_) (fun h5 => ?_)
  ·
   have h5n : (Q8 names a0.1) = false := bnot_t h5
   refine rn Qa [1, 2, 3, 4, 8, 9, 10, 11, 13, 16, 36, 37, 38] [4, 16] (pc 3 (implResultIDs_a r a0.1) p0) ?_
   refine wT 13 0 (.own true 147208) s0 (fun hw6 hl7 => ?_)
   refine qu Qa [(13, .one (.slc (.own true 3712) 2 ((eL s0) ++ [[.s a0.1, .h (Ye r a0.1)]])))] [13, 15, 16, 49] [] [15, 16] (pa s0 [(a0.1, (Ye r a0.1))] p0) ?_
   refine eqn [(13, .o 3712 (s0 ++ [(a0.1, (Ye r a0.1))]))] [13] [] [] (by rw [show ((eL s0) ++ [[.s a0.1, .h (Ye r a0.1)]]) = (eL (s0 ++ [(a0.1, (Ye r a0.1))])) from app_eL (rfl) (rfl)]; first | done | kernel_rfl) ?_
   refine ru Qa [(38, .i ((k0 + 1 : Nat) : Int))] [38] [] [] (pe 0 (J7 (Qp k0 (by omega))) p0) ?_
   exact Exists.intro (s0 ++ [(a0.1, (Ye r a0.1))]) (And.intro (Yw [(3712, 147208)] (by kernel_rfl)) ⟨Qu hx0 (Xw h5 (rfl)) hI0.1, by first | omega | (simp; omega) | simp⟩)
  have h5n : (Q8 names a0.1) = true := Zl h5
  refine Qg ?_
  refine wT 13 0 (.own true 147208) s0 (fun hw8 hl9 => ?_)
  refine ru Qa [(13, .one (.slc (.own true 3712) 2 ((eL s0) ++ [[.s a0.1, .slc 1 []]])))] [13, 15, 16, 49] [] [15, 16] (pa s0 [((a0.1, []) : Qh)] p0) ?_
  refine eqn [(13, .o 3712 (s0 ++ [((a0.1, []) : Qh)]))] [13] [] [] (by rw [show ((eL s0) ++ [[.s a0.1, .slc 1 []]]) = (eL (s0 ++ [((a0.1, []) : Qh)])) from app_eL (rfl) (rfl)]; first | done | kernel_rfl) ?_
  refine ru Qa [(38, .i ((k0 + 1 : Nat) : Int))] [38] [] [] (pe 0 (J7 (Qp k0 (by omega))) p0) ?_
  exact Exists.intro (s0 ++ [((a0.1, []) : Qh)]) (And.intro (Yw [(3712, 147208)] (by kernel_rfl)) ⟨Qu hx0 (Qm h5 (rfl)) hI0.1, by first | omega | (simp; omega) | simp⟩)
 ·
  have hA0_0 := hI0.2
  refine su Qa [(39, .b false)] [] [] [] (pe 0 (Qk (decide_eq_false (p := ((k0 : Nat) : Int) < (d.length : Int)) (by omega))) p0) ?_
  refine Qb ?_
  refine ckF ?_
  refine Q7 ?_
  exact Exists.intro _ (And.intro (Yw [(147208, 147358)] (by kernel_rfl)) (Xx hk0 (rfl) hI0.1))
 refine su Qa [(17, .i 0)] [] [] [] (p0) ?_
 refine Qb ?_
 refine su Qa [(18, .i 0)] [] [] [] (p0) ?_
 refine blN1b (implevaluated_f1 s_ d names) implevaluated_e1 (Int.toNat ((Kk d) + 1)) (y0, 0) (fun k1 s1 => [(13, .o 147358 s1.1), (17, .i s1.2), (18, .i ((k1 : Nat) : Int))]) [13, 17, 18] (fun _ _ => []) [] (fun y1 => [(13, .o 147358 y1.1), (17, .i y1.2)]) [1, 3, 4, 11, 13, 17, 18] (fun _ => []) [4] (fun k1 s1 => EvS d ((Qj d)).1 (onD d names) s_.2.1 (((k1 : Nat)) : Int) s1.1 ∧ List.length s1.1 = List.length d) wf0 ⟨(by first | exact Ko hD0 | exact Ko hD0.1 | exact evS_len (fs := s_.2.1) (Ko hD0) | exact evS_len (fs := s_.2.1) (Ko hD0.1)), (by first | exact Ko hD0 | exact Ko hD0.1 | exact evS_len (fs := s_.2.1) (Ko hD0) | exact evS_len (fs := s_.2.1) (Ko hD0.1))⟩ (fun k1 s1 hk1 hI1 => ?_) (fun k1 s1 hk1 hI1 => ?_) (fun y1 hD1 => ?_)
 ·
  have hA1_0 := hI1.2.1
  have hA1_1 := hI1.2.2
  refine Qb ?_
  refine su Qa [(63, .b true)] [] [] [] (pc 2 (implMaxStratum_a d) (pe 3 (Qk (decide_eq_true (p := ((k1 : Nat) : Int) ≤ (Kk d)) (by omega))) p0)) ?_
  refine ckT ?_
  refine Qg ?_
  refine Qb ?_
  refine Qs ?_
  refine su Qa [(19, .b true)] [63] [] [] (p0) ?_
  refine blw (fun (s2 : (List Qh) × Int × Bool) => [(13, .o 147358 s2.1), (17, .i s2.2.1), (19, .b s2.2.2)]) [13, 17, 19] (fun s2 => []) [] (fun (y2 : (List Qh) × Int) => [(13, .o 147358 y2.1), (17, .i y2.2)]) [13, 17, 19] (fun y2 => []) [] (fun (k2 : Nat) (s2 : (List Qh) × Int × Bool) => whl (Jh s_ d names k1) k2 s2 = some (whlD (Jh s_ d names k1) (List.length d * List.length s_.2.1 + 2) (s1.1, s1.2, true)) ∧ List.length s2.1 = List.length d) (fun (y2 : (List Qh) × Int) => (whlD (Jh s_ d names k1) (List.length d * List.length s_.2.1 + 2) (s1.1, s1.2, true)) = .brk y2) (List.length d * List.length s_.2.1 + 2) (s1.1, s1.2, true) wf0 ⟨whl_some (evaluated_w (by assumption) (by assumption)), (by assumption)⟩ (fun _ h => whl_zero h.1) (fun k2 s2 hI2 => ?_) (fun y2 hD2 => ?_)
  ·
   have hA2_0 := hI2.2
   refine Qb ?_
   refine su Qa [(66, .b s2.2.2)] [] [] [] (p0) ?_
   refine ck s2.2.2 (fun h10 => ?_) (fun h10 => ?_)
   ·
    refine Qg ?_
    refine Qs ?_
    refine su Qa [(19, .b false)] [19, 66] [] [] (p0) ?_
    refine sn Qa [1, 3, 4, 8, 9, 10, 11, 13, 17, 18, 19] [4] (p0) ?_
    refine tn Qa [1, 3, 4, 8, 9, 10, 11, 13, 17, 18, 19, 69, 70, 71] [4] (pl 1 d p0) ?_
    refine mz [(17, .i (IntKind.i64.wrap (s2.2.1 + 1))), (69, .h d), (70, .i (d.length : Int)), (71, .i 0)] [17] [] [] ?_
    refine blL3 (J4 s_ d names k1) implevaluated_e3 d (s2.1, false) (fun k3 s3 => [(13, .o 147358 s3.1), (19, .b s3.2), (71, .i ((k3 : Nat) : Int))]) [13, 19, 71] (fun y3 => [(13, .o 147358 y3.1), (19, .b y3.2)]) [13, 19, 69, 70, 71] (fun _ s3 => List.length s3.1 = List.length s2.1) (fun y3 => List.length y3.1 = List.length s2.1) wf0 (by simp) (fun k3 s3 hk3 hI3 => ?_) (fun k3 s3 hk3 hI3 => ?_) (fun y3 hD3 => ?_)
    ·
     have hA3_0 := hI3.2
     obtain ⟨a3, hx3⟩ := Xt (l := d) (i := k3) hk3
     refine su Qa [(72, .b true)] [] [] [] (pe 0 (Qk (decide_eq_true (p := ((k3 : Nat) : Int) < (d.length : Int)) (by omega))) p0) ?_
     refine Qb ?_
     refine ckT ?_
     refine Qg ?_
     refine Qb ?_
     refine Qs ?_
     refine sn Qa [1, 3, 4, 8, 9, 10, 11, 13, 17, 18, 19, 20, 21, 69, 70, 71] [4, 21] (pn 1 hx3 p0) ?_
     refine Qb ?_
     refine Qb ?_
     refine mz [(20, .i ((k3 : Nat) : Int)), (21, .p 21 0)] [72] [(21, [.s a3.1, .h a3.2])] [] ?_
     refine jn [(88, .b (((nth (((Qj d)).1) k3) != ((k1 : Nat) : Int)) || (!(Q8 names a3.1))))] [] [] [] ((nth (((Qj d)).1) k3) != ((k1 : Nat) : Int)) (fun h11 => ?_) (fun h11 => ?_) ?_
     ·
      have h11d := ne_of_bne h11
      refine wT 11 0 (.own true 1600) (((Qj d)).1) (fun hw13 hl14 => ?_)
      have hx12 := ng (((Qj d)).1) k3
      refine ru Qa [(88, .b true)] [] [] [] (pN 2 hx12 (pt 5 h11 p0)) ?_
      exact ⟨rfl, Qd (by rw [h11] <;> kernel_rfl)⟩
     ·
      have h11d := eq_of_bne h11
      refine wT 11 0 (.own true 1600) (((Qj d)).1) (fun hw16 hl17 => ?_)
      have hx15 := ng (((Qj d)).1) k3
      refine ru Qa [(88, .b (!(Q8 names a3.1)))] [] [] [] (pN 2 hx15 (pf 5 h11 (pc 10 (slicesContains_string_a names a3.1) p0))) ?_
      exact ⟨rfl, Qd (by rw [h11] <;> kernel_rfl)⟩
     refine ck (((nth (((Qj d)).1) k3) != ((k1 : Nat) : Int)) || (!(Q8 names a3.1))) (fun h18 => ?_) (fun h18 => ?_)
     ·
      refine Q7 ?_
      refine rn Qa [1, 3, 4, 8, 9, 10, 11, 13, 17, 18, 19, 69, 70, 71] [4] (pe 0 (J7 (Qp k3 (by omega))) p0) ?_
      exact xw (s3.1, s3.2) ⟨Qu hx3 (Xw h18 (rfl)) hI3.1, (by first | omega | (simp only [List.length_set]; omega))⟩
     have h18l : (((nth (((Qj d)).1) k3) != ((k1 : Nat) : Int))) = false := or_l h18
     have h18ld := eq_of_bne h18l
     have h18r : ((!(Q8 names a3.1))) = false := or_r h18
     have h18rn : (Q8 names a3.1) = true := Zl h18r
     refine Qg ?_
     refine su Qa [(22, .o 5952 (X6 s_ a3.2 s3.1))] [21, 88] [] [21] (pc 4 (implSelectFiles_a s_ a3.2 s3.1) p0) ?_
     refine wT 13 0 (.own true 147358) s3.1 (fun hw20 hl21 => ?_)
     have hx19 := ng s3.1 k3
     refine sn Qa [1, 3, 4, 8, 9, 10, 11, 13, 17, 18, 19, 20, 22, 69, 70, 71, 101] [4] (pN 3 hx19 (pc 6 (slicesEqual_int_a (X6 s_ a3.2 s3.1) ((nth s3.1 k3).2)) p0)) ?_
     refine ck (!(Jx (X6 s_ a3.2 s3.1) ((nth s3.1 k3).2))) (fun h22 => ?_) (fun h22 => ?_)
     ·
      have h22n : (Jx (X6 s_ a3.2 s3.1) ((nth s3.1 k3).2)) = false := bnot_t h22
      refine tu Qa [(13, .one (.slc (.own true 147358) 2 (setRow (eL s3.1) k3 1 [.h (X6 s_ a3.2 s3.1)])))] [13, 20, 22] [] [] (pN 3 hx19 p0) ?_
      refine eqn [(13, .o 147358 (List.set s3.1 k3 ((nth s3.1 k3).1, (X6 s_ a3.2 s3.1))))] [13] [] [] (by rw [Jr (y := ((nth s3.1 k3).1, (X6 s_ a3.2 s3.1))) hx19 rfl] <;> kernel_rfl) ?_
      refine ru Qa [(19, .b true)] [19] [] [] (p0) ?_
      refine ru Qa [(71, .i ((k3 + 1 : Nat) : Int))] [71] [] [] (pe 0 (J7 (Qp k3 (by omega))) p0) ?_
      exact xw (List.set s3.1 k3 ((nth s3.1 k3).1, (X6 s_ a3.2 s3.1)), true) ⟨Qu hx3 (Qm h18 (Xw h22 (rfl))) hI3.1, (by first | omega | (simp only [List.length_set]; omega))⟩
     have h22n : (Jx (X6 s_ a3.2 s3.1) ((nth s3.1 k3).2)) = true := Zl h22
     refine Qg ?_
     refine qu Qa [(71, .i ((k3 + 1 : Nat) : Int))] [20, 22, 71] [] [] (pe 0 (J7 (Qp k3 (by omega))) p0) ?_
     exact xw (s3.1, s3.2) ⟨Qu hx3 (Qm h18 (Qm h22 (rfl))) hI3.1, (by first | omega | (simp only [List.length_set]; omega))⟩
    ·
     have hA3_0 := hI3.2
     refine su Qa [(72, .b false)] [] [] [] (pe 0 (Qk (decide_eq_false (p := ((k3 : Nat) : Int) < (d.length : Int)) (by omega))) p0) ?_
     refine Qb ?_
     refine ckF ?_
     refine Q7 ?_
     exact xw (s3.1, s3.2) ⟨Xx hk3 (rfl) hI3.1, by first | omega | (simp only [List.length_set]; omega)⟩
    have hD3_0 := hD3.2
    exact xw (y3.1, IntKind.i64.wrap (s2.2.1 + 1), y3.2) ⟨wn hI2.1 (Xw h10 (on_b hD3.1 (rfl))), (by first | omega | (simp only [List.length_set]; omega))⟩
   refine Q7 ?_
   exact xw _ (wb hI2.1 (Qm h10 (rfl)))
  refine rn Qa [1, 3, 4, 8, 9, 10, 11, 13, 17, 18] [4] (pe 1 (J7 (Qp k1 (by omega))) p0) ?_
  exact xw (y2.1, y2.2) ⟨J9 hk1 (on_b hD2 (rfl)) hI1.1, (by first | exact evaluated_next (by assumption) (by assumption) (by assumption) | exact evS_len (fs := s_.2.1) (evaluated_next (by assumption) (by assumption) (by assumption))), (by first | exact evaluated_next (by assumption) (by assumption) (by assumption) | exact evS_len (fs := s_.2.1) (evaluated_next (by assumption) (by assumption) (by assumption)))⟩
 ·
  have hA1_0 := hI1.2.1
  have hA1_1 := hI1.2.2
  refine Qb ?_
  refine su Qa [(63, .b false)] [] [] [] (pc 2 (implMaxStratum_a d) (pe 3 (Qk (decide_eq_false (p := ((k1 : Nat) : Int) ≤ (Kk d)) (by omega))) p0)) ?_
  refine ckF ?_
  refine Q7 ?_
  exact xw _ (forN_end hk1 (rfl) hI1.1)
 refine sn Qa [8, 9, 10] [] (p0) ?_
 refine Qf ?_
 exact pz [] (show Zz s_ d r names = _ from Qm h2 (on_b hD0 (on_b hD1 (rfl)))) (fun z => .tup [(false, [.o 0 z.1]), (false, [.i z.2.1]), (false, [.b z.2.2])])
def Jm (s_ : Yv) (d : (List Y7)) : (List Qh) × Bool := (((Zz s_ d [] (Zn d))).1, ((Zz s_ d [] (Zn d))).2.2)
theorem implEvaluate_a (s_ : Yv) (d : (List Y7)) : ACalls Tryz.prog 57 [.a [.h s_.1, .h s_.2.1, .i s_.2.2], .h d] (.tup [(false, [.o 0 (((Jm s_ d)).1)]), (false, [.b (((Jm s_ d)).2)])]) := by
 refine en Qa Tryz.func57 fun w0 F0 hG => ?_
 refine sn Qa [1, 2, 4, 5] [2] (p0) ?_
 refine tN Qa Y2 [4, 5, 6, 8] [] (pc 3 (implDirNames_a d) (pc 4 (acalls_args (.cons (ArgLe.rfl _) ( .cons (ArgLe.rfl _) ( .cons (ArgLe.nil 2) ( .cons (ArgLe.rfl _) (.nil))))) (implevaluated_a s_ d [] (Zn d))) p0)) ?_
 refine tu Qa [(4, .o 896 (((Zz s_ d [] (Zn d))).1)), (5, .b (((Zz s_ d [] (Zn d))).2.2))] [0, 1] [] [] (p0) ?_
 refine Qf ?_
 exact pz [] (show Jm s_ d = (((Zz s_ d [] (Zn d))).1, ((Zz s_ d [] (Zn d))).2.2) from rfl) (fun z => .tup [(false, [.o 0 z.1]), (false, [.b z.2])])
def Vf (_ : Nat) (a0 : Int) (s0 : Int) : Rd (Int) (Int) (Int) := (bif decide (a0 > s0) then (.next a0) else (.next s0))
def specMaxStratum_e0 (_ : Nat) (s0 : Int) : Int := s0
def Kl (d : (List Y7)) : Int := (Out.on (Xz Vf specMaxStratum_e0 (((Xg d)).1) 0 (-1)) (fun y0 => y0))
theorem specMaxStratum_a (d : (List Y7)) : ACalls Tryz.prog 104 [.h d] (.i (Kl d)) := by
 refine en Qa Tryz.func104 fun w0 F0 hG => ?_
 refine sn Qa [0, 2] [] (p0) ?_
 refine tn Qa [2, 3] [] (pc 1 (specStrata_a d) p0) ?_
 refine tu Qa [(2, .i 0), (3, .o 576 (((Xg d)).1)), (5, .i (-1))] [0] [] [] (p0) ?_
 refine Qb ?_
 refine sn Qa [2, 3, 5, 6] [] (p0) ?_
 refine mz [(6, .i 0)] [] [] [] ?_
 refine wT 3 0 (.own true 576) (((Xg d)).1) (fun hw1 hl2 => ?_)
 refine blL0 Vf specMaxStratum_e0 (((Xg d)).1) (-1) (fun k0 s0 => [(5, .i s0), (6, .i ((k0 : Nat) : Int))]) [5, 6] (fun y0 => [(5, .i y0)]) [3, 5, 6] wf0 (fun k0 s0 hk0 hI0 => ?_) (fun k0 s0 hk0 hI0 => ?_) (fun y0 hD0 => ?_)
 ·
  obtain ⟨a0, hx0⟩ := Xt (l := ((Xg d)).1) (i := k0) hk0
  refine Qb ?_
  refine sn Qa [2, 3, 5, 6, 15] [] (pl 2 (((Xg d)).1) (pe 3 (Qk (decide_eq_true (p := ((k0 : Nat) : Int) < ((((Xg d)).1).length : Int)) (by omega))) p0)) ?_
  refine ckT ?_
  refine Qg ?_
  refine Qb ?_
  refine Qs ?_
  refine tn Qa [2, 3, 5, 6, 23] [] (pN 2 hx0 p0) ?_
  refine ck (decide (a0 > s0)) (fun h3 => ?_) (fun h3 => ?_)
  ·
   have h3d := of_decide_eq_true h3
   refine qu Qa [(5, .i a0)] [5] [] [] (pN 2 hx0 p0) ?_
   refine rn Qa [2, 3, 5, 6] [] (pe 1 (J7 (Qp k0 (by omega))) p0) ?_
   exact xw _ (Qu hx0 (Xw h3 (rfl)) hI0)
  have h3d := of_decide_eq_false h3
  refine Qg ?_
  refine qu Qa [(6, .i ((k0 + 1 : Nat) : Int))] [6] [] [] (pe 1 (J7 (Qp k0 (by omega))) p0) ?_
  exact xw _ (Qu hx0 (Qm h3 (rfl)) hI0)
 ·
  refine Qb ?_
  refine sn Qa [2, 3, 5, 6, 15] [] (pl 2 (((Xg d)).1) (pe 3 (Qk (decide_eq_false (p := ((k0 : Nat) : Int) < ((((Xg d)).1).length : Int)) (by omega))) p0)) ?_
  refine ckF ?_
  refine Q7 ?_
  exact xw _ (Xx hk0 (rfl) hI0)
 refine sn Qa [2] [] (p0) ?_
 refine Qf ?_
 exact pi [] (on_b hD0 (rfl))
def specl15Run_f0 (_ : Nat) (a0 : Y7) (s0 : (List Qh)) : Rd ((List Qh) × Int × Bool) ((List Qh)) ((List Qh)) := (.next (s0 ++ [((a0.1, []) : Qh)]))
def specl15Run_e0 (_ : Nat) (s0 : (List Qh)) : (List Qh) := s0
def specl15Run_f3 (s_ : Yv) (d : (List Y7)) (k1 : Nat) (k3 : Nat) (a3 : Y7) (s3 : (List Qh) × Bool) : Rd (Rd (Rd ((List Qh) × Int × Bool) ((List Qh) × Int) ((List Qh) × Int)) ((List Qh) × Int × Bool) ((List Qh) × Int)) ((List Qh) × Bool) ((List Qh) × Bool) := (bif ((nth (((Xg d)).1) k3) != ((k1 : Nat) : Int)) then (.next (s3.1, s3.2)) else (bif (!(Kx (Ys s_ a3.2 s3.1) ((nth s3.1 k3).2))) then (.next (List.set s3.1 k3 ((nth s3.1 k3).1, (Ys s_ a3.2 s3.1)), true)) else (.next (s3.1, s3.2))))
def specl15Run_e3 (_ : Nat) (s3 : (List Qh) × Bool) : (List Qh) × Bool := (s3.1, s3.2)
def K7 (s_ : Yv) (d : (List Y7)) (k1 : Nat) (s2 : (List Qh) × Int × Bool) : Rd (Rd ((List Qh) × Int × Bool) ((List Qh) × Int) ((List Qh) × Int)) ((List Qh) × Int × Bool) ((List Qh) × Int) := (bif s2.2.2 then (Out.on (Xz (specl15Run_f3 s_ d k1) specl15Run_e3 d 0 (s2.1, false)) (fun y3 => (.next (y3.1, IntKind.i64.wrap (s2.2.1 + 1), y3.2)))) else (.brk (s2.1, s2.2.1)))
def specl15Run_f1 (s_ : Yv) (d : (List Y7)) (k1 : Nat) (s1 : (List Qh) × Int) : Rd ((List Qh) × Int × Bool) ((List Qh) × Int) ((List Qh) × Int) := (Out.on (whlD (K7 s_ d k1) (List.length d * List.length s_.2.1 + 2) (s1.1, s1.2, true)) (fun y2 => (.next (y2.1, y2.2))))
def specl15Run_e1 (_ : Nat) (s1 : (List Qh) × Int) : (List Qh) × Int := (s1.1, s1.2)
def Vg (s_ : Yv) (d : (List Y7)) : (List Qh) × Int × Bool := (bif ((!(((Xg d)).2)) || (!(Zf s_))) then ([], 0, false) else (Out.on (Xz specl15Run_f0 specl15Run_e0 d 0 []) (fun y0 => (Out.on (Vs (specl15Run_f1 s_ d) specl15Run_e1 (Int.toNat ((Kl d) + 1)) 0 (y0, 0)) (fun y1 => (y1.1, y1.2, true))))))
theorem maxS_go {B : Int} : ∀ (x : List Int) (k : Nat) (s : Int), (∀ a, a ∈ x → a ≤ B) → s ≤ B → ∃ t, Xz Vf specMaxStratum_e0 x k s = .brk t ∧ t ≤ B
 | [], k, s, _, h => ⟨s, rfl, h⟩
 | a :: x, k, s, hx, h => by
  simp only [Xz, Vf]
  cases hc : decide (a > s) with
  | true => exact maxS_go x (k + 1) a (fun b hb => hx b (List.mem_cons_of_mem _ hb)) (hx a (List.mem_cons_self ..))
  | false => exact maxS_go x (k + 1) s (fun b hb => hx b (List.mem_cons_of_mem _ hb)) h
theorem strata_factsS {d : List Y7} (h : ((Xg d)).2 = true) : List.length ((Xg d)).1 = List.length d ∧ List.length d ≤ 5 ∧ Kl d ≤ 5 := by
 have h' := h
 rw [strata_alike] at h'
 obtain ⟨h1, h2, h3⟩ := strata_small h'
 unfold Kl
 rw [strata_alike]
 obtain ⟨t, e, ht⟩ := maxS_go (B := 5) ((Qj d)).1 0 (-1) (fun a ha => (h3 a ha).2) (by omega)
 refine ⟨h1, h2, ?_⟩
 rw [e]; exact ht
theorem l15Run_step (s_ : Yv) (d : List Y7) (k1 : Nat) : StepE s_ d (Qj d).1 (fun _ => true) (k1 : Int) (specl15Run_f3 s_ d k1) := by
 intro k a o c hk
 unfold specl15Run_f3 actD
 rw [ints_dec, strata_alike, ← select_eq]
 simp only [bne]
 cases (nth (Qj d).1 k == (k1 : Int)) <;> rfl
section
variable {s_ : Yv} {d : List Y7} {k1 : Nat} {o : List Qh} {p : Int}
theorem l15Run_run (hS : ((Xg d)).2 = true) (h : EvS d ((Xg d)).1 (fun _ => true) s_.2.1 (k1 : Int) o) : ∃ o' p', whl (K7 s_ d k1) (List.length d * List.length s_.2.1 + 2) (o, p, true) = some (.brk (o', p')) ∧ EvS d ((Xg d)).1 (fun _ => true) s_.2.1 ((k1 : Int) + 1) o' := by
 rw [strata_alike] at hS h ⊢
 exact ev_run (f := specl15Run_f3 s_ d k1) (e := specl15Run_e3) (l15Run_step s_ d k1) (fun _ _ => rfl) (fun _ => rfl) (Prod.ext rfl hS) h p
theorem l15Run_w (hS : ((Xg d)).2 = true) (h : EvS d ((Xg d)).1 (fun _ => true) s_.2.1 (((k1 : Nat)) : Int) o) : (whl (K7 s_ d k1) (List.length d * List.length s_.2.1 + 2) (o, p, true)).isSome = true := by
 obtain ⟨o', p', h1, _⟩ := l15Run_run (p := p) hS h
 rw [h1]; rfl
theorem l15Run_next {y : List Qh × Int} (hS : ((Xg d)).2 = true) (h : EvS d ((Xg d)).1 (fun _ => true) s_.2.1 (((k1 : Nat)) : Int) o) (hy : whlD (K7 s_ d k1) (List.length d * List.length s_.2.1 + 2) (o, p, true) = .brk y) : EvS d ((Xg d)).1 (fun _ => true) s_.2.1 ((((k1 + 1) : Nat)) : Int) y.1 := by
 obtain ⟨o', p', h1, h2⟩ := l15Run_run (p := p) hS h
 unfold whlD at hy
 rw [h1] at hy
 have e : (o', p') = y := by simpa using hy
 rw [← e, Int.natCast_add]; exact h2
theorem l15Run_start (hy : Xz specl15Run_f0 specl15Run_e0 d 0 [] = .brk o) : EvS d ((Xg d)).1 (fun _ => true) s_.2.1 (((0 : Nat)) : Int) o := by
 obtain ⟨h1, h2⟩ := ev_start (L := ((Xg d)).1) (on := fun _ => true) (fs := s_.2.1) (g := fun _ => []) (f := specl15Run_f0) (e := specl15Run_e0) (d := d) (fun k a s => rfl) (fun j _ hj => rfl)
 rw [h1] at hy
 have e : (d.map fun a => ((a.1, ([] : List Int)) : Qh)) = o := Out.brk.inj hy
 rw [← e]; exact h2
end
theorem specl15Run_a (s_ : Yv) (d : (List Y7)) : ACalls Tryz.prog 79 [.a [.h s_.1, .h s_.2.1, .i s_.2.2], .h d] (.tup [(false, [.o 0 (((Vg s_ d)).1)]), (false, [.i (((Vg s_ d)).2.1)]), (false, [.b (((Vg s_ d)).2.2)])]) := by
 refine en Qa Tryz.func79 fun w0 F0 hG => ?_
 refine sn Qa [1, 2, 4, 5, 6] [2] (p0) ?_
 refine tn Qa [1, 2, 4, 5, 6, 7, 8] [2] (pc 1 (specStrata_a d) p0) ?_
 refine Qb ?_
 refine Qb ?_
 refine mz [(2, .p 2 0), (4, .e 0), (5, .i 0), (6, .b false), (7, .o 1152 (((Xg d)).1)), (8, .b (((Xg d)).2))] [0] [(2, [.h s_.1, .h s_.2.1, .i s_.2.2])] [] ?_
 refine jn [(27, .b ((!(((Xg d)).2)) || (!(Zf s_))))] [8] [] [] (!(((Xg d)).2)) (fun h1 => ?_) (fun h1 => ?_) ?_
 ·
  have h1n : (((Xg d)).2) = false := bnot_t h1
  refine ru Qa [(27, .b true)] [8] [] [] (pf 0 h1n (pe 1 (show .b (!false) = .b true from rfl) p0)) ?_
  exact ⟨rfl, Qd (by rw [h1] <;> kernel_rfl)⟩
 ·
  have h1n : (((Xg d)).2) = true := Zl h1
  have h1nsf := strata_factsS h1n
  refine rn Qa [1, 2, 4, 5, 6, 7, 27] [2] (pt 0 h1n (pe 1 (show .b (!true) = .b false from rfl) (pc 4 (specIsValidStore_a s_) p0))) ?_
  exact ⟨rfl, Qd (by rw [h1] <;> kernel_rfl)⟩
 refine ck ((!(((Xg d)).2)) || (!(Zf s_))) (fun h2 => ?_) (fun h2 => ?_)
 ·
  refine sn Qa [1, 2, 4, 5, 6, 7] [2] (p0) ?_
  refine Qf ?_
  exact pz [] (show Vg s_ d = _ from Xw h2 (rfl)) (fun z => .tup [(false, [.o 0 z.1]), (false, [.i z.2.1]), (false, [.b z.2.2])])
 have h2l : ((!(((Xg d)).2))) = false := or_l h2
 have h2ln : (((Xg d)).2) = true := Zl h2l
 have h2lnsf := strata_factsS h2ln
 have h2r : ((!(Zf s_))) = false := or_r h2
 have h2rn : (Zf s_) = true := Zl h2r
 refine Qg ?_
 refine sn Qa [1, 2, 4, 5, 6, 7, 9] [2] (p0) ?_
 refine Qb ?_
 refine tn Qa [1, 2, 4, 5, 6, 7, 9, 10] [2] (p0) ?_
 refine mz [(9, .one (.slc (.own true 1856) 2 [])), (10, .i 0)] [27] [] [] ?_
 refine wT 1 0 .sh d (fun hw3 hl4 => ?_)
 refine blL1 specl15Run_f0 specl15Run_e0 d [] (fun k0 s0 => [(9, .o 147206 s0), (10, .i ((k0 : Nat) : Int))]) [9, 10] (fun y0 => [(9, .o 147356 y0)]) [9, 10] (fun k0 s0 => List.length s0 ≤ k0) (Yw [(1856, 147206)] (by kernel_rfl)) (by simp) (fun k0 s0 hk0 hI0 => ?_) (fun k0 s0 hk0 hI0 => ?_) (fun y0 hD0 => ?_)
 ·
  have hA0_0 := hI0.2
  obtain ⟨a0, hx0⟩ := Xt (l := d) (i := k0) hk0
  refine Qb ?_
  refine su Qa [(33, .b true)] [] [] [] (pl 2 d (pe 3 (Qk (decide_eq_true (p := ((k0 : Nat) : Int) < (d.length : Int)) (by omega))) p0)) ?_
  refine ckT ?_
  refine Qg ?_
  refine Qb ?_
  refine Qs ?_
  refine wT 9 0 (.own true 147206) s0 (fun hw5 hl6 => ?_)
  refine ru Qa [(9, .one (.slc (.own true 2880) 2 ((eL s0) ++ [[.s a0.1, .slc 1 []]])))] [9, 33] [] [] (pn 3 hx0 (pa s0 [((a0.1, []) : Qh)] p0)) ?_
  refine eqn [(9, .o 2880 (s0 ++ [((a0.1, []) : Qh)]))] [9] [] [] (by rw [show ((eL s0) ++ [[.s a0.1, .slc 1 []]]) = (eL (s0 ++ [((a0.1, []) : Qh)])) from app_eL (rfl) (rfl)]; first | done | kernel_rfl) ?_
  refine rn Qa [1, 2, 4, 5, 6, 7, 9, 10] [2] (pe 1 (J7 (Qp k0 (by omega))) p0) ?_
  exact Exists.intro (s0 ++ [((a0.1, []) : Qh)]) (And.intro (Yw [(2880, 147206)] (by kernel_rfl)) ⟨Qu hx0 (rfl) hI0.1, by first | omega | (simp; omega) | simp⟩)
 ·
  have hA0_0 := hI0.2
  refine Qb ?_
  refine su Qa [(33, .b false)] [] [] [] (pl 2 d (pe 3 (Qk (decide_eq_false (p := ((k0 : Nat) : Int) < (d.length : Int)) (by omega))) p0)) ?_
  refine ckF ?_
  refine Q7 ?_
  exact Exists.intro _ (And.intro (Yw [(147206, 147356)] (by kernel_rfl)) (Xx hk0 (rfl) hI0.1))
 refine su Qa [(11, .i 0)] [] [] [] (p0) ?_
 refine Qb ?_
 refine su Qa [(12, .i 0)] [] [] [] (p0) ?_
 refine blN1b (specl15Run_f1 s_ d) specl15Run_e1 (Int.toNat ((Kl d) + 1)) (y0, 0) (fun k1 s1 => [(9, .o 147356 s1.1), (11, .i s1.2), (12, .i ((k1 : Nat) : Int))]) [9, 11, 12] (fun _ _ => []) [] (fun y1 => [(9, .o 147356 y1.1), (11, .i y1.2)]) [1, 2, 7, 9, 11, 12] (fun _ => []) [2] (fun k1 s1 => EvS d ((Xg d)).1 (fun _ => true) s_.2.1 (((k1 : Nat)) : Int) s1.1 ∧ List.length s1.1 = List.length d) wf0 ⟨(by first | exact l15Run_start hD0 | exact l15Run_start hD0.1 | exact evS_len (fs := s_.2.1) (l15Run_start hD0) | exact evS_len (fs := s_.2.1) (l15Run_start hD0.1)), (by first | exact l15Run_start hD0 | exact l15Run_start hD0.1 | exact evS_len (fs := s_.2.1) (l15Run_start hD0) | exact evS_len (fs := s_.2.1) (l15Run_start hD0.1))⟩ (fun k1 s1 hk1 hI1 => ?_) (fun k1 s1 hk1 hI1 => ?_) (fun y1 hD1 => ?_)
 ·
  have hA1_0 := hI1.2.1
  have hA1_1 := hI1.2.2
  refine Qb ?_
  refine su Qa [(49, .b true)] [] [] [] (pc 2 (specMaxStratum_a d) (pe 3 (Qk (decide_eq_true (p := ((k1 : Nat) : Int) ≤ (Kl d)) (by omega))) p0)) ?_
  refine ckT ?_
  refine Qg ?_
  refine Qb ?_
  refine Qs ?_
  refine su Qa [(13, .b true)] [49] [] [] (p0) ?_
  refine blw (fun (s2 : (List Qh) × Int × Bool) => [(9, .o 147356 s2.1), (11, .i s2.2.1), (13, .b s2.2.2)]) [9, 11, 13] (fun s2 => []) [] (fun (y2 : (List Qh) × Int) => [(9, .o 147356 y2.1), (11, .i y2.2)]) [9, 11, 13] (fun y2 => []) [] (fun (k2 : Nat) (s2 : (List Qh) × Int × Bool) => whl (K7 s_ d k1) k2 s2 = some (whlD (K7 s_ d k1) (List.length d * List.length s_.2.1 + 2) (s1.1, s1.2, true)) ∧ List.length s2.1 = List.length d) (fun (y2 : (List Qh) × Int) => (whlD (K7 s_ d k1) (List.length d * List.length s_.2.1 + 2) (s1.1, s1.2, true)) = .brk y2) (List.length d * List.length s_.2.1 + 2) (s1.1, s1.2, true) wf0 ⟨whl_some (l15Run_w (by assumption) (by assumption)), (by assumption)⟩ (fun _ h => whl_zero h.1) (fun k2 s2 hI2 => ?_) (fun y2 hD2 => ?_)
  ·
   have hA2_0 := hI2.2
   refine Qb ?_
   refine su Qa [(52, .b s2.2.2)] [] [] [] (p0) ?_
   refine ck s2.2.2 (fun h7 => ?_) (fun h7 => ?_)
   ·
    refine Qg ?_
    refine Qs ?_
    refine su Qa [(13, .b false)] [13, 52] [] [] (p0) ?_
    refine sn Qa [1, 2, 4, 5, 6, 7, 9, 11, 12, 13] [2] (p0) ?_
    refine tn Qa [1, 2, 4, 5, 6, 7, 9, 11, 12, 13, 14] [2] (p0) ?_
    refine mz [(11, .i (IntKind.i64.wrap (s2.2.1 + 1))), (14, .i 0)] [11] [] [] ?_
    refine blL3 (specl15Run_f3 s_ d k1) specl15Run_e3 d (s2.1, false) (fun k3 s3 => [(9, .o 147356 s3.1), (13, .b s3.2), (14, .i ((k3 : Nat) : Int))]) [9, 13, 14] (fun y3 => [(9, .o 147356 y3.1), (13, .b y3.2)]) [9, 13, 14] (fun _ s3 => List.length s3.1 = List.length s2.1) (fun y3 => List.length y3.1 = List.length s2.1) wf0 (by simp) (fun k3 s3 hk3 hI3 => ?_) (fun k3 s3 hk3 hI3 => ?_) (fun y3 hD3 => ?_)
    ·
     have hA3_0 := hI3.2
     obtain ⟨a3, hx3⟩ := Xt (l := d) (i := k3) hk3
     refine Qb ?_
     refine su Qa [(58, .b true)] [] [] [] (pl 2 d (pe 3 (Qk (decide_eq_true (p := ((k3 : Nat) : Int) < (d.length : Int)) (by omega))) p0)) ?_
     refine ckT ?_
     refine Qg ?_
     refine Qb ?_
     refine Qs ?_
     refine Qb ?_
     refine wT 7 0 (.own true 1152) (((Xg d)).1) (fun hw9 hl10 => ?_)
     have hx8 := ng (((Xg d)).1) k3
     refine sn Qa [1, 2, 4, 5, 6, 7, 9, 11, 12, 13, 14, 66] [2] (pN 2 hx8 p0) ?_
     refine ck ((nth (((Xg d)).1) k3) != ((k1 : Nat) : Int)) (fun h11 => ?_) (fun h11 => ?_)
     ·
      have h11d := ne_of_bne h11
      refine Q7 ?_
      refine qn Qa [1, 2, 4, 5, 6, 7, 9, 11, 12, 13, 14] [2] (pe 1 (J7 (Qp k3 (by omega))) p0) ?_
      exact xw (s3.1, s3.2) ⟨Qu hx3 (Xw h11 (rfl)) hI3.1, (by first | omega | (simp only [List.length_set]; omega))⟩
     have h11d := eq_of_bne h11
     refine Qg ?_
     refine tN Qa Y2 [1, 2, 4, 5, 6, 7, 9, 11, 12, 13, 14, 15] [2] (pn 3 hx3 (pc 7 (specSelectFiles_a s_ a3.2 s3.1) p0)) ?_
     refine wT 9 0 (.own true 147356) s3.1 (fun hw13 hl14 => ?_)
     have hx12 := ng s3.1 k3
     refine tu Qa [(15, .o 4736 (Ys s_ a3.2 s3.1)), (82, .b (!(Kx (Ys s_ a3.2 s3.1) ((nth s3.1 k3).2))))] [58] [] [] (pN 3 hx12 (pc 6 (specl07Ints_a (Ys s_ a3.2 s3.1) ((nth s3.1 k3).2)) p0)) ?_
     refine ck (!(Kx (Ys s_ a3.2 s3.1) ((nth s3.1 k3).2))) (fun h15 => ?_) (fun h15 => ?_)
     ·
      have h15n : (Kx (Ys s_ a3.2 s3.1) ((nth s3.1 k3).2)) = false := bnot_t h15
      refine su Qa [(9, .one (.slc (.own true 147356) 2 (setRow (eL s3.1) k3 1 [.h (Ys s_ a3.2 s3.1)])))] [9, 15, 82] [] [] (pN 3 hx12 p0) ?_
      refine eqn [(9, .o 147356 (List.set s3.1 k3 ((nth s3.1 k3).1, (Ys s_ a3.2 s3.1))))] [9] [] [] (by rw [Jr (y := ((nth s3.1 k3).1, (Ys s_ a3.2 s3.1))) hx12 rfl] <;> kernel_rfl) ?_
      refine ru Qa [(13, .b true)] [13] [] [] (p0) ?_
      refine rn Qa [1, 2, 4, 5, 6, 7, 9, 11, 12, 13, 14] [2] (pe 1 (J7 (Qp k3 (by omega))) p0) ?_
      exact xw (List.set s3.1 k3 ((nth s3.1 k3).1, (Ys s_ a3.2 s3.1)), true) ⟨Qu hx3 (Qm h11 (Xw h15 (rfl))) hI3.1, (by first | omega | (simp only [List.length_set]; omega))⟩
     have h15n : (Kx (Ys s_ a3.2 s3.1) ((nth s3.1 k3).2)) = true := Zl h15
     refine Qg ?_
     refine rn Qa [1, 2, 4, 5, 6, 7, 9, 11, 12, 13, 14] [2] (pe 1 (J7 (Qp k3 (by omega))) p0) ?_
     exact xw (s3.1, s3.2) ⟨Qu hx3 (Qm h11 (Qm h15 (rfl))) hI3.1, (by first | omega | (simp only [List.length_set]; omega))⟩
    ·
     have hA3_0 := hI3.2
     refine Qb ?_
     refine su Qa [(58, .b false)] [] [] [] (pl 2 d (pe 3 (Qk (decide_eq_false (p := ((k3 : Nat) : Int) < (d.length : Int)) (by omega))) p0)) ?_
     refine ckF ?_
     refine Q7 ?_
     exact xw (s3.1, s3.2) ⟨Xx hk3 (rfl) hI3.1, by first | omega | (simp only [List.length_set]; omega)⟩
    have hD3_0 := hD3.2
    exact xw (y3.1, IntKind.i64.wrap (s2.2.1 + 1), y3.2) ⟨wn hI2.1 (Xw h7 (on_b hD3.1 (rfl))), (by first | omega | (simp only [List.length_set]; omega))⟩
   refine Q7 ?_
   exact xw _ (wb hI2.1 (Qm h7 (rfl)))
  refine rn Qa [1, 2, 4, 5, 6, 7, 9, 11, 12] [2] (pe 1 (J7 (Qp k1 (by omega))) p0) ?_
  exact xw (y2.1, y2.2) ⟨J9 hk1 (on_b hD2 (rfl)) hI1.1, (by first | exact l15Run_next (by assumption) (by assumption) (by assumption) | exact evS_len (fs := s_.2.1) (l15Run_next (by assumption) (by assumption) (by assumption))), (by first | exact l15Run_next (by assumption) (by assumption) (by assumption) | exact evS_len (fs := s_.2.1) (l15Run_next (by assumption) (by assumption) (by assumption)))⟩
 ·
  have hA1_0 := hI1.2.1
  have hA1_1 := hI1.2.2
  refine Qb ?_
  refine su Qa [(49, .b false)] [] [] [] (pc 2 (specMaxStratum_a d) (pe 3 (Qk (decide_eq_false (p := ((k1 : Nat) : Int) ≤ (Kl d)) (by omega))) p0)) ?_
  refine ckF ?_
  refine Q7 ?_
  exact xw _ (forN_end hk1 (rfl) hI1.1)
 refine sn Qa [4, 5, 6] [] (p0) ?_
 refine Qf ?_
 exact pz [] (show Vg s_ d = _ from Qm h2 (on_b hD0 (on_b hD1 (rfl)))) (fun z => .tup [(false, [.o 0 z.1]), (false, [.i z.2.1]), (false, [.b z.2.2])])
def Va (s_ : Yv) (d : (List Y7)) : (List Qh) × Bool := (((Vg s_ d)).1, ((Vg s_ d)).2.2)
theorem specEvaluate_a (s_ : Yv) (d : (List Y7)) : ACalls Tryz.prog 43 [.a [.h s_.1, .h s_.2.1, .i s_.2.2], .h d] (.tup [(false, [.o 0 (((Va s_ d)).1)]), (false, [.b (((Va s_ d)).2)])]) := by
 refine en Qa Tryz.func43 fun w0 F0 hG => ?_
 refine sn Qa [1, 2, 4, 5] [2] (p0) ?_
 refine tn Qa [4, 5, 6, 8] [] (pc 2 (specl15Run_a s_ d) p0) ?_
 refine tu Qa [(4, .o 768 (((Vg s_ d)).1)), (5, .b (((Vg s_ d)).2.2))] [0, 1] [] [] (p0) ?_
 refine Qf ?_
 exact pz [] (show Va s_ d = (((Vg s_ d)).1, ((Vg s_ d)).2.2) from rfl) (fun z => .tup [(false, [.o 0 z.1]), (false, [.b z.2])])
end
section
open Go.RowKit
theorem contains_iff (v : ByteArray) (l : List ByteArray) : Q8 l v = true ↔ v ∈ l := by
  unfold Q8 slicesIndex_string
  have key : ∀ (l : List ByteArray) (k : Nat), (0 : Int) ≤ ((Xz (Kn v) V8 l k ()).on fun _ => -1) ↔ v ∈ l := by
    intro l
    induction l with
    | nil => intro k; simp [Xz, Out.on]
    | cons a l ih =>
      intro k
      simp only [Xz, Kn]
      have hab : (v.toList == a.toList) = decide (v = a) := toList_inj
      cases hc : (v.toList == a.toList) with
      | true =>
        obtain rfl : v = a := by rw [hc] at hab; exact of_decide_eq_true hab.symm
        simp [Out.on]
      | false =>
        have h : v ≠ a := by rw [hc] at hab; exact of_decide_eq_false hab.symm
        simp only [cond_false]
        refine (ih (k + 1)).trans ?_
        simp [h]
  exact decide_eq_true_iff.trans (key l 0)
theorem dirNames_eq (d : List Y7) : Zn d = d.map (·.1) := by
  unfold Zn
  rw [forL_map (f := implDirNames_f0) (g := fun a : Y7 => a.1) (fun _ _ _ => rfl)]
  simp [Out.on, implDirNames_e0]
theorem contains_dir {d : List Y7} {i : Nat} {a : Y7} (h : d[i]? = some a) : Q8 (Zn d) a.1 = true := by
  rw [contains_iff, dirNames_eq]
  exact List.mem_map.2 ⟨a, List.mem_of_getElem? h, rfl⟩
/-! ### the greatest stratum -/
theorem max_fold (x : List Int) : ∀ (n k : Nat) (s : Int), k + 1 + n = x.length → Vs (Vv x) slicesMax_int_e0 n k s = .brk ((x.drop (k + 1)).foldl max s)
  | 0, k, s, h => by rw [List.drop_eq_nil_of_le (by omega)]; rfl
  | n + 1, k, s, h => by
    have hg : x[k + 1]? = some (nth x (k + 1)) := nth_get (by omega)
    rw [drop_at hg]
    simp only [Vs, Vv, List.foldl_cons]
    exact max_fold x n (k + 1) _ (by omega)
theorem maxS_fold : ∀ (x : List Int) (k : Nat) (s : Int), Xz Vf specMaxStratum_e0 x k s = .brk (x.foldl max s)
  | [], k, s => rfl
  | a :: x, k, s => by
    simp only [Xz, Vf, List.foldl_cons]
    by_cases h : a > s
    · rw [decide_eq_true h, cond_true, show max s a = a by omega]; exact maxS_fold x (k + 1) a
    rw [decide_eq_false h, cond_false, show max s a = s by omega]; exact maxS_fold x (k + 1) s
theorem maxStratum_eq (d : List Y7) : Kl d = Kk d := by
  unfold Kl Kk
  rw [strata_alike, maxS_fold]
  simp only [Out.on]
  cases hs : (Qj d).2 with
  | false =>
    have : (Qj d).1 = [] := by
      unfold Qj at hs ⊢
      cases hv : Zs d with
      | false => rfl
      | true =>
        rw [hv] at hs
        simp only [Bool.not_true, cond_false] at hs ⊢
        have h5 := vdirs_len hv
        have hw := whl_climb (d := d) (f := V3 d) (e := V4) (F := Ki d) (fun _ _ _ => rfl) (fun _ _ => rfl) (fun _ => rfl) (by omega) (d.length * d.length + 3) (List.replicate d.length 0) true (zeroL_ok _).1 (zeroL_ok _).2
        have hsome : (climb (Z1 d) d.length d.length (d.length * d.length + 3) (true, List.replicate d.length 0)).isSome = true := by
          have := implStrata_w d h5
          rw [Int.toNat_natCast, hw, Option.isSome_map] at this
          exact this
        obtain ⟨r, hr⟩ := Option.isSome_iff_exists.1 hsome
        unfold whlD at hs ⊢
        rw [Int.toNat_natCast, hw, hr] at hs ⊢
        cases r with
        | none => rfl
        | some M => simp [endD, Out.on] at hs
    rw [this]; rfl
  | true =>
    obtain ⟨h1, h2, h3⟩ := strata_small hs
    simp only [Bool.not_true, Bool.false_or]
    generalize (Qj d).1 = x at h3
    cases x with
    | nil => rfl
    | cons a x =>
      have h0 := (h3 a (List.mem_cons_self ..)).1
      have e : ((((a :: x).length : Nat) : Int) == (0 : Int)) = false := by
        rw [beq_eq_false_iff_ne, List.length_cons]; omega
      rw [e, cond_false]
      unfold slicesMax_int
      rw [max_fold _ _ _ _ (by simp; omega)]
      simp only [Out.on, List.foldl_cons, Nat.zero_add, List.drop_succ_cons, List.drop_zero]
      have e2 : nth (a :: x) 0 = a := rfl
      rw [show max (-1) a = a by omega, e2]
/-! ### the evaluation -/
theorem l15_f3 (s : Yv) (d : List Y7) (k1 k : Nat) (a : Y7) (t : List Qh × Bool) (h : d[k]? = some a) : specl15Run_f3 s d k1 k a t = J4 s d (Zn d) k1 k a t := by
  unfold specl15Run_f3 J4
  rw [contains_dir h, strata_alike, ← select_eq, ints_dec, eqI_dec]
  simp
theorem l15_f2 (s : Yv) (d : List Y7) (k1 : Nat) : K7 s d k1 = Jh s d (Zn d) k1 := by
  funext t
  unfold K7 Jh
  rw [forL_congr (f := specl15Run_f3 s d k1) (g := J4 s d (Zn d) k1) (e := specl15Run_e3) (e' := implevaluated_e3) (fun _ _ => rfl) d 0 _ (fun i a t h => by rw [Nat.zero_add]; exact l15_f3 s d k1 i a t h)]
theorem l15_eq (s : Yv) (d : List Y7) : Vg s d = Zz s d [] (Zn d) := by
  unfold Vg Zz
  rw [strata_alike, store_eq, maxStratum_eq]
  rw [forL_congr (f := specl15Run_f0) (g := K0 [] (Zn d)) (e := specl15Run_e0) (e' := implevaluated_e0) (fun _ _ => rfl) d 0 _ (fun i a t h => by unfold specl15Run_f0 K0; rw [contains_dir h]; rfl)]
  congr 1
  congr 1
  funext y
  rw [show specl15Run_f1 s d = implevaluated_f1 s d (Zn d) from by funext k t; unfold specl15Run_f1 implevaluated_f1; rw [l15_f2]]
  rfl
theorem evaluate_eq (s : Yv) (d : List Y7) : Va s d = Jm s d := by
  unfold Va Jm
  rw [l15_eq]
def cutL (c : UInt8) : List UInt8 → List (List UInt8)
  | [] => [[]]
  | b :: l => if b = c then [] :: cutL c l else match cutL c l with
    | [] => [[b]]
    | p :: ps => (b :: p) :: ps
theorem cutL_ne (c : UInt8) : ∀ l : List UInt8, ∃ p ps, cutL c l = p :: ps
  | [] => ⟨[], [], rfl⟩
  | b :: l => by
    obtain ⟨p, ps, h⟩ := cutL_ne c l
    simp only [cutL, h]
    split
    · exact ⟨_, _, rfl⟩
    exact ⟨_, _, rfl⟩
theorem splitK_cut (c : UInt8) : ∀ l : List UInt8, Lib.splitK [c] 0 (l.count c) l = cutL c l
  | [] => rfl
  | b :: l => by
    have ih := splitK_cut c l
    by_cases h : b = c
    · subst h
      rw [List.count_cons_self]
      have hix : Lib.index (b :: l) [b] = 0 := by rw [Lib.index]; simp [List.isPrefixOf]
      rw [Lib.splitK, hix, cutL, if_pos rfl, ← ih]
      rfl
    rw [List.count_cons_of_ne (by simpa using h), cutL, if_neg h, ← ih]
    have hp : ([c] : List UInt8).isPrefixOf (b :: l) = false := by simp [List.isPrefixOf, Ne.symm h]
    have hix : Lib.index (b :: l) [c] = if Lib.index l [c] == -1 then -1 else Lib.index l [c] + 1 := by rw [Lib.index, hp]; simp
    cases hk : l.count c with
    | zero => rfl
    | succ k =>
      have hge := Lib.index_ge l [c]
      simp only [Lib.splitK]
      by_cases hm : Lib.index l [c] = -1
      · rw [hix, hm]; rfl
      rw [hix, if_neg (fun e => hm (beq_iff_eq.1 e))]
      obtain ⟨j, hj⟩ : ∃ j : Nat, Lib.index l [c] = j := ⟨(Lib.index l [c]).toNat, by omega⟩
      rw [hj, if_neg (by simp; omega), if_neg (by simp)]
      have e1 : ((j : Int) + 1).toNat = j + 1 := by omega
      have e2 : ((j : Nat) : Int).toNat = j := by omega
      simp only [e1, e2, Nat.add_zero, List.length_cons, List.length_nil]
      rfl
def bytesOf (l : List UInt8) : ByteArray := ⟨l.toArray⟩
theorem bytesOf_list (s : ByteArray) : bytesOf s.data.toList = s := by cases s; simp [bytesOf]
def strCut (c : UInt8) (s : ByteArray) : List ByteArray := (cutL c s.data.toList).map bytesOf
theorem split_cut (c : UInt8) (s : ByteArray) : Lib.splitB ⟨#[c]⟩ 0 (Lib.countB s ⟨#[c]⟩) s = strCut c s := by
  have h := Lib.splitB_data ⟨#[c]⟩ 0 (Lib.countB s ⟨#[c]⟩) s
  have e : Lib.countB s ⟨#[c]⟩ = s.data.toList.count c := Lib.count_one c s.data.toList
  rw [e] at h ⊢
  rw [show (⟨#[c]⟩ : ByteArray).data.toList = [c] from rfl, splitK_cut] at h
  unfold strCut
  rw [← h, List.map_map]
  rw [show (bytesOf ∘ fun x : ByteArray => x.data.toList) = id from funext bytesOf_list, List.map_id]
theorem cutL_len (c : UInt8) : ∀ l : List UInt8, (cutL c l).length ≤ l.length + 1 ∧ ∀ p, p ∈ cutL c l → p.length ≤ l.length
  | [] => ⟨Nat.le_refl _, fun p hp => by rw [List.mem_singleton.1 hp]; exact Nat.le_refl _⟩
  | b :: l => by
    obtain ⟨h1, h2⟩ := cutL_len c l
    obtain ⟨p0, ps, h⟩ := cutL_ne c l
    simp only [cutL]
    split
    · refine ⟨Nat.succ_le_succ h1, fun p hp => ?_⟩
      rcases List.mem_cons.1 hp with rfl | hp
      · exact Nat.zero_le _
      exact Nat.le_succ_of_le (h2 p hp)
    rw [h] at h1 h2 ⊢
    refine ⟨Nat.le_succ_of_le h1, fun p hp => ?_⟩
    rcases List.mem_cons.1 hp with rfl | hp
    · exact Nat.succ_le_succ (h2 p0 (List.mem_cons_self ..))
    exact Nat.le_succ_of_le (h2 p (List.mem_cons_of_mem _ hp))
theorem strCut_len (c : UInt8) (s : ByteArray) : (strCut c s).length ≤ s.size + 1 ∧ ∀ x, x ∈ strCut c s → x.size ≤ s.size := by
  obtain ⟨h1, h2⟩ := cutL_len c s.data.toList
  have e : s.data.toList.length = s.size := Array.length_toList
  refine ⟨by unfold strCut; rw [List.length_map]; omega, fun x hx => ?_⟩
  obtain ⟨p, hp, rfl⟩ := List.mem_map.1 hx
  have := h2 p hp
  show p.toArray.size ≤ _
  rw [List.size_toArray]
  omega
section
variable {P : Program}
theorem texts_rows (w : World) (F : Nat → Prop) : ∀ l : List ByteArray, (∀ x, x ∈ l → x.size ≤ maxLen) → VR F w 1 (l.map Value.string) (eL l)
  | [], _ => .nil 1
  | a :: l, h => VR.cons (ce := [.string a]) (.cons (.str (h a (List.mem_cons_self ..))) .nil) rfl (texts_rows w F l fun x hx => h x (List.mem_cons_of_mem _ hx))
theorem ret_texts {F : Nat → Prop} {w : World} {l : List ByteArray} {t : TypeId} (hn : 0 < l.length) (hl : l.length ≤ 1073741824) (hs : ∀ x, x ∈ l → x.size ≤ maxLen) :
    ARet F w (.o 0 l) (.returned (.slice (some ⟨w.heap.size, 0, none⟩) l.length l.length)) (w.alloc (.cells (l.map Value.string).toArray t)) := by
  have hg : (w.alloc (.cells (l.map Value.string).toArray t)).heap[w.heap.size]? = some (.cells (l.map Value.string).toArray t (0, 0)) := Array.getElem?_push_size
  have hlt := Ql hg
  refine ⟨_, fun k => if k = 0 then [w.heap.size] else [], rfl, (Below.refl _ _).alloc (Nat.le_refl _) _, fun k => ?_, fun k b hb => ?_, fun k k' b hb hb' => ?_, ?_⟩
  · show (if k = 0 then _ else _ : List Nat).Nodup
    split <;> simp
  · have hb : b ∈ (if k = 0 then [w.heap.size] else [] : List Nat) := hb
    split at hb
    · obtain rfl := List.mem_singleton.1 hb
      exact ⟨Nat.le_refl _, hlt⟩
    simp at hb
  · have hb : b ∈ (if k = 0 then [w.heap.size] else [] : List Nat) := hb
    have hb' : b ∈ (if k' = 0 then [w.heap.size] else [] : List Nat) := hb'
    split at hb <;> split at hb'
    · rename_i e1 e2; rw [e1, e2]
    all_goals simp_all
  show OwnDeep (if 0 = 0 then [w.heap.size] else []) _ _ 1 (eL l)
  rw [if_pos rfl]
  refine .of ?_ (by simp)
  have hR := VR.orr (w' := w.alloc (.cells (l.map Value.string).toArray t)) (texts_rows w F l hs) (flat_eL l)
  have hc : maxLen ≥ l.length := by unfold maxLen; omega
  have := OV.slc (w := w.alloc (.cells (l.map Value.string).toArray t)) (n := 1) (cap := l.length) (l := eL l) (L := []) hg (by simp) (by rw [Ym, Nat.mul_one, List.take_of_length_le (by simp)]; exact hR) (by rw [Ym]; exact Nat.le_refl _) ⟨hc, by rw [Ym]; exact hl⟩
  rwa [Ym] at this
theorem acalls_split {f : Nat} (hok : FnOk P f) {c : UInt8} {t : TypeId} {s : ByteArray} (hp : s.size ≤ 1073741000)
    (h : ∀ w, Good P w → Calls P f #[.string s, .string ⟨#[c]⟩] w fun e w' => e = .returned (.slice (some ⟨w.heap.size, 0, none⟩) (Lib.countB s ⟨#[c]⟩ + 1) (Lib.countB s ⟨#[c]⟩ + 1)) ∧ w' = w.alloc (.cells ((Lib.splitB ⟨#[c]⟩ 0 (Lib.countB s ⟨#[c]⟩) s).map Value.string).toArray t)) :
    ACalls P f [.s s, .s ⟨#[c]⟩] (.o 0 (strCut c s)) := by
  refine ⟨hok, fun w hg F vals hF hall => ?_⟩
  cases hall with
  | cons h1 h2 =>
    cases h2 with
    | cons h2 h3 =>
      cases h3
      obtain ⟨rfl, _⟩ := h1
      obtain ⟨rfl, _⟩ := h2
      refine (h w hg).mono ?_
      rintro e w' ⟨rfl, rfl⟩
      obtain ⟨g1, g2⟩ := strCut_len c s
      have hlen : Lib.countB s ⟨#[c]⟩ + 1 = (strCut c s).length := by rw [← split_cut, Lib.splitB_all ⟨#[c]⟩ (Nat.le_refl 1) 0 _ s rfl]
      rw [split_cut, hlen]
      exact ret_texts (by rw [← hlen]; exact Nat.succ_pos _) (by omega) fun x hx => by have := g2 x hx; unfold maxLen; omega
end
end
section
open Go.RowKit
open GoD (rd own)
def inR (n lo hi : Int) : Bool := decide (lo ≤ n) && decide (n ≤ hi)
theorem inR_true {n lo hi : Int} (h1 : lo ≤ n) (h2 : n ≤ hi) : inR n lo hi = true := by simp [inR, h1, h2]
end
section
open Go.RowKit
open GoD (rd own)
theorem below_gd (w : World) (k : Nat) (os : Array Obj) : Below w.heap.size w (Go.Sort.grow (w.drewN k) os) :=
  ⟨rfl, rfl, rfl, by rw [Go.Sort.size_grow]; exact Nat.le_add_right _ _, fun j hj => by
    unfold Go.Sort.grow
    rw [Array.getElem?_append, if_pos (by exact hj)]
    rfl⟩
theorem figure_c (w : World) (d : Nat) (hd : d < 10) : Calls Tryz.prog 111 #[.int .i64 d] w (Ret w (.int .u8 (48 + (d : Int)))) := by
  have h1 : (d : Int) < 10 := by omega
  have h2 : IntKind.i64.wrap (48 + (d : Int)) = 48 + (d : Int) := by rw [IntKind.wrap_i64]; omega
  go_enter Tryz.func111, Tryz.ntmps111
  go_wp2
  go_ret
  exact ⟨rfl, Below.refl _ _⟩
def tabOk (w : World) : Prop := Lib.TabIs Tryz.prog w "internal/strconv.uint64pow10" .u64 Lib.pow10Tab
theorem gTab : Tryz.prog.globalNamed "internal/strconv.uint64pow10" = some 3 := by kernel_rfl
theorem tabOk.keep {w w' : World} (h : tabOk w) (hb : Below w.heap.size w w') : tabOk w' := Go.Joins.tab_stays gTab h hb (Nat.le_refl _)
def Y3 (n : Int) : ByteArray := ⟨(Lib.itoa n).toArray⟩
theorem implFormatInt_c (w : World) (n : Int) (hn : I64 n) (ht : tabOk w) : Calls Tryz.prog 126 #[.int .i64 n] w (Ret w (.string (Y3 n))) := by
  have hcon := Sh.strconv_Itoa n hn.1 hn.2 w ht
  rw [show (⟨(Lib.itoa n).toArray⟩ : ByteArray) = Y3 n from rfl] at hcon
  generalize Y3 n = s at *
  clear ht hn
  go_enter Tryz.func126, Tryz.ntmps126
  go_wp2_with (go_at_call 156; refine hcon.mono ?_; rintro e w' ⟨rfl, k, os, rfl⟩; have hb := below_gd w k os; generalize Go.Sort.grow (w.drewN k) os = w9 at *)
  go_ret
  exact ⟨rfl, hb⟩
theorem dig_len : ∀ (k u : Nat), u < 10 ^ (k + 1) → (Lib.decDigits u).length ≤ k + 1
  | 0, u, h => by rw [Lib.decDigits, dif_pos (by simpa using h)]; simp
  | k + 1, u, h => by
    rw [Lib.decDigits]
    split
    · simp
    have := dig_len k (u / 10) (by rw [Nat.pow_succ] at h; omega)
    simp only [List.length_append, List.length_singleton]
    omega
theorem numeral_size {n : Int} (h : inR n 0 1000000000 = true) : (Y3 n).size ≤ 10 := by
  unfold inR at h
  simp only [Bool.and_eq_true, decide_eq_true_eq] at h
  have h1 := dig_len 9 n.toNat (by omega)
  unfold Y3 Lib.itoa
  rw [if_neg (by omega)]
  show (Lib.decDigits n.toNat).toArray.size ≤ 10
  simp only [List.size_toArray]
  omega
theorem dig_step {n : Nat} (h : ¬ n < 10) : Lib.decDigits n = Lib.decDigits (n / 10) ++ [UInt8.ofNat (48 + n % 10)] := by rw [Lib.decDigits, dif_neg h]
theorem dig_small {n : Nat} (h : n < 10) : Lib.decDigits n = [UInt8.ofNat (48 + n)] := by rw [Lib.decDigits, dif_pos h]
def restDig (n : Nat) : List UInt8 := if n = 0 then [] else Lib.decDigits n
theorem rest_step {n : Nat} (h : n ≠ 0) (t : List UInt8) : restDig (n / 10) ++ (UInt8.ofNat (48 + n % 10) :: t) = restDig n ++ t := by
  unfold restDig
  rw [if_neg h]
  by_cases h10 : n < 10
  · rw [if_pos (by omega), dig_small h10, show n % 10 = n by omega]; rfl
  rw [if_neg (by omega), dig_step h10]; simp
theorem one_byte (d : Nat) (hd : d < 10) (s : ByteArray) : (⟨#[UInt8.ofNat (48 + d)]⟩ : ByteArray) ++ s = ⟨(UInt8.ofNat (48 + d) :: s.data.toList).toArray⟩ := by
  apply ByteArray.ext
  rw [ByteArray.data_append]
  apply Array.toList_inj.1
  simp
set_option maxRecDepth 20000 in
theorem specFormatInt_c (w : World) (n : Int) (hn : I64 n) (hr : inR n 0 1000000000 = true) : Calls Tryz.prog 83 #[.int .i64 n] w (Ret w (.string (Y3 n))) := by
  unfold inR at hr
  simp only [Bool.and_eq_true, decide_eq_true_eq] at hr
  obtain ⟨m, rfl⟩ : ∃ m : Nat, n = m := ⟨n.toNat, by omega⟩
  have hm : m < 2000000000 := by omega
  clear hr hn
  have hnum : Y3 (m : Int) = ⟨(Lib.decDigits m).toArray⟩ := by
    unfold Y3 Lib.itoa
    rw [if_neg (by omega)]
    rfl
  generalize Y3 (m : Int) = res at *
  have HRES := Lib.hid hnum; clear hnum
  by_cases h0 : m = 0
  · subst h0
    have hr : res = ⟨#[48]⟩ := by rw [HRES.out, dig_small (by omega)]; rfl
    subst hr
    clear HRES
    go_enter Tryz.func83, Tryz.ntmps83
    go_wp2
    go_ret
    exact ⟨rfl, Below.refl _ _⟩
  have hm0 : ¬ ((m : Int) = 0) := by omega
  have hm1 : ¬ ((m : Int) < 0) := by omega
  go_enter Tryz.func83, Tryz.ntmps83
  go_wp2
  go_loopw [0, 4] (fun i s wr => ∃ (k : Nat) (t : ByteArray), k < 2000000000 ∧ i = .int .i64 k ∧ s = .string t ∧ t.size ≤ 2000000000 - k ∧ Below w.heap.size w wr ∧ Hid (restDig k ++ t.data.toList = Lib.decDigits m)) (fun i _ _ => (intOf i).toNat)
  case atStart => exact ⟨m, ⟨#[]⟩, hm, rfl, rfl, by simp [ByteArray.size], Below.refl _ _, Lib.hid (by unfold restDig; rw [if_neg h0]; simp)⟩
  case round =>
    obtain ⟨k, t, hk, rfl, rfl, hts, hB, hd⟩ := hrel
    by_cases hk0 : k = 0
    · subst hk0
      have hrt : res = t := by
        have h1 := hd.out
        unfold restDig at h1
        rw [if_pos rfl, List.nil_append] at h1
        rw [HRES.out, ← h1]
      subst hrt
      clear HRES hd
      go_wp2
      go_ret
      exact ⟨rfl, hB⟩
    have hk1 : ¬ ((k : Int) = 0) := by omega
    have hd10 : k % 10 < 10 := Nat.mod_lt _ (by decide)
    have hd0 : ¬ ((k : Int) % 10 < 0) := by omega
    have hcv : ∀ g : World, (convert 104 9 (.slice (some ⟨g.heap.size, 0, none⟩) 1 1)).run Tryz.prog (g.alloc (.cells #[.int .u8 (48 + (k : Int) % 10)] 5)) = .ok (.string ⟨#[UInt8.ofNat (48 + k % 10)]⟩) (g.alloc (.cells #[.int .u8 (48 + (k : Int) % 10)] 5)) := fun g => by
      have h := Lib.run_convert_whole (P := Tryz.prog) (g.alloc (.cells #[.int .u8 (48 + (k : Int) % 10)] 5)) 104 5 9 Tryz.underlying104 Tryz.underlying5 Tryz.underlying9 g.heap.size 0 ⟨#[UInt8.ofNat (48 + k % 10)]⟩ (fun i hi => by
        have hi0 : i = 0 := by have : i < 1 := hi; omega
        subst hi0
        have he : (48 + (k : Int) % 10) = ((UInt8.ofNat (48 + k % 10)).toNat : Int) := by rw [UInt8.toNat_ofNat']; omega
        show (g.alloc _).cell? ⟨g.heap.size, 0 + 0, none⟩ = some (.int .u8 ((UInt8.ofNat (48 + k % 10)).toNat : Int))
        rw [← he]
        simp [go_sem]) 1
      exact h
    go_wp2_with (go_at_call 111; have hfg := (fun w1 => figure_c w1 (k % 10) hd10); rw [show (((k % 10 : Nat)) : Int) = (k : Int) % 10 by omega] at hfg; refine Kq (w := w) (hfg _) (by go_grown) ?_; clear hfg; intro g1 hG1 hb hz1 hz2; clear hb)
    go_roundw
    case rel => exact ⟨k / 10, ⟨#[UInt8.ofNat (48 + k % 10)]⟩ ++ t, by omega, by first | rfl | go_num, by rw [UInt8.ofNat_add]; rfl, by rw [ByteArray.size_append]; have : (⟨#[UInt8.ofNat (48 + k % 10)]⟩ : ByteArray).size = 1 := rfl; omega, by go_grown, Lib.hid (by rw [one_byte _ hd10]; show restDig (k / 10) ++ (UInt8.ofNat (48 + k % 10) :: t.data.toList) = _; rw [rest_step hk0]; exact hd.out)⟩
    case measure => simp [intOf]; omega
section
variable {P : Program}
theorem acalls_int_str {f : Nat} (hok : FnOk P f) {n : Int} {s : ByteArray} (hs : s.size ≤ maxLen) (h : ∀ w, Good P w → I64 n → Calls P f #[.int .i64 n] w (Ret w (.string s))) : ACalls P f [.i n] (.s s) := by
  refine ⟨hok, fun w hg F vals hF hall => ?_⟩
  cases hall with
  | cons h1 h2 =>
    cases h2
    obtain ⟨rfl, hi⟩ := h1
    refine (h w hg ((inR_i64 n).1 hi)).mono ?_
    rintro e w' ⟨rfl, hb⟩
    exact ⟨_, fun _ => [], rfl, hb, fun _ => List.nodup_nil, fun k b hm => by simp at hm, fun k k' b hm => by simp at hm, rfl, hs⟩
end
theorem Vw {n : Int} (h : 0 ≤ n ∧ n ≤ 1000000000) : (Y3 n).size ≤ 10 := numeral_size (inR_true h.1 h.2)
theorem implFormatInt_a (n : Int) (h : 0 ≤ n ∧ n ≤ 1000000000) : ACalls Tryz.prog 126 [.i n] (.s (Y3 n)) := acalls_int_str (by unfold FnOk; kernel_rfl) (by have := Vw h; unfold maxLen; omega) fun w hg hn => implFormatInt_c w n hn (hg.tab _ gTab)
theorem specFormatInt_a (n : Int) (h : 0 ≤ n ∧ n ≤ 1000000000) : ACalls Tryz.prog 83 [.i n] (.s (Y3 n)) := acalls_int_str (by unfold FnOk; kernel_rfl) (by have := Vw h; unfold maxLen; omega) fun w _ hn => specFormatInt_c w n hn (inR_true h.1 h.2)
end
section
open Go.RowKit
theorem gMax : Tryz.prog.globalNamed "internal/bytealg.MaxLen" = some 0 := by kernel_rfl
theorem stringsSplit_a (s : ByteArray) (c : UInt8) (hp : s.size ≤ 1073741000) : ACalls Tryz.prog 152 [.s s, .s ⟨#[c]⟩] (.o 0 (strCut c s)) :=
  acalls_split (by unfold FnOk; kernel_rfl) hp fun w hg => by
    obtain ⟨m, hm⟩ := hg.mx _ gMax
    exact Sh.strings_Split s ⟨#[c]⟩ m w (by omega) hm (Nat.le_refl 1)
open GoD (rd own)
instance instGoDU8 : GoD UInt8 where
  n := 1
  rd _ cs a := cs = [.int .u8 (a.toNat : Int)]
  own L _ cs a := L = [] ∧ cs = [.int .u8 (a.toNat : Int)]
  size _ := 0
  mark a k := (a, k + 1)
  markT a k := (a, k)
  rd_len h := by rw [h]; rfl
  rd_same h _ := h
  own_same h _ := h
  own_rd h := h.2
  own_lt h := by rw [h.1]; simp
  own_nd h := by rw [h.1]; simp
  deq := inferInstance
  mk_le _ k := Nat.le_succ k
  mkT_le _ k := Nat.le_refl k
  lv := 1
  lvm := 0
  mk_bd _ k := by simp
  mkT_bd _ k := by simp
theorem Opens.u8 {P : Program} {t : TypeId} (ht : P.underlying t = some (.int .u8)) (hc : P.cellsOf t = 1) : Opens P t UInt8 := by
  refine ⟨hc, Nat.zero_lt_one, fun h => ?_⟩
  obtain ⟨n, rfl, _, hw⟩ := DataW.trod_int ht h
  simp only [Lit.wf, Bool.and_eq_true, decide_eq_true_eq] at hw
  have h1 : 0 ≤ n := hw.1
  have h2 : n ≤ 255 := hw.2
  refine ⟨UInt8.ofNat n.toNat, ?_⟩
  show [Value.int .u8 n] = [Value.int .u8 ((UInt8.ofNat n.toNat).toNat : Int)]
  have e : ((UInt8.ofNat n.toNat).toNat : Int) = n := by rw [UInt8.toNat_ofNat']; omega
  rw [e]
end
section
open Go.RowKit
open GoD (rd own)
theorem inR_u8 (a : UInt8) : InR .u8 (a.toNat : Int) := by
  have h : a.toNat < 256 := a.toNat_lt
  constructor <;> simp [IntKind.min, IntKind.max, IntKind.bits, IntKind.signed] <;> omega
instance instGoEU8 : GoE UInt8 where
  enc a := [.int .u8 (a.toNat : Int)]
  no_any h := by rw [List.mem_singleton.1 h]; simp
  enc_len _ := rfl
  n_pos := Nat.zero_lt_one
  wide _ := True
  wide_size _ := trivial
  vc_wide _ := trivial
  rd_vc {w cs a} h _ := by rw [show cs = _ from h]; exact .cons (.int (inR_u8 a)) .nil
  vc_rd h := by
    cases h with
    | cons h1 h2 => cases h2; cases h1; rfl
  own_oc h _ := by obtain ⟨rfl, h⟩ := h; rw [h]; exact OC.cons (L1 := []) (L2 := []) (.int (inR_u8 _)) .nil
  oc_own h _ := by
    cases h with
    | cons h1 h2 => cases h2; cases h1; exact ⟨rfl, rfl⟩
open GoE (enc wide)
def Vx (d : (List Y7)) : Bool := ((Qj d)).2
theorem implIsStratified_a (d : (List Y7)) : ACalls Tryz.prog 155 [.h d] (.b (Vx d)) := by
 refine en Qa Tryz.func155 fun w0 F0 hG => ?_
 refine sn Qa [0, 2] [] (p0) ?_
 refine tn Qa [2, 4] [] (pc 1 (implStrata_a d) p0) ?_
 refine tu Qa [(2, .b (((Qj d)).2))] [0] [] [] (p0) ?_
 refine Qf ?_
 exact pb [] (show Vx d = ((Qj d)).2 from rfl)
def Qt (x : Xq) : Bool := ((Yd x.1) && (Vx x.2))
theorem implIsValidSnapshot_a (x : Xq) : ACalls Tryz.prog 125 [.a [.h x.1.1, .h x.1.2.1, .i x.1.2.2, .h x.2]] (.b (Qt x)) := by
 refine en Qa Tryz.func125 fun w0 F0 hG => ?_
 refine sn Qa [1, 2] [1] (p0) ?_
 refine Qb ?_
 refine mz [(1, .p 1 0), (2, .b false)] [0] [(1, [.h x.1.1, .h x.1.2.1, .i x.1.2.2, .h x.2])] [] ?_
 refine jn [(2, .b ((Yd x.1) && (Vx x.2)))] [1, 2] [] [1] (Yd x.1) (fun h1 => ?_) (fun h1 => ?_) ?_
 ·
  refine rn Qa [2] [] (pc 2 (cb h1 (implIsValidStore_a x.1)) (pc 6 (implIsStratified_a x.2) p0)) ?_
  exact ⟨rfl, Qd (by rw [h1] <;> kernel_rfl)⟩
 ·
  refine rn Qa [2] [] (pc 2 (cb h1 (implIsValidStore_a x.1)) p0) ?_
  exact ⟨rfl, Qd (by rw [h1] <;> kernel_rfl)⟩
 refine Qf ?_
 exact pb [] (show Qt x = ((Yd x.1) && (Vx x.2)) from rfl)
def Vy (d : (List Y7)) : Bool := ((Xg d)).2
theorem specIsStratified_a (d : (List Y7)) : ACalls Tryz.prog 110 [.h d] (.b (Vy d)) := by
 refine en Qa Tryz.func110 fun w0 F0 hG => ?_
 refine sn Qa [0, 2] [] (p0) ?_
 refine tn Qa [2, 4] [] (pc 1 (specStrata_a d) p0) ?_
 refine tu Qa [(2, .b (((Xg d)).2))] [0] [] [] (p0) ?_
 refine Qf ?_
 exact pb [] (show Vy d = ((Xg d)).2 from rfl)
def Qx (x : Xq) : Bool := ((Zf x.1) && (Vy x.2))
theorem Z8 (x : Xq) : ACalls Tryz.prog 82 [.a [.h x.1.1, .h x.1.2.1, .i x.1.2.2, .h x.2]] (.b (Qx x)) := by
 refine en Qa Tryz.func82 fun w0 F0 hG => ?_
 refine sn Qa [1, 2] [1] (p0) ?_
 refine Qb ?_
 refine mz [(1, .p 1 0), (2, .b false)] [0] [(1, [.h x.1.1, .h x.1.2.1, .i x.1.2.2, .h x.2])] [] ?_
 refine jn [(2, .b ((Zf x.1) && (Vy x.2)))] [1, 2] [] [1] (Zf x.1) (fun h1 => ?_) (fun h1 => ?_) ?_
 ·
  refine rn Qa [2] [] (pc 2 (cb h1 (specIsValidStore_a x.1)) (pc 6 (specIsStratified_a x.2) p0)) ?_
  exact ⟨rfl, Qd (by rw [h1] <;> kernel_rfl)⟩
 ·
  refine rn Qa [2] [] (pc 2 (cb h1 (specIsValidStore_a x.1)) p0) ?_
  exact ⟨rfl, Qd (by rw [h1] <;> kernel_rfl)⟩
 refine Qf ?_
 exact pb [] (show Qx x = ((Zf x.1) && (Vy x.2)) from rfl)
def Yl (f : X4) : ByteArray := (bif (!(Xa f.1)) then ⟨#[]⟩ else (bif (f.2 == (1 : Int)) then (((⟨#[102, 105, 101, 108, 100, 32]⟩ : ByteArray) ++ f.1) ++ (⟨#[32, 105, 110, 116]⟩ : ByteArray)) else (bif (f.2 == (2 : Int)) then (((⟨#[102, 105, 101, 108, 100, 32]⟩ : ByteArray) ++ f.1) ++ (⟨#[32, 115, 116, 114, 105, 110, 103]⟩ : ByteArray)) else ⟨#[]⟩)))
theorem implFormatField_a (f : X4) : ACalls Tryz.prog 157 [.a [.s f.1, .i f.2]] (.s (Yl f)) := by
 refine en Qa Tryz.func157 fun w0 F0 hG => ?_
 refine sn Qa [1, 2] [1] (p0) ?_
 refine Qb ?_
 refine Qs ?_
 refine tn Qa [1, 2, 3] [1] (pc 2 (X5 f.1) p0) ?_
 refine ck (!(Xa f.1)) (fun h1 => ?_) (fun h1 => ?_)
 ·
  refine tu Qa [(2, .s ⟨#[]⟩)] [0] [] [] (p0) ?_
  refine Qf ?_
  exact ps [] (Xw h1 (rfl))
 have h1n : (Xa f.1) = true := Zl h1
 have h1nz := attr1 h1n
 refine tu Qa [(1, .p 1 0), (2, .s ⟨#[]⟩), (8, .b (f.2 == (1 : Int)))] [0] [(1, [.s f.1, .i f.2])] [] (p0) ?_
 refine ck (f.2 == (1 : Int)) (fun h2 => ?_) (fun h2 => ?_)
 ·
  have h2d := eq_of_beq h2
  refine sn Qa [2] [] (px (ob_slen (n := (ByteArray.size (⟨#[102, 105, 101, 108, 100, 32]⟩ : ByteArray) + ByteArray.size f.1)) (by have hq0 : ByteArray.size (⟨#[102, 105, 101, 108, 100, 32]⟩ : ByteArray) = 6 := rfl; unfold maxLen; first | omega | (simp only [ByteArray.size_append]; omega))) (px (ob_slen (n := (ByteArray.size ((⟨#[102, 105, 101, 108, 100, 32]⟩ : ByteArray) ++ f.1) + ByteArray.size (⟨#[32, 105, 110, 116]⟩ : ByteArray))) (by have hq0 : ByteArray.size (⟨#[102, 105, 101, 108, 100, 32]⟩ : ByteArray) = 6 := rfl; have hq1 : ByteArray.size (⟨#[32, 105, 110, 116]⟩ : ByteArray) = 4 := rfl; unfold maxLen; first | omega | (simp only [ByteArray.size_append]; omega))) p0)) ?_
  refine Qf ?_
  exact ps [] (Qm h1 (Xw h2 (rfl)))
 have h2d := Zk h2
 refine sn Qa [1, 2, 16] [1] (p0) ?_
 refine ck (f.2 == (2 : Int)) (fun h3 => ?_) (fun h3 => ?_)
 ·
  have h3d := eq_of_beq h3
  refine tn Qa [2] [] (px (ob_slen (n := (ByteArray.size (⟨#[102, 105, 101, 108, 100, 32]⟩ : ByteArray) + ByteArray.size f.1)) (by have hq0 : ByteArray.size (⟨#[102, 105, 101, 108, 100, 32]⟩ : ByteArray) = 6 := rfl; unfold maxLen; first | omega | (simp only [ByteArray.size_append]; omega))) (px (ob_slen (n := (ByteArray.size ((⟨#[102, 105, 101, 108, 100, 32]⟩ : ByteArray) ++ f.1) + ByteArray.size (⟨#[32, 115, 116, 114, 105, 110, 103]⟩ : ByteArray))) (by have hq0 : ByteArray.size (⟨#[102, 105, 101, 108, 100, 32]⟩ : ByteArray) = 6 := rfl; have hq1 : ByteArray.size (⟨#[32, 115, 116, 114, 105, 110, 103]⟩ : ByteArray) = 7 := rfl; unfold maxLen; first | omega | (simp only [ByteArray.size_append]; omega))) p0)) ?_
  refine Qf ?_
  exact ps [] (Qm h1 (Qm h2 (Xw h3 (rfl))))
 refine Qg ?_
 refine tn Qa [2] [] (p0) ?_
 refine Qf ?_
 exact ps [] (Qm h1 (Qm h2 (Qm h3 (rfl))))
def Zt (f : X4) : ByteArray := (bif (!(Qz f.1)) then ⟨#[]⟩ else (bif (f.2 == (1 : Int)) then (((⟨#[102, 105, 101, 108, 100, 32]⟩ : ByteArray) ++ f.1) ++ (⟨#[32, 105, 110, 116]⟩ : ByteArray)) else (bif (f.2 == (2 : Int)) then (((⟨#[102, 105, 101, 108, 100, 32]⟩ : ByteArray) ++ f.1) ++ (⟨#[32, 115, 116, 114, 105, 110, 103]⟩ : ByteArray)) else ⟨#[]⟩)))
theorem specFormatField_a (f : X4) : ACalls Tryz.prog 112 [.a [.s f.1, .i f.2]] (.s (Zt f)) := by
 refine en Qa Tryz.func112 fun w0 F0 hG => ?_
 refine sn Qa [1, 2] [1] (p0) ?_
 refine Qb ?_
 refine Qs ?_
 refine tn Qa [1, 2, 3] [1] (pc 2 (Xh f.1) p0) ?_
 refine ck (!(Qz f.1)) (fun h1 => ?_) (fun h1 => ?_)
 ·
  refine tu Qa [(2, .s ⟨#[]⟩)] [0] [] [] (p0) ?_
  refine Qf ?_
  exact ps [] (Xw h1 (rfl))
 have h1n : (Qz f.1) = true := Zl h1
 have h1nz := attr1S h1n
 refine tu Qa [(1, .p 1 0), (2, .s ⟨#[]⟩), (8, .b (f.2 == (1 : Int)))] [0] [(1, [.s f.1, .i f.2])] [] (p0) ?_
 refine ck (f.2 == (1 : Int)) (fun h2 => ?_) (fun h2 => ?_)
 ·
  have h2d := eq_of_beq h2
  refine sn Qa [2] [] (px (ob_slen (n := (ByteArray.size (⟨#[102, 105, 101, 108, 100, 32]⟩ : ByteArray) + ByteArray.size f.1)) (by have hq0 : ByteArray.size (⟨#[102, 105, 101, 108, 100, 32]⟩ : ByteArray) = 6 := rfl; unfold maxLen; first | omega | (simp only [ByteArray.size_append]; omega))) (px (ob_slen (n := (ByteArray.size ((⟨#[102, 105, 101, 108, 100, 32]⟩ : ByteArray) ++ f.1) + ByteArray.size (⟨#[32, 105, 110, 116]⟩ : ByteArray))) (by have hq0 : ByteArray.size (⟨#[102, 105, 101, 108, 100, 32]⟩ : ByteArray) = 6 := rfl; have hq1 : ByteArray.size (⟨#[32, 105, 110, 116]⟩ : ByteArray) = 4 := rfl; unfold maxLen; first | omega | (simp only [ByteArray.size_append]; omega))) p0)) ?_
  refine Qf ?_
  exact ps [] (Qm h1 (Xw h2 (rfl)))
 have h2d := Zk h2
 refine sn Qa [1, 2, 16] [1] (p0) ?_
 refine ck (f.2 == (2 : Int)) (fun h3 => ?_) (fun h3 => ?_)
 ·
  have h3d := eq_of_beq h3
  refine tn Qa [2] [] (px (ob_slen (n := (ByteArray.size (⟨#[102, 105, 101, 108, 100, 32]⟩ : ByteArray) + ByteArray.size f.1)) (by have hq0 : ByteArray.size (⟨#[102, 105, 101, 108, 100, 32]⟩ : ByteArray) = 6 := rfl; unfold maxLen; first | omega | (simp only [ByteArray.size_append]; omega))) (px (ob_slen (n := (ByteArray.size ((⟨#[102, 105, 101, 108, 100, 32]⟩ : ByteArray) ++ f.1) + ByteArray.size (⟨#[32, 115, 116, 114, 105, 110, 103]⟩ : ByteArray))) (by have hq0 : ByteArray.size (⟨#[102, 105, 101, 108, 100, 32]⟩ : ByteArray) = 6 := rfl; have hq1 : ByteArray.size (⟨#[32, 115, 116, 114, 105, 110, 103]⟩ : ByteArray) = 7 := rfl; unfold maxLen; first | omega | (simp only [ByteArray.size_append]; omega))) p0)) ?_
  refine Qf ?_
  exact ps [] (Qm h1 (Qm h2 (Xw h3 (rfl))))
 refine Qg ?_
 refine tn Qa [2] [] (p0) ?_
 refine Qf ?_
 exact ps [] (Qm h1 (Qm h2 (Qm h3 (rfl))))
def implChecksum_f0 (s_ : ByteArray) (k0 : Nat) (s0 : Int) : Rd (Int) (Int) (Int) := (.next (Int.tmod (IntKind.i64.wrap (IntKind.i64.wrap (33 * s0) + IntKind.i64.wrap (Vh s_ ((k0 : Nat) : Int)))) 65521))
def implChecksum_e0 (_ : Nat) (s0 : Int) : Int := s0
def J5 (s_ : ByteArray) : Int := (Out.on (Vs (implChecksum_f0 s_) implChecksum_e0 (Int.toNat (ByteArray.size s_ : Int)) 0 3) (fun y0 => y0))
theorem implChecksum_a (s_ : ByteArray) : ACalls Tryz.prog 128 [.s s_] (.i (J5 s_)) := by
 refine en Qa Tryz.func128 fun w0 F0 hG => ?_
 refine sn Qa [0, 2] [] (p0) ?_
 refine tn Qa [0, 2, 3] [] (p0) ?_
 refine Qb ?_
 refine tu Qa [(2, .i 0), (3, .i 3), (6, .i (ByteArray.size s_ : Int)), (7, .i 0)] [] [] [] (p0) ?_
 refine stT 0 0 s_ (fun hs1 => ?_)
 refine blN1 (implChecksum_f0 s_) implChecksum_e0 (Int.toNat (ByteArray.size s_ : Int)) 3 (fun k0 s0 => [(3, .i s0), (7, .i ((k0 : Nat) : Int))]) [3, 7] (fun y0 => [(3, .i y0)]) [0, 3, 6, 7] (fun _ s0 => 0 ≤ s0 ∧ s0 ≤ 65520) wf0 ⟨(by decide), (by decide)⟩ (fun k0 s0 hk0 hI0 => ?_) (fun k0 s0 hk0 hI0 => ?_) (fun y0 hD0 => ?_)
 ·
  have hA0_0 := hI0.2.1
  have hA0_1 := hI0.2.2
  have hsb := strAt_bd s_ ((k0 : Nat) : Int)
  have hcn := check_next hA0_0 hA0_1 hsb.1 hsb.2
  refine sn Qa [0, 2, 3, 6, 7, 8] [] (pe 0 (Qk (decide_eq_true (p := ((k0 : Nat) : Int) < (ByteArray.size s_ : Int)) (by omega))) p0) ?_
  refine Qb ?_
  refine ckT ?_
  refine Qg ?_
  refine Qb ?_
  refine Qs ?_
  refine tn Qa [0, 2, 3, 4, 6, 7] [] (p0) ?_
  refine qu Qa [(3, .i (Int.tmod (IntKind.i64.wrap (IntKind.i64.wrap (33 * s0) + IntKind.i64.wrap (Vh s_ ((k0 : Nat) : Int)))) 65521))] [3] [] [] (px (ob_idx (i := ((k0 : Nat) : Int)) (n := (ByteArray.size s_)) (by omega)) (px (ob_nz (n := 65521) (by omega)) (px (ob_inr (k := .i64) (n := Int.tmod (IntKind.i64.wrap (IntKind.i64.wrap (33 * s0) + IntKind.i64.wrap (Vh s_ ((k0 : Nat) : Int)))) 65521) (by unfold InR; simp only [IntKind.min, IntKind.max, IntKind.bits, IntKind.signed]; omega)) p0))) ?_
  refine rn Qa [0, 2, 3, 6, 7] [] (pe 0 (J7 (Qp k0 (by omega))) p0) ?_
  exact xw (Int.tmod (IntKind.i64.wrap (IntKind.i64.wrap (33 * s0) + IntKind.i64.wrap (Vh s_ ((k0 : Nat) : Int)))) 65521) ⟨J9 hk0 (rfl) hI0.1, (by first | exact hcn.1 | exact hcn.2), (by first | exact hcn.1 | exact hcn.2)⟩
 ·
  have hA0_0 := hI0.2.1
  have hA0_1 := hI0.2.2
  refine sn Qa [0, 2, 3, 6, 7, 8] [] (pe 0 (Qk (decide_eq_false (p := ((k0 : Nat) : Int) < (ByteArray.size s_ : Int)) (by omega))) p0) ?_
  refine Qb ?_
  refine ckF ?_
  refine Q7 ?_
  exact xw _ (forN_end hk0 (rfl) hI0.1)
 refine sn Qa [2] [] (p0) ?_
 refine Qf ?_
 exact pi [] (on_b hD0 (rfl))
def specChecksum_f0 (s_ : ByteArray) (k0 : Nat) (s0 : Int) : Rd (Int) (Int) (Int) := (.next (Int.tmod (IntKind.i64.wrap (IntKind.i64.wrap (s0 * 33) + IntKind.i64.wrap (Vh s_ ((k0 : Nat) : Int)))) 65521))
def specChecksum_e0 (_ : Nat) (s0 : Int) : Int := s0
def Vb (s_ : ByteArray) : Int := (Out.on (Vs (specChecksum_f0 s_) specChecksum_e0 (Int.toNat (ByteArray.size s_ : Int)) 0 3) (fun y0 => y0))
theorem specChecksum_a (s_ : ByteArray) : ACalls Tryz.prog 85 [.s s_] (.i (Vb s_)) := by
 refine en Qa Tryz.func85 fun w0 F0 hG => ?_
 refine sn Qa [0, 2] [] (p0) ?_
 refine tn Qa [0, 2, 3] [] (p0) ?_
 refine Qb ?_
 refine tu Qa [(2, .i 0), (3, .i 3), (4, .i 0)] [] [] [] (p0) ?_
 refine stT 0 0 s_ (fun hs1 => ?_)
 refine blN1 (specChecksum_f0 s_) specChecksum_e0 (Int.toNat (ByteArray.size s_ : Int)) 3 (fun k0 s0 => [(3, .i s0), (4, .i ((k0 : Nat) : Int))]) [3, 4] (fun y0 => [(3, .i y0)]) [0, 3, 4] (fun _ s0 => 0 ≤ s0 ∧ s0 ≤ 65520) wf0 ⟨(by decide), (by decide)⟩ (fun k0 s0 hk0 hI0 => ?_) (fun k0 s0 hk0 hI0 => ?_) (fun y0 hD0 => ?_)
 ·
  have hA0_0 := hI0.2.1
  have hA0_1 := hI0.2.2
  have hsb := strAt_bd s_ ((k0 : Nat) : Int)
  have hcn := check_nextS hA0_0 hA0_1 hsb.1 hsb.2
  refine Qb ?_
  refine sn Qa [0, 2, 3, 4, 8] [] (pe 3 (Qk (decide_eq_true (p := ((k0 : Nat) : Int) < (ByteArray.size s_ : Int)) (by omega))) p0) ?_
  refine ckT ?_
  refine Qg ?_
  refine Qb ?_
  refine Qs ?_
  refine qn Qa [0, 2, 3, 4] [] (px (ob_idx (i := ((k0 : Nat) : Int)) (n := (ByteArray.size s_)) (by omega)) (px (ob_nz (n := 65521) (by omega)) (px (ob_inr (k := .i64) (n := Int.tmod (IntKind.i64.wrap (IntKind.i64.wrap (s0 * 33) + IntKind.i64.wrap (Vh s_ ((k0 : Nat) : Int)))) 65521) (by unfold InR; simp only [IntKind.min, IntKind.max, IntKind.bits, IntKind.signed]; omega)) p0))) ?_
  refine qu Qa [(3, .i (Int.tmod (IntKind.i64.wrap (IntKind.i64.wrap (s0 * 33) + IntKind.i64.wrap (Vh s_ ((k0 : Nat) : Int)))) 65521)), (4, .i ((k0 + 1 : Nat) : Int))] [3, 4] [] [] (pe 1 (J7 (Qp k0 (by omega))) p0) ?_
  exact xw (Int.tmod (IntKind.i64.wrap (IntKind.i64.wrap (s0 * 33) + IntKind.i64.wrap (Vh s_ ((k0 : Nat) : Int)))) 65521) ⟨J9 hk0 (rfl) hI0.1, (by first | exact hcn.1 | exact hcn.2), (by first | exact hcn.1 | exact hcn.2)⟩
 ·
  have hA0_0 := hI0.2.1
  have hA0_1 := hI0.2.2
  refine Qb ?_
  refine sn Qa [0, 2, 3, 4, 8] [] (pe 3 (Qk (decide_eq_false (p := ((k0 : Nat) : Int) < (ByteArray.size s_ : Int)) (by omega))) p0) ?_
  refine ckF ?_
  refine Q7 ?_
  exact xw _ (forN_end hk0 (rfl) hI0.1)
 refine sn Qa [2] [] (p0) ?_
 refine Qf ?_
 exact pi [] (on_b hD0 (rfl))
def Jy (n : Int) (low : Int) (high_ : Int) : Int := (max low (min n high_))
theorem implClamp_a (n : Int) (low : Int) (high_ : Int) : ACalls Tryz.prog 62 [.i n, .i low, .i high_] (.i (Jy n low high_)) := by
 refine en Qa Tryz.func62 fun w0 F0 hG => ?_
 refine sn Qa [0, 1, 2, 6] [] (p0) ?_
 refine tn Qa [6] [] (p0) ?_
 refine Qf ?_
 exact pi [] (show Jy n low high_ = (max low (min n high_)) from rfl)
def specClamp (n : Int) (least : Int) (most : Int) : Int := (bif (decide (most < least) || decide (n < least)) then least else (bif decide (n > most) then most else n))
theorem specClamp_a (n : Int) (least : Int) (most : Int) : ACalls Tryz.prog 49 [.i n, .i least, .i most] (.i (specClamp n least most)) := by
 refine en Qa Tryz.func49 fun w0 F0 hG => ?_
 refine sn Qa [0, 1, 2, 6] [] (p0) ?_
 refine Qb ?_
 refine Qb ?_
 refine mz [(6, .i 0)] [] [] [] ?_
 refine jn [(14, .b (decide (most < least) || decide (n < least)))] [] [] [] (decide (most < least)) (fun h1 => ?_) (fun h1 => ?_) ?_
 ·
  refine rn Qa [0, 1, 2, 6, 14] [] (pt 2 h1 p0) ?_
  exact ⟨rfl, Qd (by rw [h1] <;> kernel_rfl)⟩
 ·
  refine rn Qa [0, 1, 2, 6, 14] [] (pf 2 h1 p0) ?_
  exact ⟨rfl, Qd (by rw [h1] <;> kernel_rfl)⟩
 refine ck (decide (most < least) || decide (n < least)) (fun h2 => ?_) (fun h2 => ?_)
 ·
  refine sn Qa [0, 2, 6] [] (p0) ?_
  refine Qf ?_
  exact pi [] (Xw h2 (rfl))
 refine Qg ?_
 refine Qb ?_
 refine sn Qa [0, 2, 6, 18] [] (p0) ?_
 refine ck (decide (n > most)) (fun h3 => ?_) (fun h3 => ?_)
 ·
  refine tn Qa [0, 6] [] (p0) ?_
  refine Qf ?_
  exact pi [] (Qm h2 (Xw h3 (rfl)))
 refine Qg ?_
 refine tn Qa [6] [] (p0) ?_
 refine Qf ?_
 exact pi [] (Qm h2 (Qm h3 (rfl)))
def specl27Cut_f0 (s_ : ByteArray) (k0 : Nat) (s0 : (List ByteArray) × Int) : Rd ((List ByteArray)) ((List ByteArray) × Int) ((List ByteArray)) := (bif (Vh s_ ((k0 : Nat) : Int) == (10 : Int)) then (.next (s0.1 ++ [(ByteArray.extract s_ (Int.toNat s0.2) (Int.toNat ((k0 : Nat) : Int)))], ((k0 + 1 : Nat) : Int))) else (.next (s0.1, s0.2)))
def specl27Cut_e0 (_ : Nat) (s0 : (List ByteArray) × Int) : (List ByteArray) := s0.1
def specl27Cut (s_ : ByteArray) : (List ByteArray) := (Out.on (Vs (specl27Cut_f0 s_) specl27Cut_e0 (Int.toNat (ByteArray.size s_ : Int)) 0 ([], 0)) (fun y0 => y0))
theorem specl27Cut_a (s_ : ByteArray) (hp : ByteArray.size s_ ≤ 1073741000) : ACalls Tryz.prog 107 [.s s_] (.o 0 (specl27Cut s_)) := by
 refine en Qa Tryz.func107 fun w0 F0 hG => ?_
 refine sn Qa [0, 2] [] (p0) ?_
 refine tn Qa [0, 2, 3] [] (p0) ?_
 refine tu Qa [(2, .e 0), (3, .one (.slc (.own true 384) 1 [])), (4, .i 0)] [] [] [] (p0) ?_
 refine Qb ?_
 refine sn Qa [0, 2, 3, 4, 5] [] (p0) ?_
 refine mz [(5, .i 0)] [] [] [] ?_
 refine stT 0 0 s_ (fun hs1 => ?_)
 refine blN1 (specl27Cut_f0 s_) specl27Cut_e0 (Int.toNat (ByteArray.size s_ : Int)) ([], 0) (fun k0 s0 => [(3, .o 147202 s0.1), (4, .i s0.2), (5, .i ((k0 : Nat) : Int))]) [3, 4, 5] (fun y0 => [(3, .o 147352 y0)]) [0, 3, 4, 5] (fun k0 s0 => List.length s0.1 ≤ k0 ∧ 0 ≤ s0.2 ∧ s0.2 ≤ ((k0 : Nat) : Int) ∧ List.length s0.1 ≤ k0) (Yw [(384, 147202)] (by kernel_rfl)) ⟨(by simp), (by first | omega | simp), (by first | omega | simp), (by first | omega | simp)⟩ (fun k0 s0 hk0 hI0 => ?_) (fun k0 s0 hk0 hI0 => ?_) (fun y0 hD0 => ?_)
 ·
  have hA0_0 := hI0.2.1
  have hA0_1 := hI0.2.2.1
  have hA0_2 := hI0.2.2.2.1
  have hA0_3 := hI0.2.2.2.2
  refine Qb ?_
  refine sn Qa [0, 2, 3, 4, 5, 10] [] (pe 3 (Qk (decide_eq_true (p := ((k0 : Nat) : Int) < (ByteArray.size s_ : Int)) (by omega))) p0) ?_
  refine ckT ?_
  refine Qg ?_
  refine Qb ?_
  refine Qs ?_
  refine tn Qa [0, 2, 3, 4, 5, 16] [] (px (ob_idx (i := ((k0 : Nat) : Int)) (n := (ByteArray.size s_)) (by omega)) p0) ?_
  refine ck (Vh s_ ((k0 : Nat) : Int) == (10 : Int)) (fun h2 => ?_) (fun h2 => ?_)
  ·
   have h2d := eq_of_beq h2
   refine wT 3 0 (.own true 147202) s0.1 (fun hw3 hl4 => ?_)
   refine tu Qa [(3, .one (.slc (.own true 1472) 1 ((eL s0.1) ++ [[.s (ByteArray.extract s_ (Int.toNat s0.2) (Int.toNat ((k0 : Nat) : Int)))]])))] [3] [] [] (px (ob_rng (lo := s0.2) (hi := ((k0 : Nat) : Int)) (n := (ByteArray.size s_)) (⟨by omega, by omega, by omega⟩)) (pa s0.1 [(ByteArray.extract s_ (Int.toNat s0.2) (Int.toNat ((k0 : Nat) : Int)))] p0)) ?_
   refine eqn [(3, .o 1472 (s0.1 ++ [(ByteArray.extract s_ (Int.toNat s0.2) (Int.toNat ((k0 : Nat) : Int)))]))] [3] [] [] (by rw [show ((eL s0.1) ++ [[.s (ByteArray.extract s_ (Int.toNat s0.2) (Int.toNat ((k0 : Nat) : Int)))]]) = (eL (s0.1 ++ [(ByteArray.extract s_ (Int.toNat s0.2) (Int.toNat ((k0 : Nat) : Int)))])) from app_eL (rfl) (rfl)]; first | done | kernel_rfl) ?_
   refine rn Qa [0, 2, 3, 4, 5] [] (pe 1 (J7 (Qp k0 (by omega))) p0) ?_
   refine qn Qa [0, 2, 3, 4, 5] [] (pe 1 (J7 (Qp k0 (by omega))) p0) ?_
   exact Exists.intro (s0.1 ++ [(ByteArray.extract s_ (Int.toNat s0.2) (Int.toNat ((k0 : Nat) : Int)))], ((k0 + 1 : Nat) : Int)) (And.intro (Yw [(1472, 147202)] (by kernel_rfl)) ⟨J9 hk0 (Xw h2 (rfl)) hI0.1, by first | omega | (simp; omega) | simp, (by first | omega | (simp; omega)), (by first | omega | (simp; omega)), (by first | omega | (simp; omega))⟩)
  have h2d := Zk h2
  refine Qg ?_
  refine qu Qa [(5, .i ((k0 + 1 : Nat) : Int))] [5] [] [] (pe 1 (J7 (Qp k0 (by omega))) p0) ?_
  exact xw (s0.1, s0.2) ⟨J9 hk0 (Qm h2 (rfl)) hI0.1, by first | omega | (simp; omega) | simp, (by first | omega | (simp; omega)), (by first | omega | (simp; omega)), (by first | omega | (simp; omega))⟩
 ·
  have hA0_0 := hI0.2.1
  have hA0_1 := hI0.2.2.1
  have hA0_2 := hI0.2.2.2.1
  have hA0_3 := hI0.2.2.2.2
  refine Qb ?_
  refine sn Qa [0, 2, 3, 4, 5, 10] [] (pe 3 (Qk (decide_eq_false (p := ((k0 : Nat) : Int) < (ByteArray.size s_ : Int)) (by omega))) p0) ?_
  refine ckF ?_
  refine Q7 ?_
  exact Exists.intro _ (And.intro (Yw [(147202, 147352)] (by kernel_rfl)) (forN_end hk0 (rfl) hI0.1))
 refine sn Qa [2] [] (p0) ?_
 refine Qf ?_
 exact po0 [] (on_b hD0 (rfl))
theorem snapV_eq (x : Xq) : Qx x = Qt x := by
  unfold Qx Qt Vy Vx
  rw [store_eq, strata_alike]
theorem fieldF_eq (f : X4) : Zt f = Yl f := by
  unfold Zt Yl
  rw [vname_eq]
theorem fieldF_size (f : X4) : (Yl f).size ≤ 20 := by
  unfold Yl
  cases hv : Xa f.1 with
  | false => exact Nat.zero_le _
  | true =>
    have h1 : f.1.size = 1 := by
      unfold Xa at hv
      simp only [Bool.and_eq_true, beq_iff_eq] at hv
      omega
    simp only [Bool.not_true, cond_false]
    have e1 : (⟨#[102, 105, 101, 108, 100, 32]⟩ : ByteArray).size = 6 := rfl
    have e2 : (⟨#[32, 105, 110, 116]⟩ : ByteArray).size = 4 := rfl
    have e3 : (⟨#[32, 115, 116, 114, 105, 110, 103]⟩ : ByteArray).size = 7 := rfl
    cases (f.2 == (1 : Int)) with
    | true => simp only [cond_true, ByteArray.size_append]; omega
    | false =>
      cases (f.2 == (2 : Int)) with
      | true => simp only [cond_true, cond_false, ByteArray.size_append]; omega
      | false => exact Nat.zero_le _
theorem snap_store {x : Xq} (h : Qt x = true) : Yd x.1 = true := by
  unfold Qt at h
  simp only [Bool.and_eq_true] at h
  exact h.1
theorem vst_run {s : Yv} (h : Yd s = true) : Qv s.1 = true ∧ 1 ≤ s.2.2 ∧ s.2.2 ≤ 61 := by
  unfold Yd at h
  cases hl : Xz (Z6 s) Kd s.2.1 0 () with
  | brk t =>
    rw [hl] at h
    simp only [Out.on, Bool.and_eq_true] at h
    have := h.2.2
    unfold Xj at this
    simp only [Bool.and_eq_true, decide_eq_true_eq] at this
    exact ⟨h.1, this⟩
  | ret r =>
    rw [hl] at h
    obtain rfl : r = true := h
    exfalso
    have key : ∀ (l : List Zr) k, Xz (Z6 s) Kd l k () ≠ .ret true := by
      intro l
      induction l with
      | nil => intro k h; simp [Xz] at h
      | cons a l ih =>
        intro k h
        simp only [Xz] at h
        unfold Z6 at h
        split at h
        · rename_i hf; exact ih _ h
        · cases h
        rename_i r hf; cases h; revert hf; generalize (_ || _ : Bool) = c; cases c <;> simp
    exact key _ _ hl
theorem sch5 {s : List X4} (h : Qv s = true) : s.length ≤ 5 := by
  unfold Qv at h
  cases hf : Xz (Zw s) Jz s 0 () with
  | brk t =>
    rw [hf] at h
    simp only [Out.on, decide_eq_true_eq] at h
    omega
  | ret r =>
    rw [hf] at h
    obtain rfl : r = true := h
    exfalso
    have key : ∀ (l : List X4) k, Xz (Zw s) Jz l k () ≠ .ret true := by
      intro l
      induction l with
      | nil => intro k h; simp [Xz] at h
      | cons a l ih =>
        intro k h
        simp only [Xz] at h
        unfold Zw at h
        split at h
        · rename_i hf; exact ih _ h
        · cases h
        rename_i r hf; cases h; revert hf; generalize (_ || _ : Bool) = c; cases c <;> simp
    exact key _ _ hf
theorem snap_next {x : Xq} (h : Qt x = true) : 1 ≤ x.1.2.2 ∧ x.1.2.2 ≤ 61 := (vst_run (snap_store h)).2
theorem snap_nextS {x : Xq} (h : Qx x = true) : 1 ≤ x.1.2.2 ∧ x.1.2.2 ≤ 61 := snap_next ((snapV_eq x).symm.trans h)
theorem snap_sch {x : Xq} (h : Qt x = true) : x.1.1.length ≤ 5 := sch5 (vst_run (snap_store h)).1
theorem snap_schS {x : Xq} (h : Qx x = true) : x.1.1.length ≤ 5 := snap_sch ((snapV_eq x).symm.trans h)
/-! ### check sums -/
theorem check_run (s : ByteArray) : ∀ (n k : Nat) (a : Int), 0 ≤ a → a ≤ 65520 → ∃ y, Vs (implChecksum_f0 s) implChecksum_e0 n k a = .brk y ∧ Vs (specChecksum_f0 s) specChecksum_e0 n k a = .brk y ∧ 0 ≤ y ∧ y ≤ 65520
  | 0, k, a, h0, h1 => ⟨a, rfl, rfl, h0, h1⟩
  | n + 1, k, a, h0, h1 => by
    have hb := strAt_bd s ((k : Nat) : Int)
    have hn := check_next h0 h1 hb.1 hb.2
    obtain ⟨y, e1, e2, e3⟩ := check_run s n (k + 1) _ hn.1 hn.2
    refine ⟨y, e1, ?_, e3⟩
    simp only [Vs]
    unfold specChecksum_f0
    rw [Int.mul_comm a 33]
    exact e2
theorem check_bd (s : ByteArray) : 0 ≤ J5 s ∧ J5 s ≤ 65520 := by
  obtain ⟨y, e1, _, e3⟩ := check_run s (Int.toNat (s.size : Int)) 0 3 (by decide) (by decide)
  unfold J5
  rw [e1]
  exact e3
theorem check_eq (s : ByteArray) : Vb s = J5 s := by
  obtain ⟨y, e1, e2, _⟩ := check_run s (Int.toNat (s.size : Int)) 0 3 (by decide) (by decide)
  unfold Vb J5
  rw [e1, e2]
theorem check_bdS (s : ByteArray) : 0 ≤ Vb s ∧ Vb s ≤ 65520 := by rw [check_eq]; exact check_bd s
theorem clamp_eq (n l h : Int) (hl : l ≤ h) : specClamp n l h = Jy n l h := by
  unfold specClamp Jy
  rw [decide_eq_false (show ¬ h < l by omega), Bool.false_or]
  by_cases h1 : n < l
  · rw [decide_eq_true h1, cond_true]; omega
  rw [decide_eq_false h1, cond_false]
  by_cases h2 : n > h
  · rw [decide_eq_true h2, cond_true]; omega
  rw [decide_eq_false h2, cond_false]; omega
theorem clamp_bd (n h : Int) (h0 : 0 ≤ h) : 0 ≤ Jy n 0 h ∧ Jy n 0 h ≤ h := by unfold Jy; omega
theorem clamp_bdS (n h : Int) (h0 : 0 ≤ h) : 0 ≤ specClamp n 0 h ∧ specClamp n 0 h ≤ h := by rw [clamp_eq _ _ _ h0]; exact clamp_bd n h h0
open GoE (enc wide)
def implEncodeSnapshot_f0 (_ : Nat) (a0 : X4) (s0 : (List ByteArray)) : Rd ((List ByteArray)) ((List ByteArray)) ((List ByteArray)) := (.next (s0 ++ [(Yl a0)]))
def implEncodeSnapshot_e0 (_ : Nat) (s0 : (List ByteArray)) : (List ByteArray) := s0
def Yc (x : Xq) : (List ByteArray) := (bif (!(Qt x)) then [] else (Out.on (Xz implEncodeSnapshot_f0 implEncodeSnapshot_e0 x.1.1 0 []) (fun y0 => y0 ++ [((⟨#[110, 101, 120, 116, 32]⟩ : ByteArray) ++ (Y3 x.1.2.2))])))
theorem encI_form (x : Xq) : Yc x = bif !(Qt x) then [] else x.1.1.map Yl ++ [((⟨#[110, 101, 120, 116, 32]⟩ : ByteArray) ++ (Y3 x.1.2.2))] := by
 unfold Yc
 rw [forL_map (f := implEncodeSnapshot_f0) (e := implEncodeSnapshot_e0) (g := Yl) (fun _ _ _ => rfl)]
 rfl
theorem encI_bd (x : Xq) : (Yc x).length ≤ 6 ∧ ∀ y, y ∈ Yc x → y.size ≤ 40 := by
  rw [encI_form]
  cases hv : Qt x with
  | false => exact ⟨Nat.zero_le _, fun y hy => by cases hy⟩
  | true =>
    have h1 := snap_sch hv
    refine ⟨by simp only [Bool.not_true, cond_false, List.length_append, List.length_map, List.length_cons, List.length_nil]; omega, fun y hy => ?_⟩
    rcases List.mem_append.1 hy with hy | hy
    · obtain ⟨f, _, rfl⟩ := List.mem_map.1 hy
      have := fieldF_size f; omega
    rw [List.mem_singleton.1 hy, ByteArray.size_append]
    have h2 := snap_next hv
    have h3 := Vw (n := x.1.2.2) (by omega)
    have e1 : (⟨#[110, 101, 120, 116, 32]⟩ : ByteArray).size = 5 := rfl
    omega
theorem implEncodeSnapshot_a (x : Xq) (hf : List.length x.1.2.1 = 0) (hd : List.length x.2 = 0) : ACalls Tryz.prog 127 [.a [.h x.1.1, .h x.1.2.1, .i x.1.2.2, .h x.2]] (.o 0 (Yc x)) := by
 refine en Qa Tryz.func127 fun w0 F0 hG => ?_
 refine sn Qa [1, 2] [1] (p0) ?_
 refine Qb ?_
 refine tn Qa [1, 2, 12] [1] (pc 1 (implIsValidSnapshot_a x) p0) ?_
 refine ck (!(Qt x)) (fun h1 => ?_) (fun h1 => ?_)
 ·
  refine tu Qa [(1, .p 1 0), (2, .e 0)] [0] [(1, [.h x.1.1, .h x.1.2.1, .i x.1.2.2, .h x.2])] [] (p0) ?_
  refine opn [(false, 2, 0, true, 384000, 1)] ?_
  refine Qf ?_
  exact po0 [] (Xw h1 (rfl))
 have h1n : (Qt x) = true := Zl h1
 have h1nn := snap_next h1n; have h1nl := snap_sch h1n
 refine Qg ?_
 refine tu Qa [(1, .p 1 0), (2, .e 0), (3, .one (.slc (.own true 832) 1 []))] [0] [(1, [.h x.1.1, .h x.1.2.1, .i x.1.2.2, .h x.2])] [] (p0) ?_
 refine Qb ?_
 refine sn Qa [1, 2, 3, 16, 17, 18] [1] (pl 3 x.1.1 p0) ?_
 refine mz [(16, .h x.1.1), (17, .i (x.1.1.length : Int)), (18, .i 0)] [] [] [] ?_
 refine wT 16 0 .sh x.1.1 (fun hw2 hl3 => ?_)
 refine blL3 implEncodeSnapshot_f0 implEncodeSnapshot_e0 x.1.1 [] (fun k0 s0 => [(3, .o 147202 s0), (18, .i ((k0 : Nat) : Int))]) [3, 18] (fun y0 => [(3, .o 147352 y0)]) [3, 16, 17, 18] (fun k0 s0 => List.length s0 ≤ k0) (fun y0 => List.length y0 ≤ List.length x.1.1) (Yw [(832, 147202)] (by kernel_rfl)) (by simp) (fun k0 s0 hk0 hI0 => ?_) (fun k0 s0 hk0 hI0 => ?_) (fun y0 hD0 => ?_)
 ·
  have hA0_0 := hI0.2
  obtain ⟨a0, hx0⟩ := Xt (l := x.1.1) (i := k0) hk0
  refine su Qa [(19, .b true)] [] [] [] (pe 0 (Qk (decide_eq_true (p := ((k0 : Nat) : Int) < (x.1.1.length : Int)) (by omega))) p0) ?_
  refine Qb ?_
  refine ckT ?_
  refine Qg ?_
  refine Qb ?_
  refine Qs ?_
  refine sn Qa [1, 2, 3, 5, 16, 17, 18] [1, 5] (pn 0 hx0 p0) ?_
  refine wT 3 0 (.own true 147202) s0 (fun hw4 hl5 => ?_)
  refine qu Qa [(3, .one (.slc (.own true 1664) 1 ((eL s0) ++ [[.s (Yl a0)]])))] [3, 19] [] [] (pc 2 (implFormatField_a a0) (pa s0 [(Yl a0)] p0)) ?_
  refine eqn [(3, .o 1664 (s0 ++ [(Yl a0)]))] [3] [] [] (by rw [show ((eL s0) ++ [[.s (Yl a0)]]) = (eL (s0 ++ [(Yl a0)])) from app_eL (rfl) (rfl)]; first | done | kernel_rfl) ?_
  refine rn Qa [1, 2, 3, 16, 17, 18] [1] (pe 0 (J7 (Qp k0 (by omega))) p0) ?_
  exact Exists.intro (s0 ++ [(Yl a0)]) (And.intro (Yw [(1664, 147202)] (by kernel_rfl)) ⟨Qu hx0 (rfl) hI0.1, by first | omega | (simp; omega) | simp⟩)
 ·
  have hA0_0 := hI0.2
  refine su Qa [(19, .b false)] [] [] [] (pe 0 (Qk (decide_eq_false (p := ((k0 : Nat) : Int) < (x.1.1.length : Int)) (by omega))) p0) ?_
  refine Qb ?_
  refine ckF ?_
  refine Q7 ?_
  exact Exists.intro s0 (And.intro (Yw [(147202, 147352)] (by kernel_rfl)) ⟨Xx hk0 (rfl) hI0.1, by first | omega | (simp only [List.length_set]; omega)⟩)
 have hD0_0 := hD0.2
 have hk6 := Vw (n := x.1.2.2) (by omega)
 refine wT 3 0 (.own true 147352) y0 (fun hw7 hl8 => ?_)
 refine su Qa [(3, .one (.slc (.own true 2240) 1 ((eL y0) ++ [[.s ((⟨#[110, 101, 120, 116, 32]⟩ : ByteArray) ++ (Y3 x.1.2.2))]])))] [3] [] [] (pc 4 (implFormatInt_a x.1.2.2 (by omega)) (px (ob_slen (n := (ByteArray.size (⟨#[110, 101, 120, 116, 32]⟩ : ByteArray) + ByteArray.size (Y3 x.1.2.2))) (by have hq0 : ByteArray.size (⟨#[110, 101, 120, 116, 32]⟩ : ByteArray) = 5 := rfl; unfold maxLen; first | omega | (simp only [ByteArray.size_append]; omega))) (pa y0 [((⟨#[110, 101, 120, 116, 32]⟩ : ByteArray) ++ (Y3 x.1.2.2))] p0))) ?_
 refine eqn [(3, .o 2240 (y0 ++ [((⟨#[110, 101, 120, 116, 32]⟩ : ByteArray) ++ (Y3 x.1.2.2))]))] [3] [] [] (by rw [show ((eL y0) ++ [[.s ((⟨#[110, 101, 120, 116, 32]⟩ : ByteArray) ++ (Y3 x.1.2.2))]]) = (eL (y0 ++ [((⟨#[110, 101, 120, 116, 32]⟩ : ByteArray) ++ (Y3 x.1.2.2))])) from app_eL (rfl) (rfl)]; first | done | kernel_rfl) ?_
 refine Qb ?_
 refine sn Qa [1, 2, 3, 38, 39, 40] [1] (pl 3 x.1.2.1 p0) ?_
 refine wT 38 0 .sh x.1.2.1 (fun hw9 hl10 => ?_)
 refine awp_once ?_
 refine tn Qa [1, 2, 3, 38, 40, 41] [1] (pe 0 (Qk (decide_eq_false (p := (0 : Int) < (x.1.2.1.length : Int)) (by omega))) p0) ?_
 refine Qb ?_
 refine ckF ?_
 refine Q7 ?_
 refine Qb ?_
 refine tu Qa [(51, .h x.2), (52, .i (x.2.length : Int)), (53, .i 0)] [1] [] [1] (pl 2 x.2 p0) ?_
 refine wT 51 0 .sh x.2 (fun hw11 hl12 => ?_)
 refine awp_once ?_
 refine sn Qa [2, 3, 51, 53, 54] [] (pe 0 (Qk (decide_eq_false (p := (0 : Int) < (x.2.length : Int)) (by omega))) p0) ?_
 refine Qb ?_
 refine ckF ?_
 refine Q7 ?_
 refine tn Qa [2] [] (p0) ?_
 refine Qf ?_
 exact po0 [] (Qm h1 (on_b hD0.1 (rfl)))
def specEncodeSnapshot_f0 (_ : Nat) (a0 : X4) (s0 : (List ByteArray)) : Rd ((List ByteArray)) ((List ByteArray)) ((List ByteArray)) := (.next (s0 ++ [(Zt a0)]))
def specEncodeSnapshot_e0 (_ : Nat) (s0 : (List ByteArray)) : (List ByteArray) := s0
def Yh (x : Xq) : (List ByteArray) := (bif (!(Qx x)) then [] else (Out.on (Xz specEncodeSnapshot_f0 specEncodeSnapshot_e0 x.1.1 0 []) (fun y0 => y0 ++ [((⟨#[110, 101, 120, 116, 32]⟩ : ByteArray) ++ (Y3 x.1.2.2))])))
theorem encS_form (x : Xq) : Yh x = bif !(Qt x) then [] else x.1.1.map Yl ++ [((⟨#[110, 101, 120, 116, 32]⟩ : ByteArray) ++ (Y3 x.1.2.2))] := by
 unfold Yh
 rw [snapV_eq, forL_map (f := specEncodeSnapshot_f0) (e := specEncodeSnapshot_e0) (g := Zt) (fun _ _ _ => rfl), show Zt = Yl from funext fieldF_eq]
 rfl
theorem encS_bd (x : Xq) : (Yh x).length ≤ 6 ∧ ∀ y, y ∈ Yh x → y.size ≤ 40 := by
  rw [encS_form]
  cases hv : Qt x with
  | false => exact ⟨Nat.zero_le _, fun y hy => by cases hy⟩
  | true =>
    have h1 := snap_sch hv
    refine ⟨by simp only [Bool.not_true, cond_false, List.length_append, List.length_map, List.length_cons, List.length_nil]; omega, fun y hy => ?_⟩
    rcases List.mem_append.1 hy with hy | hy
    · obtain ⟨f, _, rfl⟩ := List.mem_map.1 hy
      have := fieldF_size f; omega
    rw [List.mem_singleton.1 hy, ByteArray.size_append]
    have h2 := snap_next hv
    have h3 := Vw (n := x.1.2.2) (by omega)
    have e1 : (⟨#[110, 101, 120, 116, 32]⟩ : ByteArray).size = 5 := rfl
    omega
theorem specEncodeSnapshot_a (x : Xq) (hf : List.length x.1.2.1 = 0) (hd : List.length x.2 = 0) : ACalls Tryz.prog 84 [.a [.h x.1.1, .h x.1.2.1, .i x.1.2.2, .h x.2]] (.o 0 (Yh x)) := by
 refine en Qa Tryz.func84 fun w0 F0 hG => ?_
 refine sn Qa [1, 2] [1] (p0) ?_
 refine tn Qa [1, 2, 3] [1] (p0) ?_
 refine Qb ?_
 refine tu Qa [(1, .p 1 0), (2, .e 0), (3, .one (.slc (.own true 448) 1 [])), (10, .b (!(Qx x)))] [0] [(1, [.h x.1.1, .h x.1.2.1, .i x.1.2.2, .h x.2])] [] (pc 1 (Z8 x) p0) ?_
 refine ck (!(Qx x)) (fun h1 => ?_) (fun h1 => ?_)
 ·
  refine sn Qa [1, 2, 3] [1] (p0) ?_
  refine Qf ?_
  exact po0 [] (Xw h1 (rfl))
 have h1n : (Qx x) = true := Zl h1
 have h1nn := snap_nextS h1n; have h1nl := snap_schS h1n
 refine Qg ?_
 refine Qb ?_
 refine sn Qa [1, 2, 3, 4] [1] (p0) ?_
 refine mz [(4, .i 0)] [10] [] [] ?_
 refine wB 1 0 .sh x.1.1 (fun hw2 hl3 => ?_)
 refine blL3 specEncodeSnapshot_f0 specEncodeSnapshot_e0 x.1.1 [] (fun k0 s0 => [(3, .o 147202 s0), (4, .i ((k0 : Nat) : Int))]) [3, 4] (fun y0 => [(3, .o 147352 y0)]) [3, 4] (fun k0 s0 => List.length s0 ≤ k0) (fun y0 => List.length y0 ≤ List.length x.1.1) (Yw [(448, 147202)] (by kernel_rfl)) (by simp) (fun k0 s0 hk0 hI0 => ?_) (fun k0 s0 hk0 hI0 => ?_) (fun y0 hD0 => ?_)
 ·
  have hA0_0 := hI0.2
  obtain ⟨a0, hx0⟩ := Xt (l := x.1.1) (i := k0) hk0
  refine Qb ?_
  refine sn Qa [1, 2, 3, 4, 17] [1] (pl 4 x.1.1 (pe 5 (Qk (decide_eq_true (p := ((k0 : Nat) : Int) < (x.1.1.length : Int)) (by omega))) p0)) ?_
  refine ckT ?_
  refine Qg ?_
  refine Qb ?_
  refine Qs ?_
  refine wT 3 0 (.own true 147202) s0 (fun hw4 hl5 => ?_)
  refine qu Qa [(3, .one (.slc (.own true 1856) 1 ((eL s0) ++ [[.s (Zt a0)]])))] [3] [] [] (pn 5 hx0 (pc 7 (specFormatField_a a0) (pa s0 [(Zt a0)] p0))) ?_
  refine eqn [(3, .o 1856 (s0 ++ [(Zt a0)]))] [3] [] [] (by rw [show ((eL s0) ++ [[.s (Zt a0)]]) = (eL (s0 ++ [(Zt a0)])) from app_eL (rfl) (rfl)]; first | done | kernel_rfl) ?_
  refine rn Qa [1, 2, 3, 4] [1] (pe 1 (J7 (Qp k0 (by omega))) p0) ?_
  exact Exists.intro (s0 ++ [(Zt a0)]) (And.intro (Yw [(1856, 147202)] (by kernel_rfl)) ⟨Qu hx0 (rfl) hI0.1, by first | omega | (simp; omega) | simp⟩)
 ·
  have hA0_0 := hI0.2
  refine Qb ?_
  refine sn Qa [1, 2, 3, 4, 17] [1] (pl 4 x.1.1 (pe 5 (Qk (decide_eq_false (p := ((k0 : Nat) : Int) < (x.1.1.length : Int)) (by omega))) p0)) ?_
  refine ckF ?_
  refine Q7 ?_
  exact Exists.intro s0 (And.intro (Yw [(147202, 147352)] (by kernel_rfl)) ⟨Xx hk0 (rfl) hI0.1, by first | omega | (simp only [List.length_set]; omega)⟩)
 have hD0_0 := hD0.2
 have hk6 := Vw (n := x.1.2.2) (by omega)
 refine wT 3 0 (.own true 147352) y0 (fun hw7 hl8 => ?_)
 refine su Qa [(3, .one (.slc (.own true 2368) 1 ((eL y0) ++ [[.s ((⟨#[110, 101, 120, 116, 32]⟩ : ByteArray) ++ (Y3 x.1.2.2))]])))] [3] [] [] (pc 4 (specFormatInt_a x.1.2.2 (by omega)) (px (ob_slen (n := (ByteArray.size (⟨#[110, 101, 120, 116, 32]⟩ : ByteArray) + ByteArray.size (Y3 x.1.2.2))) (by have hq0 : ByteArray.size (⟨#[110, 101, 120, 116, 32]⟩ : ByteArray) = 5 := rfl; unfold maxLen; first | omega | (simp only [ByteArray.size_append]; omega))) (pa y0 [((⟨#[110, 101, 120, 116, 32]⟩ : ByteArray) ++ (Y3 x.1.2.2))] p0))) ?_
 refine eqn [(3, .o 2368 (y0 ++ [((⟨#[110, 101, 120, 116, 32]⟩ : ByteArray) ++ (Y3 x.1.2.2))]))] [3] [] [] (by rw [show ((eL y0) ++ [[.s ((⟨#[110, 101, 120, 116, 32]⟩ : ByteArray) ++ (Y3 x.1.2.2))]]) = (eL (y0 ++ [((⟨#[110, 101, 120, 116, 32]⟩ : ByteArray) ++ (Y3 x.1.2.2))])) from app_eL (rfl) (rfl)]; first | done | kernel_rfl) ?_
 refine Qb ?_
 refine sn Qa [1, 2, 3, 5] [1] (p0) ?_
 refine wB 1 1 .sh x.1.2.1 (fun hw9 hl10 => ?_)
 refine awp_once ?_
 refine Qb ?_
 refine tn Qa [1, 2, 3, 5, 43] [1] (pl 4 x.1.2.1 (pe 5 (Qk (decide_eq_false (p := (0 : Int) < (x.1.2.1.length : Int)) (by omega))) p0)) ?_
 refine ckF ?_
 refine Q7 ?_
 refine Qb ?_
 refine tu Qa [(6, .i 0)] [] [] [] (p0) ?_
 refine wB 1 3 .sh x.2 (fun hw11 hl12 => ?_)
 refine awp_once ?_
 refine Qb ?_
 refine sn Qa [1, 2, 3, 6, 60] [1] (pl 3 x.2 (pe 4 (Qk (decide_eq_false (p := (0 : Int) < (x.2.length : Int)) (by omega))) p0)) ?_
 refine ckF ?_
 refine Q7 ?_
 refine tn Qa [2] [] (p0) ?_
 refine Qf ?_
 exact po0 [] (Qm h1 (on_b hD0.1 (rfl)))
def Ke (_ : Nat) (a0 : ByteArray) (s0 : ByteArray) : Rd (ByteArray) (ByteArray) (ByteArray) := (.next (s0 ++ (a0 ++ (⟨#[10]⟩ : ByteArray))))
def implEncodeSlot_e0 (_ : Nat) (s0 : ByteArray) : ByteArray := s0
def Yp (version : Int) (x : Xq) : ByteArray := (bif ((!(Qt x)) || (!(Xj version 1 1000000000))) then ⟨#[]⟩ else (Out.on (Xz Ke implEncodeSlot_e0 (Yc x) 0 ((Y3 version) ++ (⟨#[10]⟩ : ByteArray))) (fun y0 => ((y0 ++ (Y3 (J5 y0))) ++ (⟨#[46]⟩ : ByteArray)))))
theorem implEncodeSlot_a (version : Int) (x : Xq) (hf : List.length x.1.2.1 = 0) (hd : List.length x.2 = 0) : ACalls Tryz.prog 92 [.i version, .a [.h x.1.1, .h x.1.2.1, .i x.1.2.2, .h x.2]] (.s (Yp version x)) := by
 refine en Qa Tryz.func92 fun w0 F0 hG => ?_
 have hes := encI_bd x
 refine sn Qa [0, 3, 4] [3] (p0) ?_
 refine Qb ?_
 refine Qb ?_
 refine mz [(3, .p 3 0), (4, .s ⟨#[]⟩)] [1] [(3, [.h x.1.1, .h x.1.2.1, .i x.1.2.2, .h x.2])] [] ?_
 refine jn [(15, .b ((!(Qt x)) || (!(Xj version 1 1000000000))))] [] [] [] (!(Qt x)) (fun h1 => ?_) (fun h1 => ?_) ?_
 ·
  have h1n : (Qt x) = false := bnot_t h1
  refine rn Qa [0, 3, 4, 15] [3] (pc 1 (cb h1n (implIsValidSnapshot_a x)) (pe 2 (show .b (!false) = .b true from rfl) p0)) ?_
  exact ⟨rfl, Qd (by rw [h1] <;> kernel_rfl)⟩
 ·
  have h1n : (Qt x) = true := Zl h1
  have h1nn := snap_next h1n; have h1nl := snap_sch h1n
  refine rn Qa [0, 3, 4, 15] [3] (pc 1 (cb h1n (implIsValidSnapshot_a x)) (pe 2 (show .b (!true) = .b false from rfl) (pc 5 (Zc version 1 1000000000) p0))) ?_
  exact ⟨rfl, Qd (by rw [h1] <;> kernel_rfl)⟩
 refine ck ((!(Qt x)) || (!(Xj version 1 1000000000))) (fun h2 => ?_) (fun h2 => ?_)
 ·
  refine su Qa [] [15] [] [] (p0) ?_
  refine Qf ?_
  exact ps [] (Xw h2 (rfl))
 have h2l : ((!(Qt x))) = false := or_l h2
 have h2ln : (Qt x) = true := Zl h2l
 have h2lnn := snap_next h2ln; have h2lnl := snap_sch h2ln
 have h2r : ((!(Xj version 1 1000000000))) = false := or_r h2
 have h2rn : (Xj version 1 1000000000) = true := Zl h2r
 have h2rnw := within_iff.1 h2rn
 refine Qg ?_
 have hk3 := Vw (n := version) (by omega)
 refine sn Qa [3, 4, 5] [3] (pc 1 (implFormatInt_a version (by omega)) (px (ob_slen (n := (ByteArray.size (Y3 version) + ByteArray.size (⟨#[10]⟩ : ByteArray))) (by have hq0 : ByteArray.size (⟨#[10]⟩ : ByteArray) = 1 := rfl; unfold maxLen; first | omega | (simp only [ByteArray.size_append]; omega))) p0)) ?_
 refine Qb ?_
 refine tn Qa [4, 5, 20, 21, 22] [] (pc 1 (implEncodeSnapshot_a x (by first | assumption | rfl) (by first | assumption | rfl)) (pl 2 (Yc x) p0)) ?_
 refine mz [(5, .s ((Y3 version) ++ (⟨#[10]⟩ : ByteArray))), (20, .o 1280 (Yc x)), (21, .i ((Yc x).length : Int)), (22, .i 0)] [0, 3, 15] [] [3] ?_
 refine wT 20 0 (.own true 1280) (Yc x) (fun hw4 hl5 => ?_)
 refine blL3 Ke implEncodeSlot_e0 (Yc x) ((Y3 version) ++ (⟨#[10]⟩ : ByteArray)) (fun k0 s0 => [(5, .s s0), (22, .i ((k0 : Nat) : Int))]) [5, 22] (fun y0 => [(5, .s y0)]) [5, 20, 21, 22] (fun k0 s0 => ByteArray.size s0 ≤ 40 + 60 * k0) (fun y0 => ByteArray.size y0 ≤ 400) wf0 (by have hq1 : ByteArray.size (⟨#[10]⟩ : ByteArray) = 1 := rfl; simp only [ByteArray.size_append]; omega) (fun k0 s0 hk0 hI0 => ?_) (fun k0 s0 hk0 hI0 => ?_) (fun y0 hD0 => ?_)
 ·
  have hA0_0 := hI0.2
  obtain ⟨a0, hx0⟩ := Xt (l := Yc x) (i := k0) hk0
  have hxs := hes.2 _ (List.mem_of_getElem? hx0)
  have hll := hes.1
  refine su Qa [(23, .b true)] [] [] [] (pe 0 (Qk (decide_eq_true (p := ((k0 : Nat) : Int) < ((Yc x).length : Int)) (by omega))) p0) ?_
  refine Qb ?_
  refine ckT ?_
  refine Qg ?_
  refine Qb ?_
  refine Qs ?_
  refine su Qa [(7, .s a0)] [23] [] [] (pN 0 hx0 p0) ?_
  refine rn Qa [4, 5, 20, 21, 22] [] (px (ob_slen (n := (ByteArray.size a0 + ByteArray.size (⟨#[10]⟩ : ByteArray))) (by have hq0 : ByteArray.size (⟨#[10]⟩ : ByteArray) = 1 := rfl; unfold maxLen; first | omega | (simp only [ByteArray.size_append]; omega))) (px (ob_slen (n := (ByteArray.size s0 + ByteArray.size (a0 ++ (⟨#[10]⟩ : ByteArray)))) (by have hq0 : ByteArray.size (⟨#[10]⟩ : ByteArray) = 1 := rfl; unfold maxLen; first | omega | (simp only [ByteArray.size_append]; omega))) p0)) ?_
  refine qn Qa [4, 5, 20, 21, 22] [] (pe 0 (J7 (Qp k0 (by omega))) p0) ?_
  exact xw (s0 ++ (a0 ++ (⟨#[10]⟩ : ByteArray))) ⟨Qu hx0 (rfl) hI0.1, (by have hq1 : ByteArray.size (⟨#[10]⟩ : ByteArray) = 1 := rfl; simp only [ByteArray.size_append]; omega)⟩
 ·
  have hA0_0 := hI0.2
  refine su Qa [(23, .b false)] [] [] [] (pe 0 (Qk (decide_eq_false (p := ((k0 : Nat) : Int) < ((Yc x).length : Int)) (by omega))) p0) ?_
  refine Qb ?_
  refine ckF ?_
  refine Q7 ?_
  exact xw s0 ⟨Xx hk0 (rfl) hI0.1, by first | omega | (simp only [List.length_set]; omega)⟩
 have hD0_0 := hD0.2
 have hk6 := check_bd y0
 have hk7 := Vw (n := J5 y0) (by omega)
 refine sn Qa [4] [] (pc 2 (implChecksum_a y0) (pc 3 (implFormatInt_a (J5 y0) (by omega)) (px (ob_slen (n := (ByteArray.size y0 + ByteArray.size (Y3 (J5 y0)))) (by unfold maxLen; first | omega | (simp only [ByteArray.size_append]; omega))) (px (ob_slen (n := (ByteArray.size (y0 ++ (Y3 (J5 y0))) + ByteArray.size (⟨#[46]⟩ : ByteArray))) (by have hq0 : ByteArray.size (⟨#[46]⟩ : ByteArray) = 1 := rfl; unfold maxLen; first | omega | (simp only [ByteArray.size_append]; omega))) p0)))) ?_
 refine Qf ?_
 exact ps [] (Qm h2 (on_b hD0.1 (rfl)))
def specEncodeSlot_f0 (_ : Nat) (a0 : ByteArray) (s0 : ByteArray) : Rd (ByteArray) (ByteArray) (ByteArray) := (.next ((s0 ++ a0) ++ (⟨#[10]⟩ : ByteArray)))
def specEncodeSlot_e0 (_ : Nat) (s0 : ByteArray) : ByteArray := s0
def X1 (version : Int) (x : Xq) : ByteArray := (bif ((!(Qx x)) || (!(Qo version 1 1000000000))) then ⟨#[]⟩ else (Out.on (Xz specEncodeSlot_f0 specEncodeSlot_e0 (Yh x) 0 ((Y3 version) ++ (⟨#[10]⟩ : ByteArray))) (fun y0 => ((y0 ++ (Y3 (Vb y0))) ++ (⟨#[46]⟩ : ByteArray)))))
theorem specEncodeSlot_a (version : Int) (x : Xq) (hf : List.length x.1.2.1 = 0) (hd : List.length x.2 = 0) : ACalls Tryz.prog 48 [.i version, .a [.h x.1.1, .h x.1.2.1, .i x.1.2.2, .h x.2]] (.s (X1 version x)) := by
 refine en Qa Tryz.func48 fun w0 F0 hG => ?_
 have hes := encS_bd x
 refine sn Qa [0, 3, 4] [3] (p0) ?_
 refine Qb ?_
 refine Qb ?_
 refine mz [(3, .p 3 0), (4, .s ⟨#[]⟩)] [1] [(3, [.h x.1.1, .h x.1.2.1, .i x.1.2.2, .h x.2])] [] ?_
 refine jn [(15, .b ((!(Qx x)) || (!(Qo version 1 1000000000))))] [] [] [] (!(Qx x)) (fun h1 => ?_) (fun h1 => ?_) ?_
 ·
  have h1n : (Qx x) = false := bnot_t h1
  refine rn Qa [0, 3, 4, 15] [3] (pc 1 (cb h1n (Z8 x)) (pe 2 (show .b (!false) = .b true from rfl) p0)) ?_
  exact ⟨rfl, Qd (by rw [h1] <;> kernel_rfl)⟩
 ·
  have h1n : (Qx x) = true := Zl h1
  have h1nn := snap_nextS h1n; have h1nl := snap_schS h1n
  refine rn Qa [0, 3, 4, 15] [3] (pc 1 (cb h1n (Z8 x)) (pe 2 (show .b (!true) = .b false from rfl) (pc 5 (Yb version 1 1000000000) p0))) ?_
  exact ⟨rfl, Qd (by rw [h1] <;> kernel_rfl)⟩
 refine ck ((!(Qx x)) || (!(Qo version 1 1000000000))) (fun h2 => ?_) (fun h2 => ?_)
 ·
  refine su Qa [] [15] [] [] (p0) ?_
  refine Qf ?_
  exact ps [] (Xw h2 (rfl))
 have h2l : ((!(Qx x))) = false := or_l h2
 have h2ln : (Qx x) = true := Zl h2l
 have h2lnn := snap_nextS h2ln; have h2lnl := snap_schS h2ln
 have h2r : ((!(Qo version 1 1000000000))) = false := or_r h2
 have h2rn : (Qo version 1 1000000000) = true := Zl h2r
 have h2rnw := l01In_iff.1 h2rn
 refine Qg ?_
 have hk3 := Vw (n := version) (by omega)
 refine sn Qa [3, 4, 5] [3] (pc 1 (specFormatInt_a version (by omega)) (px (ob_slen (n := (ByteArray.size (Y3 version) + ByteArray.size (⟨#[10]⟩ : ByteArray))) (by have hq0 : ByteArray.size (⟨#[10]⟩ : ByteArray) = 1 := rfl; unfold maxLen; first | omega | (simp only [ByteArray.size_append]; omega))) p0)) ?_
 refine tn Qa [4, 5, 6] [] (pc 1 (specEncodeSnapshot_a x (by first | assumption | rfl) (by first | assumption | rfl)) p0) ?_
 refine Qb ?_
 refine tu Qa [(5, .s ((Y3 version) ++ (⟨#[10]⟩ : ByteArray))), (6, .o 1280 (Yh x)), (7, .i 0)] [0, 3, 15] [] [3] (p0) ?_
 refine wT 6 0 (.own true 1280) (Yh x) (fun hw4 hl5 => ?_)
 refine blL3 specEncodeSlot_f0 specEncodeSlot_e0 (Yh x) ((Y3 version) ++ (⟨#[10]⟩ : ByteArray)) (fun k0 s0 => [(5, .s s0), (7, .i ((k0 : Nat) : Int))]) [5, 7] (fun y0 => [(5, .s y0)]) [5, 6, 7] (fun k0 s0 => ByteArray.size s0 ≤ 40 + 60 * k0) (fun y0 => ByteArray.size y0 ≤ 400) wf0 (by have hq1 : ByteArray.size (⟨#[10]⟩ : ByteArray) = 1 := rfl; simp only [ByteArray.size_append]; omega) (fun k0 s0 hk0 hI0 => ?_) (fun k0 s0 hk0 hI0 => ?_) (fun y0 hD0 => ?_)
 ·
  have hA0_0 := hI0.2
  obtain ⟨a0, hx0⟩ := Xt (l := Yh x) (i := k0) hk0
  have hxs := hes.2 _ (List.mem_of_getElem? hx0)
  have hll := hes.1
  refine Qb ?_
  refine sn Qa [4, 5, 6, 7, 24] [] (pl 2 (Yh x) (pe 3 (Qk (decide_eq_true (p := ((k0 : Nat) : Int) < ((Yh x).length : Int)) (by omega))) p0)) ?_
  refine ckT ?_
  refine Qg ?_
  refine Qb ?_
  refine Qs ?_
  refine qn Qa [4, 5, 6, 7] [] (pN 3 hx0 (px (ob_slen (n := (ByteArray.size s0 + ByteArray.size a0)) (by unfold maxLen; first | omega | (simp only [ByteArray.size_append]; omega))) (px (ob_slen (n := (ByteArray.size (s0 ++ a0) + ByteArray.size (⟨#[10]⟩ : ByteArray))) (by have hq0 : ByteArray.size (⟨#[10]⟩ : ByteArray) = 1 := rfl; unfold maxLen; first | omega | (simp only [ByteArray.size_append]; omega))) p0))) ?_
  refine qu Qa [(5, .s ((s0 ++ a0) ++ (⟨#[10]⟩ : ByteArray))), (7, .i ((k0 + 1 : Nat) : Int))] [5, 7] [] [] (pe 1 (J7 (Qp k0 (by omega))) p0) ?_
  exact xw ((s0 ++ a0) ++ (⟨#[10]⟩ : ByteArray)) ⟨Qu hx0 (rfl) hI0.1, (by have hq1 : ByteArray.size (⟨#[10]⟩ : ByteArray) = 1 := rfl; simp only [ByteArray.size_append]; omega)⟩
 ·
  have hA0_0 := hI0.2
  refine Qb ?_
  refine sn Qa [4, 5, 6, 7, 24] [] (pl 2 (Yh x) (pe 3 (Qk (decide_eq_false (p := ((k0 : Nat) : Int) < ((Yh x).length : Int)) (by omega))) p0)) ?_
  refine ckF ?_
  refine Q7 ?_
  exact xw s0 ⟨Xx hk0 (rfl) hI0.1, by first | omega | (simp only [List.length_set]; omega)⟩
 have hD0_0 := hD0.2
 have hk6 := check_bdS y0
 have hk7 := Vw (n := Vb y0) (by omega)
 refine sn Qa [4] [] (pc 2 (specChecksum_a y0) (pc 3 (specFormatInt_a (Vb y0) (by omega)) (px (ob_slen (n := (ByteArray.size y0 + ByteArray.size (Y3 (Vb y0)))) (by unfold maxLen; first | omega | (simp only [ByteArray.size_append]; omega))) (px (ob_slen (n := (ByteArray.size (y0 ++ (Y3 (Vb y0))) + ByteArray.size (⟨#[46]⟩ : ByteArray))) (by have hq0 : ByteArray.size (⟨#[46]⟩ : ByteArray) = 1 := rfl; unfold maxLen; first | omega | (simp only [ByteArray.size_append]; omega))) p0)))) ?_
 refine Qf ?_
 exact ps [] (Qm h2 (on_b hD0.1 (rfl)))
theorem one_line {s : ByteArray} (h : s = ⟨#[]⟩) : decide (((strCut 10 s).length : Int) < (2 : Int)) = true := by subst h; decide
theorem no_line {s : ByteArray} (h : s = ⟨#[]⟩) : (((specl27Cut s).length : Int) == (0 : Int)) = true := by subst h; rfl
open GoE (enc wide)
def Za (f : Zr) : Zr := f
theorem specl04Copy_a (f : Zr) : ACalls Tryz.prog 80 [.a [.i f.1, .i f.2.1, .b f.2.2.1, .i f.2.2.2.1, .h f.2.2.2.2]] (.a [.i ((Za f).1), .i ((Za f).2.1), .b ((Za f).2.2.1), .i ((Za f).2.2.2.1), .o 0 ((Za f).2.2.2.2)]) := by
 refine en Qa Tryz.func80 fun w0 F0 hG => ?_
 refine sn Qa [1, 2] [1, 2] (p0) ?_
 refine wB 1 4 .sh f.2.2.2.2 (fun hw1 hl2 => ?_)
 refine tn Qa [1, 2] [1, 2] (po 3 (.flat) (px (ob_len (n := (([] : List (List PV)).length + ((eL f.2.2.2.2) : List (List PV)).length)) (len_of (rfl) (Ym f.2.2.2.2) (by first | omega | (simp only [List.length_cons, List.length_nil]; omega) | (simp; omega) | simp))) (px (ob_flat (flat_eL f.2.2.2.2)) p0))) ?_
 refine tu Qa [(2, .p 2 0)] [0] [(2, [.i f.1, .i f.2.1, .b f.2.2.1, .i f.2.2.2.1, .o 384 f.2.2.2.2])] [] (p0) ?_
 refine Qf ?_
 exact pz [] (show Za f = f from rfl) (fun z => .a [.i z.1, .i z.2.1, .b z.2.2.1, .i z.2.2.2.1, .o 0 z.2.2.2.2])
def specl05Copy_f0 (_ : Nat) (a0 : Zr) (s0 : (List Zr)) : Rd (Yv) ((List Zr)) ((List Zr)) := (.next (s0 ++ [(Za a0)]))
def specl05Copy_e0 (_ : Nat) (s0 : (List Zr)) : (List Zr) := s0
def Vo (s_ : Yv) : Yv := (Out.on (Xz specl05Copy_f0 specl05Copy_e0 s_.2.1 0 []) (fun y0 => (s_.1, y0, s_.2.2)))
theorem specl05Copy_a (s_ : Yv) : ACalls Tryz.prog 44 [.a [.h s_.1, .h s_.2.1, .i s_.2.2]] (.a [.o 0 ((Vo s_).1), .o 1 ((Vo s_).2.1), .i ((Vo s_).2.2)]) := by
 refine en Qa Tryz.func44 fun w0 F0 hG => ?_
 refine sn Qa [1, 2] [1, 2] (p0) ?_
 refine wB 1 0 .sh s_.1 (fun hw1 hl2 => ?_)
 refine tN Qa Y2 [1, 2, 3] [1, 2, 3] (po 3 (.flat) (px (ob_len (n := (([] : List (List PV)).length + ((eL s_.1) : List (List PV)).length)) (len_of (rfl) (Ym s_.1) (by first | omega | (simp only [List.length_cons, List.length_nil]; omega) | (simp; omega) | simp))) (px (ob_flat (flat_eL s_.1)) p0))) ?_
 refine Qb ?_
 refine tu Qa [(1, .p 1 0), (2, .p 2 0), (3, .p 3 0), (4, .i 0)] [0] [(1, [.h s_.1, .h s_.2.1, .i s_.2.2]), (2, [.e 2, .e 5, .i 0]), (3, [.o 512 s_.1, .e 5, .i s_.2.2])] [] (p0) ?_
 refine wB 1 1 .sh s_.2.1 (fun hw3 hl4 => ?_)
 refine blL1b specl05Copy_f0 specl05Copy_e0 s_.2.1 [] (fun k0 _ => [(4, .i ((k0 : Nat) : Int))]) [4] (fun _ s0 => [(3, [.o 512 s_.1, .o 147211 s0, .i s_.2.2])]) [3] (fun _ => []) [1, 4] (fun y0 => [(3, [.o 512 s_.1, .o 147361 y0, .i s_.2.2])]) [1, 3] (fun k0 s0 => List.length s0 ≤ k0) (weak_gf [(true, 3, 1, true, 320008, 5)] [] [] [(320008, 147211)] (by kernel_rfl)) (by simp) (fun k0 s0 hk0 hI0 => ?_) (fun k0 s0 hk0 hI0 => ?_) (fun y0 hD0 => ?_)
 ·
  have hA0_0 := hI0.2
  obtain ⟨a0, hx0⟩ := Xt (l := s_.2.1) (i := k0) hk0
  refine Qb ?_
  refine su Qa [(16, .b true)] [] [] [] (pl 3 s_.2.1 (pe 4 (Qk (decide_eq_true (p := ((k0 : Nat) : Int) < (s_.2.1.length : Int)) (by omega))) p0)) ?_
  refine ckT ?_
  refine Qg ?_
  refine Qb ?_
  refine Qs ?_
  refine wB 3 1 (.own true 147211) s0 (fun hw5 hl6 => ?_)
  refine rU Qa Y2 [] [16] [(3, [.o 512 s_.1, .slc (.own true 1792) 5 ((eL s0) ++ [[.i ((Za a0).1), .i ((Za a0).2.1), .b ((Za a0).2.2.1), .i ((Za a0).2.2.2.1), .h ((Za a0).2.2.2.2)]]), .i s_.2.2])] [3] (pn 5 hx0 (pc 7 (specl04Copy_a a0) (pa s0 [(Za a0)] p0))) ?_
  refine eqn [] [] [(3, [.o 512 s_.1, .o 1792 (s0 ++ [(Za a0)]), .i s_.2.2])] [3] (by rw [show ((eL s0) ++ [[.i ((Za a0).1), .i ((Za a0).2.1), .b ((Za a0).2.2.1), .i ((Za a0).2.2.2.1), .h ((Za a0).2.2.2.2)]]) = (eL (s0 ++ [(Za a0)])) from app_eL (rfl) (rfl)]; first | done | kernel_rfl) ?_
  refine rn Qa [1, 2, 3, 4] [1, 2, 3] (pe 1 (J7 (Qp k0 (by omega))) p0) ?_
  exact Exists.intro (s0 ++ [(Za a0)]) (And.intro (Yw [(1792, 147211)] (by kernel_rfl)) ⟨Qu hx0 (rfl) hI0.1, by first | omega | (simp; omega) | simp⟩)
 ·
  have hA0_0 := hI0.2
  refine Qb ?_
  refine su Qa [(16, .b false)] [] [] [] (pl 3 s_.2.1 (pe 4 (Qk (decide_eq_false (p := ((k0 : Nat) : Int) < (s_.2.1.length : Int)) (by omega))) p0)) ?_
  refine ckF ?_
  refine Q7 ?_
  exact Exists.intro _ (And.intro (Yw [(147211, 147361)] (by kernel_rfl)) (Xx hk0 (rfl) hI0.1))
 refine sn Qa [2] [2] (p0) ?_
 refine Qf ?_
 exact pz [] (show Vo s_ = _ from on_b hD0 (rfl)) (fun z => .a [.o 0 z.1, .o 1 z.2.1, .i z.2.2])
def specl11Copy_f0 (_ : Nat) (a0 : Y7) (s0 : (List Y7)) : Rd ((List Y7)) ((List Y7)) ((List Y7)) := (.next (s0 ++ [a0]))
def specl11Copy_e0 (_ : Nat) (s0 : (List Y7)) : (List Y7) := s0
def specl11Copy (d : (List Y7)) : (List Y7) := (Out.on (Xz specl11Copy_f0 specl11Copy_e0 d 0 []) (fun y0 => y0))
theorem specl11Copy_a (d : (List Y7)) : ACalls Tryz.prog 45 [.h d] (.o 0 (specl11Copy d)) := by
 refine en Qa Tryz.func45 fun w0 F0 hG => ?_
 refine sn Qa [0, 2] [] (p0) ?_
 refine tn Qa [0, 2, 3] [] (p0) ?_
 refine Qb ?_
 refine tu Qa [(2, .e 0), (3, .one (.slc (.own true 320) 2 [])), (4, .i 0)] [] [] [] (p0) ?_
 refine wT 0 0 .sh d (fun hw1 hl2 => ?_)
 refine blL1 specl11Copy_f0 specl11Copy_e0 d [] (fun k0 s0 => [(3, .o 147202 s0), (4, .i ((k0 : Nat) : Int))]) [3, 4] (fun y0 => [(3, .o 147352 y0)]) [0, 3, 4] (fun k0 s0 => List.length s0 ≤ k0) (Yw [(320, 147202)] (by kernel_rfl)) (by simp) (fun k0 s0 hk0 hI0 => ?_) (fun k0 s0 hk0 hI0 => ?_) (fun y0 hD0 => ?_)
 ·
  have hA0_0 := hI0.2
  obtain ⟨a0, hx0⟩ := Xt (l := d) (i := k0) hk0
  refine Qb ?_
  refine sn Qa [0, 2, 3, 4, 9] [] (pl 2 d (pe 3 (Qk (decide_eq_true (p := ((k0 : Nat) : Int) < (d.length : Int)) (by omega))) p0)) ?_
  refine ckT ?_
  refine Qg ?_
  refine Qb ?_
  refine Qs ?_
  have hl3 : List.length a0.2 ≤ 1073741824 := wide_len (wide_snd (wide_get hx0 (hw1)))
  refine wT 3 0 (.own true 147202) s0 (fun hw4 hl5 => ?_)
  refine qU Qa Y2 [(3, .one (.slc (.own true 1728) 2 ((eL s0) ++ [[.s a0.1, .slc 7 ([] ++ (eL a0.2))]])))] [3] [] [] (pn 3 hx0 (pn 9 hx0 (po 12 (.flat) (px (ob_len (n := (([] : List (List PV)).length + ((eL a0.2) : List (List PV)).length)) (len_of (rfl) (Ym a0.2) (by first | omega | (simp only [List.length_cons, List.length_nil]; omega) | (simp; omega) | simp))) (px (ob_flat (flat_eL a0.2)) (px (ob_len (n := (((eL s0) : List (List PV)).length + ([[.s a0.1, .slc 7 ([] ++ (eL a0.2))]] : List (List PV)).length)) (len_of (Ym s0) (rfl) (by first | omega | (simp only [List.length_cons, List.length_nil]; omega) | (simp; omega) | simp))) p0)))))) ?_
  refine eqn [(3, .o 1728 (s0 ++ [a0]))] [3] [] [] (by rw [show ((eL s0) ++ [[.s a0.1, .slc 7 ([] ++ (eL a0.2))]]) = (eL (s0 ++ [a0])) from app_eL (rfl) (rfl)]; first | done | kernel_rfl) ?_
  refine rn Qa [0, 2, 3, 4] [] (pe 1 (J7 (Qp k0 (by omega))) p0) ?_
  exact Exists.intro (s0 ++ [a0]) (And.intro (Yw [(1728, 147202)] (by kernel_rfl)) ⟨Qu hx0 (rfl) hI0.1, by first | omega | (simp; omega) | simp⟩)
 ·
  have hA0_0 := hI0.2
  refine Qb ?_
  refine sn Qa [0, 2, 3, 4, 9] [] (pl 2 d (pe 3 (Qk (decide_eq_false (p := ((k0 : Nat) : Int) < (d.length : Int)) (by omega))) p0)) ?_
  refine ckF ?_
  refine Q7 ?_
  exact Exists.intro _ (And.intro (Yw [(147202, 147352)] (by kernel_rfl)) (Xx hk0 (rfl) hI0.1))
 refine sn Qa [2] [] (p0) ?_
 refine Qf ?_
 exact po0 [] (on_b hD0 (rfl))
def Xc (x : Xq) : Xq := ((Vo x.1), (specl11Copy x.2))
theorem specl28State_a (x : Xq) : ACalls Tryz.prog 51 [.a [.h x.1.1, .h x.1.2.1, .i x.1.2.2, .h x.2]] (.a [.o 0 ((Xc x).1.1), .o 1 ((Xc x).1.2.1), .i ((Xc x).1.2.2), .o 2 ((Xc x).2)]) := by
 refine en Qa Tryz.func51 fun w0 F0 hG => ?_
 refine sn Qa [1, 2] [1, 2] (p0) ?_
 refine tN Qa Y2 [2] [2] (pc 2 (specl05Copy_a x.1) (pc 5 (specl11Copy_a x.2) p0)) ?_
 refine Qf ?_
 exact pz [] (show Xc x = ((Vo x.1), (specl11Copy x.2)) from rfl) (fun z => .a [.o 0 z.1.1, .o 1 z.1.2.1, .i z.1.2.2, .o 2 z.2])
def specl28Copy_f0 (_ : Nat) (a0 : Yg) (s0 : (List Yg)) : Rd ((List Yg)) ((List Yg)) ((List Yg)) := (.next (s0 ++ [(a0.1, (Xc a0.2.1), a0.2.2)]))
def specl28Copy_e0 (_ : Nat) (s0 : (List Yg)) : (List Yg) := s0
def Jl (k_ : (List Yg)) : (List Yg) := (Out.on (Xz specl28Copy_f0 specl28Copy_e0 k_ 0 []) (fun y0 => y0))
theorem specl28Copy_a (k_ : (List Yg)) : ACalls Tryz.prog 50 [.h k_] (.o 0 (Jl k_)) := by
 refine en Qa Tryz.func50 fun w0 F0 hG => ?_
 refine sn Qa [0, 2] [] (p0) ?_
 refine tn Qa [0, 2, 3] [] (p0) ?_
 refine Qb ?_
 refine tu Qa [(2, .e 0), (3, .one (.slc (.own true 320) 6 [])), (4, .i 0)] [] [] [] (p0) ?_
 refine wT 0 0 .sh k_ (fun hw1 hl2 => ?_)
 refine blL1 specl28Copy_f0 specl28Copy_e0 k_ [] (fun k0 s0 => [(3, .o 147202 s0), (4, .i ((k0 : Nat) : Int))]) [3, 4] (fun y0 => [(3, .o 147352 y0)]) [0, 3, 4] (fun k0 s0 => List.length s0 ≤ k0) (Yw [(320, 147202)] (by kernel_rfl)) (by simp) (fun k0 s0 hk0 hI0 => ?_) (fun k0 s0 hk0 hI0 => ?_) (fun y0 hD0 => ?_)
 ·
  have hA0_0 := hI0.2
  obtain ⟨a0, hx0⟩ := Xt (l := k_) (i := k0) hk0
  refine Qb ?_
  refine sn Qa [0, 2, 3, 4, 9] [] (pl 2 k_ (pe 3 (Qk (decide_eq_true (p := ((k0 : Nat) : Int) < (k_.length : Int)) (by omega))) p0)) ?_
  refine ckT ?_
  refine Qg ?_
  refine Qb ?_
  refine Qs ?_
  refine wT 3 0 (.own true 147202) s0 (fun hw3 hl4 => ?_)
  refine qU Qa Y2 [(3, .one (.slc (.own true 1984) 6 ((eL s0) ++ [[.i a0.1, .h ((Xc a0.2.1).1.1), .h ((Xc a0.2.1).1.2.1), .i ((Xc a0.2.1).1.2.2), .h ((Xc a0.2.1).2), .i a0.2.2]])))] [3] [] [] (pn 3 hx0 (pn 8 hx0 (pc 11 (specl28State_a a0.2.1) (pn 14 hx0 (pa s0 [(a0.1, (Xc a0.2.1), a0.2.2)] p0))))) ?_
  refine eqn [(3, .o 1984 (s0 ++ [(a0.1, (Xc a0.2.1), a0.2.2)]))] [3] [] [] (by rw [show ((eL s0) ++ [[.i a0.1, .h ((Xc a0.2.1).1.1), .h ((Xc a0.2.1).1.2.1), .i ((Xc a0.2.1).1.2.2), .h ((Xc a0.2.1).2), .i a0.2.2]]) = (eL (s0 ++ [(a0.1, (Xc a0.2.1), a0.2.2)])) from app_eL (rfl) (rfl)]; first | done | kernel_rfl) ?_
  refine rn Qa [0, 2, 3, 4] [] (pe 1 (J7 (Qp k0 (by omega))) p0) ?_
  exact Exists.intro (s0 ++ [(a0.1, (Xc a0.2.1), a0.2.2)]) (And.intro (Yw [(1984, 147202)] (by kernel_rfl)) ⟨Qu hx0 (rfl) hI0.1, by first | omega | (simp; omega) | simp⟩)
 ·
  have hA0_0 := hI0.2
  refine Qb ?_
  refine sn Qa [0, 2, 3, 4, 9] [] (pl 2 k_ (pe 3 (Qk (decide_eq_false (p := ((k0 : Nat) : Int) < (k_.length : Int)) (by omega))) p0)) ?_
  refine ckF ?_
  refine Q7 ?_
  exact Exists.intro _ (And.intro (Yw [(147202, 147352)] (by kernel_rfl)) (Xx hk0 (rfl) hI0.1))
 refine sn Qa [2] [] (p0) ?_
 refine Qf ?_
 exact po0 [] (on_b hD0 (rfl))
theorem l05Copy_id (s : Yv) : Vo s = s := by
  unfold Vo
  rw [forL_map (f := specl05Copy_f0 ) (g := id) (fun _ _ _ => rfl), List.map_id]
  rfl
theorem l11Copy_id (d : List Y7) : specl11Copy d = d := by
  unfold specl11Copy
  rw [forL_map (f := specl11Copy_f0) (g := id) (fun _ _ _ => rfl), List.map_id]
  rfl
theorem l28State_id (x : Xq) : Xc x = x := by
  unfold Xc
  rw [l05Copy_id, l11Copy_id]
theorem l28Copy_id (v : List Yg) : Jl v = v := by
  unfold Jl
  rw [forL_map (f := specl28Copy_f0) (g := id) (fun _ a _ => by unfold specl28Copy_f0; rw [l28State_id]; rfl), List.map_id]
  rfl
theorem l28Copy_len (v : List Yg) : (Jl v).length = v.length := by rw [l28Copy_id]
end
end Go.Proofs.YtoimjneljlpolaaGreatDoor
