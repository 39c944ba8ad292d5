/- Texts of this proof, put together by a program: Iva, Ivb, Cva, Cvb, Tw, Clr, Inr, Ins, Df, Rk, Cwa, Cwb, Ma, He, Lw. -/
import Derived.Test.YtkadekboakhhiaaGreatP4
import Derived.KernelRfl
import Derived.Laws.Externs
import Derived.Lib.AppendZerosOnto
import Derived.Deep.RegionLaw
import Derived.Test.YtkadekboakhhiaaGreatProg
import Derived.Laws.IdiomStrings
set_option linter.unusedVariables false
set_option linter.unusedSimpArgs false
namespace Go.Proofs.YtkadekboakhhiaaGreat
section
open Go.RowKit
open GoE (enc wide)
def implFieldKind_f0 (name : ByteArray) (_ : Nat) (a0 : FieldD) (_ : Unit) : Rd (Int) (Unit) (Unit) := (bif (a0.1.toList == name.toList) then (.ret a0.2) else (.next ()))
def implFieldKind_e0 (_ : Nat) (_ : Unit) : Unit := ()
def implFieldKind (s_ : (List FieldD)) (name : ByteArray) : Int := (Out.on (forL (implFieldKind_f0 name) implFieldKind_e0 s_ 0 ()) (fun _ => 0))
theorem implFieldKind_a (s_ : (List FieldD)) (name : ByteArray) : ACalls Tryz.prog 111 [.h s_, .s name] (.i (implFieldKind s_ name)) := by
 refine en tt_ok Tryz.func111 fun w0 F0 hG => ?_
 refine sn tt_ok [0, 1, 4] [] (p0) ?_
 refine awp_seq ?_
 refine tn tt_ok [1, 4, 7, 8, 9] [] (pl 1 s_ p0) ?_
 refine mz [(4, .i 0), (7, .h s_), (8, .i (s_.length : Int)), (9, .i 0)] [0] [] [] ?_
 refine wT 7 0 .sh s_ (fun hw1 hl2 => ?_)
 refine blL0 (implFieldKind_f0 name) implFieldKind_e0 s_ () (fun k0 _ => [(9, .i ((k0 : Nat) : Int))]) [9] (fun _ => []) [1, 7, 8, 9] wf0 (fun k0 s0 hk0 hI0 => ?_) (fun k0 s0 hk0 hI0 => ?_) (fun y0 hD0 => ?_)
 ·
  obtain ⟨a0, hx0⟩ := get_some (l := s_) (i := k0) hk0
  refine sn tt_ok [1, 4, 7, 8, 9, 10] [] (pe 0 (av_bool (decide_eq_true (p := ((k0 : Nat) : Int) < (s_.length : Int)) (by omega))) p0) ?_
  refine awp_seq ?_
  refine ckT ?_
  refine awp_skip ?_
  refine awp_seq ?_
  refine awp_block ?_
  refine tn tt_ok [1, 4, 6, 7, 8, 9] [6] (pn 0 hx0 p0) ?_
  refine tu tt_ok [(6, .p 6 0), (16, .b (a0.1.toList == name.toList))] [] [(6, [.s a0.1, .i a0.2])] [] (p0) ?_
  refine ck (a0.1.toList == name.toList) (fun h3 => ?_) (fun h3 => ?_)
  ·
   refine sn tt_ok [1, 4, 7, 8, 9] [] (p0) ?_
   refine awp_ret ?_
   have hr4 : (forL (implFieldKind_f0 name) implFieldKind_e0 s_ 0 ()) = .ret a0.2 := forL_ret hx0 (bif_t h3 (rfl)) hI0
   exact pi [] (on_r hr4)
  refine awp_skip ?_
  refine rn tt_ok [1, 4, 7, 8, 9] [] (pe 0 (av_i (wrap_succ k0 (by omega))) p0) ?_
  exact xw _ (forL_next hx0 (bif_f h3 (rfl)) hI0)
 ·
  refine sn tt_ok [1, 4, 7, 8, 9, 10] [] (pe 0 (av_bool (decide_eq_false (p := ((k0 : Nat) : Int) < (s_.length : Int)) (by omega))) p0) ?_
  refine awp_seq ?_
  refine ckF ?_
  refine awp_exit ?_
  exact xw _ (forL_end hk0 (rfl) hI0)
 refine sn tt_ok [4] [] (p0) ?_
 refine awp_ret ?_
 exact pi [] (on_b hD0 (rfl))
def implMatchesSchema (s_ : (List FieldD)) (name : ByteArray) (v : ValueD) : Bool := ((implIsValidValue v) && ((v.1 != (0 : Int)) && (v.1 == (implFieldKind s_ name))))
theorem implMatchesSchema_a (s_ : (List FieldD)) (name : ByteArray) (v : ValueD) : ACalls Tryz.prog 87 [.h s_, .s name, .a [.i v.1, .i v.2.1, .s v.2.2]] (.b (implMatchesSchema s_ name v)) := by
 refine en tt_ok Tryz.func87 fun w0 F0 hG => ?_
 refine sn tt_ok [0, 1, 5, 6] [5] (p0) ?_
 refine awp_seq ?_
 refine mz [(5, .p 5 0), (6, .b false)] [2] [(5, [.i v.1, .i v.2.1, .s v.2.2])] [] ?_
 refine jn [(6, .b ((implIsValidValue v) && ((v.1 != (0 : Int)) && (v.1 == (implFieldKind s_ name)))))] [0, 1, 5, 6] [] [5] (implIsValidValue v) (fun h1 => ?_) (fun h1 => ?_) ?_
 ·
  refine awp_split (v.1 != (0 : Int)) (fun h2 => ?_) (fun h2 => ?_)
  ·
   refine rN tt_ok tt_mx [6] [] (pc 1 (cb h1 (implIsValidValue_a v)) (pt 5 h2 (pc 12 (implFieldKind_a s_ name) p0))) ?_
   exact ⟨rfl, weak_fit (by rw [h1, h2] <;> kernel_rfl)⟩
  refine rN tt_ok tt_mx [6] [] (pc 1 (cb h1 (implIsValidValue_a v)) (pf 5 h2 p0)) ?_
  exact ⟨rfl, weak_fit (by rw [h1, h2] <;> kernel_rfl)⟩
 ·
  refine rN tt_ok tt_mx [6] [] (pc 1 (cb h1 (implIsValidValue_a v)) p0) ?_
  exact ⟨rfl, weak_fit (by rw [h1] <;> kernel_rfl)⟩
 refine awp_ret ?_
 exact pb [] (show implMatchesSchema s_ name v = ((implIsValidValue v) && ((v.1 != (0 : Int)) && (v.1 == (implFieldKind s_ name)))) from rfl)
def implisUser (n : Int) : Bool := (implwithin n 0 2)
theorem implisUser_a (n : Int) : ACalls Tryz.prog 88 [.i n] (.b (implisUser n)) := by
 refine en tt_ok Tryz.func88 fun w0 F0 hG => ?_
 refine sn tt_ok [0, 2] [] (p0) ?_
 refine tn tt_ok [2] [] (pc 1 (implwithin_a n 0 2) p0) ?_
 refine awp_ret ?_
 exact pb [] (show implisUser n = (implwithin n 0 2) from rfl)
def implIsValidSchema_f0 (s_ : (List FieldD)) (k0 : Nat) (a0 : FieldD) (_ : Unit) : Rd (Bool) (Unit) (Unit) := (bif ((!(implIsValidAttrName a0.1)) || (bif (a0.2 != (1 : Int)) then ((a0.2 != (2 : Int)) || (decide (((k0 : Nat) : Int) > (0 : Int)) && (!(Op.bytesLess ((nth s_ (Int.toNat (((k0 : Nat) : Int) - 1))).1).toList a0.1.toList)))) else (decide (((k0 : Nat) : Int) > (0 : Int)) && (!(Op.bytesLess ((nth s_ (Int.toNat (((k0 : Nat) : Int) - 1))).1).toList a0.1.toList))))) then (.ret false) else (.next ()))
def implIsValidSchema_e0 (_ : Nat) (_ : Unit) : Unit := ()
def implIsValidSchema (s_ : (List FieldD)) : Bool := (Out.on (forL (implIsValidSchema_f0 s_) implIsValidSchema_e0 s_ 0 ()) (fun _ => decide ((s_.length : Int) ≤ (5 : Int))))
theorem implIsValidSchema_a (s_ : (List FieldD)) : ACalls Tryz.prog 69 [.h s_] (.b (implIsValidSchema s_)) := by
 refine en tt_ok Tryz.func69 fun w0 F0 hG => ?_
 refine sn tt_ok [0, 2] [] (p0) ?_
 refine awp_seq ?_
 refine tn tt_ok [0, 2, 5, 6, 7] [] (pl 1 s_ p0) ?_
 refine mz [(2, .b false), (5, .h s_), (6, .i (s_.length : Int)), (7, .i 0)] [] [] [] ?_
 refine wT 0 0 .sh s_ (fun hw1 hl2 => ?_)
 refine blL0 (implIsValidSchema_f0 s_) implIsValidSchema_e0 s_ () (fun k0 _ => [(7, .i ((k0 : Nat) : Int))]) [7] (fun _ => []) [5, 6, 7] wf0 (fun k0 s0 hk0 hI0 => ?_) (fun k0 s0 hk0 hI0 => ?_) (fun y0 hD0 => ?_)
 ·
  obtain ⟨a0, hx0⟩ := get_some (l := s_) (i := k0) hk0
  refine sn tt_ok [0, 2, 5, 6, 7, 8] [] (pe 0 (av_bool (decide_eq_true (p := ((k0 : Nat) : Int) < (s_.length : Int)) (by omega))) p0) ?_
  refine awp_seq ?_
  refine ckT ?_
  refine awp_skip ?_
  refine awp_seq ?_
  refine awp_block ?_
  refine tn tt_ok [0, 2, 3, 4, 5, 6, 7] [4] (pn 1 hx0 p0) ?_
  refine awp_seq ?_
  refine mz [(3, .i ((k0 : Nat) : Int)), (4, .p 4 0)] [] [(4, [.s a0.1, .i a0.2])] [] ?_
  refine jn [(40, .b ((!(implIsValidAttrName a0.1)) || (bif (a0.2 != (1 : Int)) then ((a0.2 != (2 : Int)) || (decide (((k0 : Nat) : Int) > (0 : Int)) && (!(Op.bytesLess ((nth s_ (Int.toNat (((k0 : Nat) : Int) - 1))).1).toList a0.1.toList)))) else (decide (((k0 : Nat) : Int) > (0 : Int)) && (!(Op.bytesLess ((nth s_ (Int.toNat (((k0 : Nat) : Int) - 1))).1).toList a0.1.toList))))))] [3, 4] [] [4] (!(implIsValidAttrName a0.1)) (fun h3 => ?_) (fun h3 => ?_) ?_
  ·
   have h3n : (implIsValidAttrName a0.1) = false := bnot_t h3
   refine rN tt_ok tt_mx [0, 2, 5, 6, 7, 40] [] (pc 2 (cb h3n (implIsValidAttrName_a a0.1)) (pe 3 (show .b (!false) = .b true from rfl) p0)) ?_
   exact ⟨rfl, weak_fit (by rw [h3] <;> kernel_rfl)⟩
  ·
   have h3n : (implIsValidAttrName a0.1) = true := bnot_f h3
   refine awp_split (a0.2 != (1 : Int)) (fun h4 => ?_) (fun h4 => ?_)
   ·
    have h4d := ne_of_bne h4
    refine awp_split (a0.2 != (2 : Int)) (fun h5 => ?_) (fun h5 => ?_)
    ·
     refine rN tt_ok tt_mx [0, 2, 5, 6, 7, 40] [] (pc 2 (cb h3n (implIsValidAttrName_a a0.1)) (pe 3 (show .b (!true) = .b false from rfl) (pt 7 h4 (pt 11 h5 p0)))) ?_
     exact ⟨rfl, weak_fit (by rw [h3, h4, h5] <;> kernel_rfl)⟩
    have h5d := eq_of_bne h5
    refine awp_split (decide (((k0 : Nat) : Int) > (0 : Int))) (fun h6 => ?_) (fun h6 => ?_)
    ·
     have h6d := of_decide_eq_true h6
     have hx7 := ng s_ (Int.toNat (((k0 : Nat) : Int) - 1))
     refine rN tt_ok tt_mx [0, 2, 5, 6, 7, 40] [] (pc 2 (cb h3n (implIsValidAttrName_a a0.1)) (pe 3 (show .b (!true) = .b false from rfl) (pt 7 h4 (pf 11 h5 (pt 16 h6 (pe 20 (av_i (IntWalk.i64_in (((k0 : Nat) : Int) - 1) (by omega))) (pg 21 (((k0 : Nat) : Int) - 1) hx7 p0))))))) ?_
     exact ⟨rfl, weak_fit (by rw [h3, h4, h5, h6] <;> kernel_rfl)⟩
    refine rN tt_ok tt_mx [0, 2, 5, 6, 7, 40] [] (pc 2 (cb h3n (implIsValidAttrName_a a0.1)) (pe 3 (show .b (!true) = .b false from rfl) (pt 7 h4 (pf 11 h5 (pf 16 h6 p0))))) ?_
    exact ⟨rfl, weak_fit (by rw [h3, h4, h5, h6] <;> kernel_rfl)⟩
   have h4d := eq_of_bne h4
   refine awp_split (decide (((k0 : Nat) : Int) > (0 : Int))) (fun h8 => ?_) (fun h8 => ?_)
   ·
    have h8d := of_decide_eq_true h8
    have hx9 := ng s_ (Int.toNat (((k0 : Nat) : Int) - 1))
    refine rN tt_ok tt_mx [0, 2, 5, 6, 7, 40] [] (pc 2 (cb h3n (implIsValidAttrName_a a0.1)) (pe 3 (show .b (!true) = .b false from rfl) (pf 7 h4 (pt 16 h8 (pe 20 (av_i (IntWalk.i64_in (((k0 : Nat) : Int) - 1) (by omega))) (pg 21 (((k0 : Nat) : Int) - 1) hx9 p0)))))) ?_
    exact ⟨rfl, weak_fit (by rw [h3, h4, h8] <;> kernel_rfl)⟩
   refine rN tt_ok tt_mx [0, 2, 5, 6, 7, 40] [] (pc 2 (cb h3n (implIsValidAttrName_a a0.1)) (pe 3 (show .b (!true) = .b false from rfl) (pf 7 h4 (pf 16 h8 p0)))) ?_
   exact ⟨rfl, weak_fit (by rw [h3, h4, h8] <;> kernel_rfl)⟩
  refine ck ((!(implIsValidAttrName a0.1)) || (bif (a0.2 != (1 : Int)) then ((a0.2 != (2 : Int)) || (decide (((k0 : Nat) : Int) > (0 : Int)) && (!(Op.bytesLess ((nth s_ (Int.toNat (((k0 : Nat) : Int) - 1))).1).toList a0.1.toList)))) else (decide (((k0 : Nat) : Int) > (0 : Int)) && (!(Op.bytesLess ((nth s_ (Int.toNat (((k0 : Nat) : Int) - 1))).1).toList a0.1.toList))))) (fun h10 => ?_) (fun h10 => ?_)
  ·
   refine su tt_ok [] [40] [] [] (p0) ?_
   refine awp_ret ?_
   have hr11 : (forL (implIsValidSchema_f0 s_) implIsValidSchema_e0 s_ 0 ()) = .ret false := forL_ret hx0 (bif_t h10 (rfl)) hI0
   exact pb [] (on_r hr11)
  refine awp_skip ?_
  refine rn tt_ok [0, 2, 5, 6, 7] [] (pe 0 (av_i (wrap_succ k0 (by omega))) p0) ?_
  exact xw _ (forL_next hx0 (bif_f h10 (rfl)) hI0)
 ·
  refine sn tt_ok [0, 2, 5, 6, 7, 8] [] (pe 0 (av_bool (decide_eq_false (p := ((k0 : Nat) : Int) < (s_.length : Int)) (by omega))) p0) ?_
  refine awp_seq ?_
  refine ckF ?_
  refine awp_exit ?_
  exact xw _ (forL_end hk0 (rfl) hI0)
 refine sn tt_ok [2] [] (pl 1 s_ p0) ?_
 refine awp_ret ?_
 exact pb [] (on_b hD0 (rfl))
def implIsValidFile_f0 (s_ : (List FieldD)) (f : FileD) (k0 : Nat) (a0 : AttrD) (_ : Unit) : Rd (Bool) (Unit) (Unit) := (bif (bif decide (((k0 : Nat) : Int) > (0 : Int)) then ((!(Op.bytesLess ((nth f.2.2.2.2 (Int.toNat (((k0 : Nat) : Int) - 1))).1).toList a0.1.toList)) || (!(implMatchesSchema s_ a0.1 a0.2))) else (!(implMatchesSchema s_ a0.1 a0.2))) then (.ret false) else (.next ()))
def implIsValidFile_e0 (_ : Nat) (_ : Unit) : Unit := ()
def implIsValidFile (s_ : (List FieldD)) (f : FileD) : Bool := (Out.on (forL (implIsValidFile_f0 s_ f) implIsValidFile_e0 f.2.2.2.2 0 ()) (fun _ => ((implwithin f.1 1 60) && ((implisUser f.2.1) && ((implwithin f.2.2.2.1 0 60) && (implIsValidSchema s_))))))
theorem implIsValidFile_a (s_ : (List FieldD)) (f : FileD) : ACalls Tryz.prog 68 [.h s_, .a [.i f.1, .i f.2.1, .b f.2.2.1, .i f.2.2.2.1, .h f.2.2.2.2]] (.b (implIsValidFile s_ f)) := by
 refine en tt_ok Tryz.func68 fun w0 F0 hG => ?_
 refine sn tt_ok [0, 3, 4] [3] (p0) ?_
 refine awp_seq ?_
 refine tn tt_ok [0, 3, 4, 8, 9, 10] [3] (pl 2 f.2.2.2.2 p0) ?_
 refine mz [(3, .p 3 0), (4, .b false), (8, .h f.2.2.2.2), (9, .i (f.2.2.2.2.length : Int)), (10, .i 0)] [1] [(3, [.i f.1, .i f.2.1, .b f.2.2.1, .i f.2.2.2.1, .h f.2.2.2.2])] [] ?_
 refine wT 8 0 .sh f.2.2.2.2 (fun hw1 hl2 => ?_)
 refine blL0 (implIsValidFile_f0 s_ f) implIsValidFile_e0 f.2.2.2.2 () (fun k0 _ => [(10, .i ((k0 : Nat) : Int))]) [10] (fun _ => []) [8, 9, 10] wf0 (fun k0 s0 hk0 hI0 => ?_) (fun k0 s0 hk0 hI0 => ?_) (fun y0 hD0 => ?_)
 ·
  obtain ⟨a0, hx0⟩ := get_some (l := f.2.2.2.2) (i := k0) hk0
  refine su tt_ok [(11, .b true)] [] [] [] (pe 0 (av_bool (decide_eq_true (p := ((k0 : Nat) : Int) < (f.2.2.2.2.length : Int)) (by omega))) p0) ?_
  refine awp_seq ?_
  refine ckT ?_
  refine awp_skip ?_
  refine awp_seq ?_
  refine awp_block ?_
  refine sn tt_ok [0, 3, 4, 5, 6, 8, 9, 10] [3, 6] (pn 1 hx0 p0) ?_
  refine awp_seq ?_
  refine mz [(5, .i ((k0 : Nat) : Int)), (6, .p 6 0)] [11] [(6, [.s a0.1, .i a0.2.1, .i a0.2.2.1, .s a0.2.2.2])] [] ?_
  refine jn [(37, .b (bif decide (((k0 : Nat) : Int) > (0 : Int)) then ((!(Op.bytesLess ((nth f.2.2.2.2 (Int.toNat (((k0 : Nat) : Int) - 1))).1).toList a0.1.toList)) || (!(implMatchesSchema s_ a0.1 a0.2))) else (!(implMatchesSchema s_ a0.1 a0.2))))] [5, 6] [] [6] (decide (((k0 : Nat) : Int) > (0 : Int))) (fun h3 => ?_) (fun h3 => ?_) ?_
  ·
   have h3d := of_decide_eq_true h3
   refine awp_split (!(Op.bytesLess ((nth f.2.2.2.2 (Int.toNat (((k0 : Nat) : Int) - 1))).1).toList a0.1.toList)) (fun h4 => ?_) (fun h4 => ?_)
   ·
    have hx5 := ng f.2.2.2.2 (Int.toNat (((k0 : Nat) : Int) - 1))
    refine rN tt_ok tt_mx [0, 3, 4, 8, 9, 10, 37] [3] (pt 1 h3 (pe 6 (av_i (IntWalk.i64_in (((k0 : Nat) : Int) - 1) (by omega))) (pg 7 (((k0 : Nat) : Int) - 1) hx5 (pt 12 h4 p0)))) ?_
    exact ⟨rfl, weak_fit (by rw [h3, h4] <;> kernel_rfl)⟩
   have hx6 := ng f.2.2.2.2 (Int.toNat (((k0 : Nat) : Int) - 1))
   refine rN tt_ok tt_mx [0, 3, 4, 8, 9, 10, 37] [3] (pt 1 h3 (pe 6 (av_i (IntWalk.i64_in (((k0 : Nat) : Int) - 1) (by omega))) (pg 7 (((k0 : Nat) : Int) - 1) hx6 (pf 12 h4 (pc 20 (implMatchesSchema_a s_ a0.1 a0.2) p0))))) ?_
   exact ⟨rfl, weak_fit (by rw [h3, h4] <;> kernel_rfl)⟩
  ·
   refine rN tt_ok tt_mx [0, 3, 4, 8, 9, 10, 37] [3] (pf 1 h3 (pc 20 (implMatchesSchema_a s_ a0.1 a0.2) p0)) ?_
   exact ⟨rfl, weak_fit (by rw [h3] <;> kernel_rfl)⟩
  refine ck (bif decide (((k0 : Nat) : Int) > (0 : Int)) then ((!(Op.bytesLess ((nth f.2.2.2.2 (Int.toNat (((k0 : Nat) : Int) - 1))).1).toList a0.1.toList)) || (!(implMatchesSchema s_ a0.1 a0.2))) else (!(implMatchesSchema s_ a0.1 a0.2))) (fun h7 => ?_) (fun h7 => ?_)
  ·
   refine su tt_ok [] [37] [] [] (p0) ?_
   refine awp_ret ?_
   have hr8 : (forL (implIsValidFile_f0 s_ f) implIsValidFile_e0 f.2.2.2.2 0 ()) = .ret false := forL_ret hx0 (bif_t h7 (rfl)) hI0
   exact pb [] (on_r hr8)
  refine awp_skip ?_
  refine rn tt_ok [0, 3, 4, 8, 9, 10] [3] (pe 0 (av_i (wrap_succ k0 (by omega))) p0) ?_
  exact xw _ (forL_next hx0 (bif_f h7 (rfl)) hI0)
 ·
  refine su tt_ok [(11, .b false)] [] [] [] (pe 0 (av_bool (decide_eq_false (p := ((k0 : Nat) : Int) < (f.2.2.2.2.length : Int)) (by omega))) p0) ?_
  refine awp_seq ?_
  refine ckF ?_
  refine awp_exit ?_
  exact xw _ (forL_end hk0 (rfl) hI0)
 refine awp_seq ?_
 refine jn [(4, .b ((implwithin f.1 1 60) && ((implisUser f.2.1) && ((implwithin f.2.2.2.1 0 60) && (implIsValidSchema s_)))))] [0, 3, 4] [] [3] (implwithin f.1 1 60) (fun h9 => ?_) (fun h9 => ?_) ?_
 ·
  refine awp_split (implisUser f.2.1) (fun h10 => ?_) (fun h10 => ?_)
  ·
   refine awp_split (implwithin f.2.2.2.1 0 60) (fun h11 => ?_) (fun h11 => ?_)
   ·
    refine rn tt_ok [4] [] (pc 2 (cb h9 (implwithin_a f.1 1 60)) (pc 6 (cb h10 (implisUser_a f.2.1)) (pc 11 (cb h11 (implwithin_a f.2.2.2.1 0 60)) (pc 15 (implIsValidSchema_a s_) p0)))) ?_
    exact ⟨rfl, weak_fit (by rw [h9, h10, h11] <;> kernel_rfl)⟩
   refine rn tt_ok [4] [] (pc 2 (cb h9 (implwithin_a f.1 1 60)) (pc 6 (cb h10 (implisUser_a f.2.1)) (pc 11 (cb h11 (implwithin_a f.2.2.2.1 0 60)) p0))) ?_
   exact ⟨rfl, weak_fit (by rw [h9, h10, h11] <;> kernel_rfl)⟩
  refine rn tt_ok [4] [] (pc 2 (cb h9 (implwithin_a f.1 1 60)) (pc 6 (cb h10 (implisUser_a f.2.1)) p0)) ?_
  exact ⟨rfl, weak_fit (by rw [h9, h10] <;> kernel_rfl)⟩
 ·
  refine rn tt_ok [4] [] (pc 2 (cb h9 (implwithin_a f.1 1 60)) p0) ?_
  exact ⟨rfl, weak_fit (by rw [h9] <;> kernel_rfl)⟩
 refine awp_ret ?_
 exact pb [] (on_b hD0 (rfl))
def implIsValidStore_f0 (s_ : StoreD) (k0 : Nat) (a0 : FileD) (_ : Unit) : Rd (Bool) (Unit) (Unit) := (bif ((!(implIsValidFile s_.1 a0)) || (decide (a0.1 ≥ s_.2.2) || (decide (((k0 : Nat) : Int) > (0 : Int)) && decide ((nth s_.2.1 (Int.toNat (((k0 : Nat) : Int) - 1))).1 ≥ a0.1)))) then (.ret false) else (.next ()))
def implIsValidStore_e0 (_ : Nat) (_ : Unit) : Unit := ()
def implIsValidStore (s_ : StoreD) : Bool := (Out.on (forL (implIsValidStore_f0 s_) implIsValidStore_e0 s_.2.1 0 ()) (fun _ => ((implIsValidSchema s_.1) && (decide ((s_.2.1.length : Int) ≤ (12 : Int)) && (implwithin s_.2.2 1 61)))))
theorem implIsValidStore_a (s_ : StoreD) : ACalls Tryz.prog 51 [.a [.h s_.1, .h s_.2.1, .i s_.2.2]] (.b (implIsValidStore s_)) := by
 refine en tt_ok Tryz.func51 fun w0 F0 hG => ?_
 refine sn tt_ok [1, 2] [1] (p0) ?_
 refine awp_seq ?_
 refine tn tt_ok [1, 2, 6, 7, 8] [1] (pl 2 s_.2.1 p0) ?_
 refine mz [(1, .p 1 0), (2, .b false), (6, .h s_.2.1), (7, .i (s_.2.1.length : Int)), (8, .i 0)] [0] [(1, [.h s_.1, .h s_.2.1, .i s_.2.2])] [] ?_
 refine wT 6 0 .sh s_.2.1 (fun hw1 hl2 => ?_)
 refine blL0 (implIsValidStore_f0 s_) implIsValidStore_e0 s_.2.1 () (fun k0 _ => [(8, .i ((k0 : Nat) : Int))]) [8] (fun _ => []) [6, 7, 8] wf0 (fun k0 s0 hk0 hI0 => ?_) (fun k0 s0 hk0 hI0 => ?_) (fun y0 hD0 => ?_)
 ·
  obtain ⟨a0, hx0⟩ := get_some (l := s_.2.1) (i := k0) hk0
  refine sn tt_ok [1, 2, 6, 7, 8, 9] [1] (pe 0 (av_bool (decide_eq_true (p := ((k0 : Nat) : Int) < (s_.2.1.length : Int)) (by omega))) p0) ?_
  refine awp_seq ?_
  refine ckT ?_
  refine awp_skip ?_
  refine awp_seq ?_
  refine awp_block ?_
  refine tn tt_ok [1, 2, 3, 4, 6, 7, 8] [1, 4] (pn 1 hx0 p0) ?_
  refine awp_seq ?_
  refine mz [(3, .i ((k0 : Nat) : Int)), (4, .p 4 0)] [] [(4, [.i a0.1, .i a0.2.1, .b a0.2.2.1, .i a0.2.2.2.1, .h a0.2.2.2.2])] [] ?_
  refine jn [(40, .b ((!(implIsValidFile s_.1 a0)) || (decide (a0.1 ≥ s_.2.2) || (decide (((k0 : Nat) : Int) > (0 : Int)) && decide ((nth s_.2.1 (Int.toNat (((k0 : Nat) : Int) - 1))).1 ≥ a0.1)))))] [3, 4] [] [4] (!(implIsValidFile s_.1 a0)) (fun h3 => ?_) (fun h3 => ?_) ?_
  ·
   have h3n : (implIsValidFile s_.1 a0) = false := bnot_t h3
   refine rN tt_ok tt_mx [1, 2, 6, 7, 8, 40] [1] (pc 3 (cb h3n (implIsValidFile_a s_.1 a0)) (pe 4 (show .b (!false) = .b true from rfl) p0)) ?_
   exact ⟨rfl, weak_fit (by rw [h3] <;> kernel_rfl)⟩
  ·
   have h3n : (implIsValidFile s_.1 a0) = true := bnot_f h3
   refine awp_split (decide (a0.1 ≥ s_.2.2)) (fun h4 => ?_) (fun h4 => ?_)
   ·
    refine rN tt_ok tt_mx [1, 2, 6, 7, 8, 40] [1] (pc 3 (cb h3n (implIsValidFile_a s_.1 a0)) (pe 4 (show .b (!true) = .b false from rfl) (pt 10 h4 p0))) ?_
    exact ⟨rfl, weak_fit (by rw [h3, h4] <;> kernel_rfl)⟩
   have h4d := of_decide_eq_false h4
   refine awp_split (decide (((k0 : Nat) : Int) > (0 : Int))) (fun h5 => ?_) (fun h5 => ?_)
   ·
    have h5d := of_decide_eq_true h5
    have hx6 := ng s_.2.1 (Int.toNat (((k0 : Nat) : Int) - 1))
    refine rN tt_ok tt_mx [1, 2, 6, 7, 8, 40] [1] (pc 3 (cb h3n (implIsValidFile_a s_.1 a0)) (pe 4 (show .b (!true) = .b false from rfl) (pf 10 h4 (pt 14 h5 (pe 19 (av_i (IntWalk.i64_in (((k0 : Nat) : Int) - 1) (by omega))) (pg 20 (((k0 : Nat) : Int) - 1) hx6 p0)))))) ?_
    exact ⟨rfl, weak_fit (by rw [h3, h4, h5] <;> kernel_rfl)⟩
   refine rN tt_ok tt_mx [1, 2, 6, 7, 8, 40] [1] (pc 3 (cb h3n (implIsValidFile_a s_.1 a0)) (pe 4 (show .b (!true) = .b false from rfl) (pf 10 h4 (pf 14 h5 p0)))) ?_
   exact ⟨rfl, weak_fit (by rw [h3, h4, h5] <;> kernel_rfl)⟩
  refine ck ((!(implIsValidFile s_.1 a0)) || (decide (a0.1 ≥ s_.2.2) || (decide (((k0 : Nat) : Int) > (0 : Int)) && decide ((nth s_.2.1 (Int.toNat (((k0 : Nat) : Int) - 1))).1 ≥ a0.1)))) (fun h7 => ?_) (fun h7 => ?_)
  ·
   refine su tt_ok [] [40] [] [] (p0) ?_
   refine awp_ret ?_
   have hr8 : (forL (implIsValidStore_f0 s_) implIsValidStore_e0 s_.2.1 0 ()) = .ret false := forL_ret hx0 (bif_t h7 (rfl)) hI0
   exact pb [] (on_r hr8)
  have h7r : ((decide (a0.1 ≥ s_.2.2) || (decide (((k0 : Nat) : Int) > (0 : Int)) && decide ((nth s_.2.1 (Int.toNat (((k0 : Nat) : Int) - 1))).1 ≥ a0.1)))) = false := or_r h7
  have h7rl : (decide (a0.1 ≥ s_.2.2)) = false := or_l h7r
  have h7rld := of_decide_eq_false h7rl
  refine awp_skip ?_
  refine rn tt_ok [1, 2, 6, 7, 8] [1] (pe 0 (av_i (wrap_succ k0 (by omega))) p0) ?_
  exact xw _ (forL_next hx0 (bif_f h7 (rfl)) hI0)
 ·
  refine sn tt_ok [1, 2, 6, 7, 8, 9] [1] (pe 0 (av_bool (decide_eq_false (p := ((k0 : Nat) : Int) < (s_.2.1.length : Int)) (by omega))) p0) ?_
  refine awp_seq ?_
  refine ckF ?_
  refine awp_exit ?_
  exact xw _ (forL_end hk0 (rfl) hI0)
 refine awp_seq ?_
 refine jn [(2, .b ((implIsValidSchema s_.1) && (decide ((s_.2.1.length : Int) ≤ (12 : Int)) && (implwithin s_.2.2 1 61))))] [1, 2] [] [1] (implIsValidSchema s_.1) (fun h9 => ?_) (fun h9 => ?_) ?_
 ·
  refine awp_split (decide ((s_.2.1.length : Int) ≤ (12 : Int))) (fun h10 => ?_) (fun h10 => ?_)
  ·
   refine rn tt_ok [2] [] (pc 2 (cb h9 (implIsValidSchema_a s_.1)) (pl 6 s_.2.1 (pt 7 h10 (pc 12 (implwithin_a s_.2.2 1 61) p0)))) ?_
   exact ⟨rfl, weak_fit (by rw [h9, h10] <;> kernel_rfl)⟩
  refine rn tt_ok [2] [] (pc 2 (cb h9 (implIsValidSchema_a s_.1)) (pl 6 s_.2.1 (pf 7 h10 p0))) ?_
  exact ⟨rfl, weak_fit (by rw [h9, h10] <;> kernel_rfl)⟩
 ·
  refine rn tt_ok [2] [] (pc 2 (cb h9 (implIsValidSchema_a s_.1)) p0) ?_
  exact ⟨rfl, weak_fit (by rw [h9] <;> kernel_rfl)⟩
 refine awp_ret ?_
 exact pb [] (on_b hD0 (rfl))
def implIsStratified (d : (List DirD)) : Bool := ((implStrata d)).2
theorem implIsStratified_a (d : (List DirD)) : ACalls Tryz.prog 52 [.h d] (.b (implIsStratified d)) := by
 refine en tt_ok Tryz.func52 fun w0 F0 hG => ?_
 refine sn tt_ok [0, 2] [] (p0) ?_
 refine tn tt_ok [2, 4] [] (pc 1 (implStrata_a d) p0) ?_
 refine tu tt_ok [(2, .b (((implStrata d)).2))] [0] [] [] (p0) ?_
 refine awp_ret ?_
 exact pb [] (show implIsStratified d = ((implStrata d)).2 from rfl)
def implIsValidSnapshot (x : SnapshotD) : Bool := ((implIsValidStore x.1) && (implIsStratified x.2))
theorem implIsValidSnapshot_a (x : SnapshotD) : ACalls Tryz.prog 33 [.a [.h x.1.1, .h x.1.2.1, .i x.1.2.2, .h x.2]] (.b (implIsValidSnapshot x)) := by
 refine en tt_ok Tryz.func33 fun w0 F0 hG => ?_
 refine sn tt_ok [1, 2] [1] (p0) ?_
 refine awp_seq ?_
 refine mz [(1, .p 1 0), (2, .b false)] [0] [(1, [.h x.1.1, .h x.1.2.1, .i x.1.2.2, .h x.2])] [] ?_
 refine jn [(2, .b ((implIsValidStore x.1) && (implIsStratified x.2)))] [1, 2] [] [1] (implIsValidStore x.1) (fun h1 => ?_) (fun h1 => ?_) ?_
 ·
  refine rn tt_ok [2] [] (pc 2 (cb h1 (implIsValidStore_a x.1)) (pc 6 (implIsStratified_a x.2) p0)) ?_
  exact ⟨rfl, weak_fit (by rw [h1] <;> kernel_rfl)⟩
 ·
  refine rn tt_ok [2] [] (pc 2 (cb h1 (implIsValidStore_a x.1)) p0) ?_
  exact ⟨rfl, weak_fit (by rw [h1] <;> kernel_rfl)⟩
 refine awp_ret ?_
 exact pb [] (show implIsValidSnapshot x = ((implIsValidStore x.1) && (implIsStratified x.2)) from rfl)
def implAreValidVersions_f0 (v : (List VersionD)) (k0 : Nat) (a0 : VersionD) (_ : Unit) : Rd (Bool) (Unit) (Unit) := (bif ((!(implwithin a0.1 1 1000000000)) || (bif decide (((k0 : Nat) : Int) > (0 : Int)) then (decide ((nth v (Int.toNat (((k0 : Nat) : Int) - 1))).1 ≥ a0.1) || ((!(implIsValidSnapshot a0.2.1)) || (!(implwithin a0.2.2 0 99)))) else ((!(implIsValidSnapshot a0.2.1)) || (!(implwithin a0.2.2 0 99))))) then (.ret false) else (.next ()))
def implAreValidVersions_e0 (_ : Nat) (_ : Unit) : Unit := ()
def implAreValidVersions (v : (List VersionD)) : Bool := (Out.on (forL (implAreValidVersions_f0 v) implAreValidVersions_e0 v 0 ()) (fun _ => decide ((v.length : Int) ≤ (6 : Int))))
theorem implAreValidVersions_a (v : (List VersionD)) : ACalls Tryz.prog 16 [.h v] (.b (implAreValidVersions v)) := by
 refine en tt_ok Tryz.func16 fun w0 F0 hG => ?_
 refine sn tt_ok [0, 2] [] (p0) ?_
 refine awp_seq ?_
 refine tn tt_ok [0, 2, 5, 6, 7] [] (pl 1 v p0) ?_
 refine mz [(2, .b false), (5, .h v), (6, .i (v.length : Int)), (7, .i 0)] [] [] [] ?_
 refine wT 0 0 .sh v (fun hw1 hl2 => ?_)
 refine blL0 (implAreValidVersions_f0 v) implAreValidVersions_e0 v () (fun k0 _ => [(7, .i ((k0 : Nat) : Int))]) [7] (fun _ => []) [5, 6, 7] wf0 (fun k0 s0 hk0 hI0 => ?_) (fun k0 s0 hk0 hI0 => ?_) (fun y0 hD0 => ?_)
 ·
  obtain ⟨a0, hx0⟩ := get_some (l := v) (i := k0) hk0
  refine sn tt_ok [0, 2, 5, 6, 7, 8] [] (pe 0 (av_bool (decide_eq_true (p := ((k0 : Nat) : Int) < (v.length : Int)) (by omega))) p0) ?_
  refine awp_seq ?_
  refine ckT ?_
  refine awp_skip ?_
  refine awp_seq ?_
  refine awp_block ?_
  refine tn tt_ok [0, 2, 3, 4, 5, 6, 7] [4] (pn 1 hx0 p0) ?_
  refine awp_seq ?_
  refine mz [(3, .i ((k0 : Nat) : Int)), (4, .p 4 0)] [] [(4, [.i a0.1, .h a0.2.1.1.1, .h a0.2.1.1.2.1, .i a0.2.1.1.2.2, .h a0.2.1.2, .i a0.2.2])] [] ?_
  refine jn [(42, .b ((!(implwithin a0.1 1 1000000000)) || (bif decide (((k0 : Nat) : Int) > (0 : Int)) then (decide ((nth v (Int.toNat (((k0 : Nat) : Int) - 1))).1 ≥ a0.1) || ((!(implIsValidSnapshot a0.2.1)) || (!(implwithin a0.2.2 0 99)))) else ((!(implIsValidSnapshot a0.2.1)) || (!(implwithin a0.2.2 0 99))))))] [3, 4] [] [4] (!(implwithin a0.1 1 1000000000)) (fun h3 => ?_) (fun h3 => ?_) ?_
  ·
   have h3n : (implwithin a0.1 1 1000000000) = false := bnot_t h3
   refine rN tt_ok tt_mx [0, 2, 5, 6, 7, 42] [] (pc 2 (cb h3n (implwithin_a a0.1 1 1000000000)) (pe 3 (show .b (!false) = .b true from rfl) p0)) ?_
   exact ⟨rfl, weak_fit (by rw [h3] <;> kernel_rfl)⟩
  ·
   have h3n : (implwithin a0.1 1 1000000000) = true := bnot_f h3
   refine awp_split (decide (((k0 : Nat) : Int) > (0 : Int))) (fun h4 => ?_) (fun h4 => ?_)
   ·
    have h4d := of_decide_eq_true h4
    refine awp_split (decide ((nth v (Int.toNat (((k0 : Nat) : Int) - 1))).1 ≥ a0.1)) (fun h5 => ?_) (fun h5 => ?_)
    ·
     have h5d := of_decide_eq_true h5
     have hx6 := ng v (Int.toNat (((k0 : Nat) : Int) - 1))
     refine rN tt_ok tt_mx [0, 2, 5, 6, 7, 42] [] (pc 2 (cb h3n (implwithin_a a0.1 1 1000000000)) (pe 3 (show .b (!true) = .b false from rfl) (pt 6 h4 (pe 10 (av_i (IntWalk.i64_in (((k0 : Nat) : Int) - 1) (by omega))) (pg 11 (((k0 : Nat) : Int) - 1) hx6 (pt 16 h5 p0)))))) ?_
     exact ⟨rfl, weak_fit (by rw [h3, h4, h5] <;> kernel_rfl)⟩
    have h5d := of_decide_eq_false h5
    refine awp_split (!(implIsValidSnapshot a0.2.1)) (fun h7 => ?_) (fun h7 => ?_)
    ·
     have h7n : (implIsValidSnapshot a0.2.1) = false := bnot_t h7
     have hx8 := ng v (Int.toNat (((k0 : Nat) : Int) - 1))
     refine rN tt_ok tt_mx [0, 2, 5, 6, 7, 42] [] (pc 2 (cb h3n (implwithin_a a0.1 1 1000000000)) (pe 3 (show .b (!true) = .b false from rfl) (pt 6 h4 (pe 10 (av_i (IntWalk.i64_in (((k0 : Nat) : Int) - 1) (by omega))) (pg 11 (((k0 : Nat) : Int) - 1) hx8 (pf 16 h5 (pc 22 (cb h7n (implIsValidSnapshot_a a0.2.1)) (pe 23 (show .b (!false) = .b true from rfl) p0)))))))) ?_
     exact ⟨rfl, weak_fit (by rw [h3, h4, h5, h7] <;> kernel_rfl)⟩
    have h7n : (implIsValidSnapshot a0.2.1) = true := bnot_f h7
    have hx9 := ng v (Int.toNat (((k0 : Nat) : Int) - 1))
    refine rN tt_ok tt_mx [0, 2, 5, 6, 7, 42] [] (pc 2 (cb h3n (implwithin_a a0.1 1 1000000000)) (pe 3 (show .b (!true) = .b false from rfl) (pt 6 h4 (pe 10 (av_i (IntWalk.i64_in (((k0 : Nat) : Int) - 1) (by omega))) (pg 11 (((k0 : Nat) : Int) - 1) hx9 (pf 16 h5 (pc 22 (cb h7n (implIsValidSnapshot_a a0.2.1)) (pe 23 (show .b (!true) = .b false from rfl) (pc 28 (implwithin_a a0.2.2 0 99) p0))))))))) ?_
    exact ⟨rfl, weak_fit (by rw [h3, h4, h5, h7] <;> kernel_rfl)⟩
   refine awp_split (!(implIsValidSnapshot a0.2.1)) (fun h10 => ?_) (fun h10 => ?_)
   ·
    have h10n : (implIsValidSnapshot a0.2.1) = false := bnot_t h10
    refine rN tt_ok tt_mx [0, 2, 5, 6, 7, 42] [] (pc 2 (cb h3n (implwithin_a a0.1 1 1000000000)) (pe 3 (show .b (!true) = .b false from rfl) (pf 6 h4 (pc 22 (cb h10n (implIsValidSnapshot_a a0.2.1)) (pe 23 (show .b (!false) = .b true from rfl) p0))))) ?_
    exact ⟨rfl, weak_fit (by rw [h3, h4, h10] <;> kernel_rfl)⟩
   have h10n : (implIsValidSnapshot a0.2.1) = true := bnot_f h10
   refine rN tt_ok tt_mx [0, 2, 5, 6, 7, 42] [] (pc 2 (cb h3n (implwithin_a a0.1 1 1000000000)) (pe 3 (show .b (!true) = .b false from rfl) (pf 6 h4 (pc 22 (cb h10n (implIsValidSnapshot_a a0.2.1)) (pe 23 (show .b (!true) = .b false from rfl) (pc 28 (implwithin_a a0.2.2 0 99) p0)))))) ?_
   exact ⟨rfl, weak_fit (by rw [h3, h4, h10] <;> kernel_rfl)⟩
  refine ck ((!(implwithin a0.1 1 1000000000)) || (bif decide (((k0 : Nat) : Int) > (0 : Int)) then (decide ((nth v (Int.toNat (((k0 : Nat) : Int) - 1))).1 ≥ a0.1) || ((!(implIsValidSnapshot a0.2.1)) || (!(implwithin a0.2.2 0 99)))) else ((!(implIsValidSnapshot a0.2.1)) || (!(implwithin a0.2.2 0 99))))) (fun h11 => ?_) (fun h11 => ?_)
  ·
   refine su tt_ok [] [42] [] [] (p0) ?_
   refine awp_ret ?_
   have hr12 : (forL (implAreValidVersions_f0 v) implAreValidVersions_e0 v 0 ()) = .ret false := forL_ret hx0 (bif_t h11 (rfl)) hI0
   exact pb [] (on_r hr12)
  refine awp_skip ?_
  refine rn tt_ok [0, 2, 5, 6, 7] [] (pe 0 (av_i (wrap_succ k0 (by omega))) p0) ?_
  exact xw _ (forL_next hx0 (bif_f h11 (rfl)) hI0)
 ·
  refine sn tt_ok [0, 2, 5, 6, 7, 8] [] (pe 0 (av_bool (decide_eq_false (p := ((k0 : Nat) : Int) < (v.length : Int)) (by omega))) p0) ?_
  refine awp_seq ?_
  refine ckF ?_
  refine awp_exit ?_
  exact xw _ (forL_end hk0 (rfl) hI0)
 refine sn tt_ok [2] [] (pl 1 v p0) ?_
 refine awp_ret ?_
 exact pb [] (on_b hD0 (rfl))
def specFieldKind_f0 (name : ByteArray) (_ : Nat) (a0 : FieldD) (_ : Unit) : Rd (Int) (Unit) (Unit) := (bif (a0.1.toList == name.toList) then (.ret a0.2) else (.next ()))
def specFieldKind_e0 (_ : Nat) (_ : Unit) : Unit := ()
def specFieldKind (s_ : (List FieldD)) (name : ByteArray) : Int := (Out.on (forL (specFieldKind_f0 name) specFieldKind_e0 s_ 0 ()) (fun _ => 0))
theorem specFieldKind_a (s_ : (List FieldD)) (name : ByteArray) : ACalls Tryz.prog 100 [.h s_, .s name] (.i (specFieldKind s_ name)) := by
 refine en tt_ok Tryz.func100 fun w0 F0 hG => ?_
 refine sn tt_ok [0, 1, 4] [] (p0) ?_
 refine awp_seq ?_
 refine tn tt_ok [0, 1, 4, 5] [] (p0) ?_
 refine mz [(4, .i 0), (5, .i 0)] [] [] [] ?_
 refine wT 0 0 .sh s_ (fun hw1 hl2 => ?_)
 refine blL0 (specFieldKind_f0 name) specFieldKind_e0 s_ () (fun k0 _ => [(5, .i ((k0 : Nat) : Int))]) [5] (fun _ => []) [0, 1, 5] wf0 (fun k0 s0 hk0 hI0 => ?_) (fun k0 s0 hk0 hI0 => ?_) (fun y0 hD0 => ?_)
 ·
  obtain ⟨a0, hx0⟩ := get_some (l := s_) (i := k0) hk0
  refine awp_seq ?_
  refine sn tt_ok [0, 1, 4, 5, 9] [] (pl 2 s_ (pe 3 (av_bool (decide_eq_true (p := ((k0 : Nat) : Int) < (s_.length : Int)) (by omega))) p0)) ?_
  refine ckT ?_
  refine awp_skip ?_
  refine awp_seq ?_
  refine awp_block ?_
  refine tn tt_ok [0, 1, 4, 5, 18] [] (pn 2 hx0 p0) ?_
  refine ck (a0.1.toList == name.toList) (fun h3 => ?_) (fun h3 => ?_)
  ·
   refine tu tt_ok [(4, .i a0.2)] [4] [] [] (pn 2 hx0 p0) ?_
   refine awp_ret ?_
   have hr4 : (forL (specFieldKind_f0 name) specFieldKind_e0 s_ 0 ()) = .ret a0.2 := forL_ret hx0 (bif_t h3 (rfl)) hI0
   exact pi [] (on_r hr4)
  refine awp_skip ?_
  refine qu tt_ok [(5, .i ((k0 + 1 : Nat) : Int))] [5] [] [] (pe 1 (av_i (wrap_succ k0 (by omega))) p0) ?_
  exact xw _ (forL_next hx0 (bif_f h3 (rfl)) hI0)
 ·
  refine awp_seq ?_
  refine sn tt_ok [0, 1, 4, 5, 9] [] (pl 2 s_ (pe 3 (av_bool (decide_eq_false (p := ((k0 : Nat) : Int) < (s_.length : Int)) (by omega))) p0)) ?_
  refine ckF ?_
  refine awp_exit ?_
  exact xw _ (forL_end hk0 (rfl) hI0)
 refine sn tt_ok [4] [] (p0) ?_
 refine awp_ret ?_
 exact pi [] (on_b hD0 (rfl))
def specMatchesSchema (s_ : (List FieldD)) (name : ByteArray) (v : ValueD) : Bool := ((specIsValidValue v) && ((v.1 != (0 : Int)) && (v.1 == (specFieldKind s_ name))))
theorem specMatchesSchema_a (s_ : (List FieldD)) (name : ByteArray) (v : ValueD) : ACalls Tryz.prog 77 [.h s_, .s name, .a [.i v.1, .i v.2.1, .s v.2.2]] (.b (specMatchesSchema s_ name v)) := by
 refine en tt_ok Tryz.func77 fun w0 F0 hG => ?_
 refine sn tt_ok [0, 1, 5, 6] [5] (p0) ?_
 refine awp_seq ?_
 refine mz [(5, .p 5 0), (6, .b false)] [2] [(5, [.i v.1, .i v.2.1, .s v.2.2])] [] ?_
 refine jn [(6, .b ((specIsValidValue v) && ((v.1 != (0 : Int)) && (v.1 == (specFieldKind s_ name)))))] [0, 1, 5, 6] [] [5] (specIsValidValue v) (fun h1 => ?_) (fun h1 => ?_) ?_
 ·
  refine awp_split (v.1 != (0 : Int)) (fun h2 => ?_) (fun h2 => ?_)
  ·
   refine rN tt_ok tt_mx [6] [] (pc 1 (cb h1 (specIsValidValue_a v)) (pt 5 h2 (pc 12 (specFieldKind_a s_ name) p0))) ?_
   exact ⟨rfl, weak_fit (by rw [h1, h2] <;> kernel_rfl)⟩
  refine rN tt_ok tt_mx [6] [] (pc 1 (cb h1 (specIsValidValue_a v)) (pf 5 h2 p0)) ?_
  exact ⟨rfl, weak_fit (by rw [h1, h2] <;> kernel_rfl)⟩
 ·
  refine rN tt_ok tt_mx [6] [] (pc 1 (cb h1 (specIsValidValue_a v)) p0) ?_
  exact ⟨rfl, weak_fit (by rw [h1] <;> kernel_rfl)⟩
 refine awp_ret ?_
 exact pb [] (show specMatchesSchema s_ name v = ((specIsValidValue v) && ((v.1 != (0 : Int)) && (v.1 == (specFieldKind s_ name)))) from rfl)
def specIsValidSchema_f0 (s_ : (List FieldD)) (k0 : Nat) (a0 : FieldD) (_ : Unit) : Rd (Bool) (Unit) (Unit) := (bif ((!(specIsValidAttrName a0.1)) || ((!(specl01In a0.2 1 2)) || (decide (((k0 : Nat) : Int) > (0 : Int)) && (!(Op.bytesLess ((nth s_ (Int.toNat (((k0 : Nat) : Int) - 1))).1).toList a0.1.toList))))) then (.ret false) else (.next ()))
def specIsValidSchema_e0 (_ : Nat) (_ : Unit) : Unit := ()
def specIsValidSchema (s_ : (List FieldD)) : Bool := (Out.on (forL (specIsValidSchema_f0 s_) specIsValidSchema_e0 s_ 0 ()) (fun _ => decide ((s_.length : Int) ≤ (5 : Int))))
theorem specIsValidSchema_a (s_ : (List FieldD)) : ACalls Tryz.prog 59 [.h s_] (.b (specIsValidSchema s_)) := by
 refine en tt_ok Tryz.func59 fun w0 F0 hG => ?_
 refine sn tt_ok [0, 2] [] (p0) ?_
 refine awp_seq ?_
 refine tn tt_ok [0, 2, 3] [] (p0) ?_
 refine mz [(2, .b false), (3, .i 0)] [] [] [] ?_
 refine wT 0 0 .sh s_ (fun hw1 hl2 => ?_)
 refine blL0 (specIsValidSchema_f0 s_) specIsValidSchema_e0 s_ () (fun k0 _ => [(3, .i ((k0 : Nat) : Int))]) [3] (fun _ => []) [3] wf0 (fun k0 s0 hk0 hI0 => ?_) (fun k0 s0 hk0 hI0 => ?_) (fun y0 hD0 => ?_)
 ·
  obtain ⟨a0, hx0⟩ := get_some (l := s_) (i := k0) hk0
  refine awp_seq ?_
  refine sn tt_ok [0, 2, 3, 7] [] (pl 2 s_ (pe 3 (av_bool (decide_eq_true (p := ((k0 : Nat) : Int) < (s_.length : Int)) (by omega))) p0)) ?_
  refine ckT ?_
  refine awp_skip ?_
  refine awp_seq ?_
  refine awp_block ?_
  refine awp_seq ?_
  refine mz [(7, .b true)] [] [] [] ?_
  refine jn [(43, .b ((!(specIsValidAttrName a0.1)) || ((!(specl01In a0.2 1 2)) || (decide (((k0 : Nat) : Int) > (0 : Int)) && (!(Op.bytesLess ((nth s_ (Int.toNat (((k0 : Nat) : Int) - 1))).1).toList a0.1.toList))))))] [7] [] [] (!(specIsValidAttrName a0.1)) (fun h3 => ?_) (fun h3 => ?_) ?_
  ·
   have h3n : (specIsValidAttrName a0.1) = false := bnot_t h3
   refine rN tt_ok tt_mx [0, 2, 3, 43] [] (pn 2 hx0 (pc 5 (cb h3n (specIsValidAttrName_a a0.1)) (pe 6 (show .b (!false) = .b true from rfl) p0))) ?_
   exact ⟨rfl, weak_fit (by rw [h3] <;> kernel_rfl)⟩
  ·
   have h3n : (specIsValidAttrName a0.1) = true := bnot_f h3
   refine awp_split (!(specl01In a0.2 1 2)) (fun h4 => ?_) (fun h4 => ?_)
   ·
    have h4n : (specl01In a0.2 1 2) = false := bnot_t h4
    refine rN tt_ok tt_mx [0, 2, 3, 43] [] (pn 2 hx0 (pc 5 (cb h3n (specIsValidAttrName_a a0.1)) (pe 6 (show .b (!true) = .b false from rfl) (pn 10 hx0 (pc 13 (cb h4n (specl01In_a a0.2 1 2)) (pe 14 (show .b (!false) = .b true from rfl) p0)))))) ?_
    exact ⟨rfl, weak_fit (by rw [h3, h4] <;> kernel_rfl)⟩
   have h4n : (specl01In a0.2 1 2) = true := bnot_f h4
   refine awp_split (decide (((k0 : Nat) : Int) > (0 : Int))) (fun h5 => ?_) (fun h5 => ?_)
   ·
    have h5d := of_decide_eq_true h5
    have hx6 := ng s_ (Int.toNat (((k0 : Nat) : Int) - 1))
    refine rN tt_ok tt_mx [0, 2, 3, 43] [] (pn 2 hx0 (pc 5 (cb h3n (specIsValidAttrName_a a0.1)) (pe 6 (show .b (!true) = .b false from rfl) (pn 10 hx0 (pc 13 (cb h4n (specl01In_a a0.2 1 2)) (pe 14 (show .b (!true) = .b false from rfl) (pt 18 h5 (pe 22 (av_i (IntWalk.i64_in (((k0 : Nat) : Int) - 1) (by omega))) (pg 23 (((k0 : Nat) : Int) - 1) hx6 (pn 28 hx0 p0)))))))))) ?_
    exact ⟨rfl, weak_fit (by rw [h3, h4, h5] <;> kernel_rfl)⟩
   refine rN tt_ok tt_mx [0, 2, 3, 43] [] (pn 2 hx0 (pc 5 (cb h3n (specIsValidAttrName_a a0.1)) (pe 6 (show .b (!true) = .b false from rfl) (pn 10 hx0 (pc 13 (cb h4n (specl01In_a a0.2 1 2)) (pe 14 (show .b (!true) = .b false from rfl) (pf 18 h5 p0))))))) ?_
   exact ⟨rfl, weak_fit (by rw [h3, h4, h5] <;> kernel_rfl)⟩
  refine ck ((!(specIsValidAttrName a0.1)) || ((!(specl01In a0.2 1 2)) || (decide (((k0 : Nat) : Int) > (0 : Int)) && (!(Op.bytesLess ((nth s_ (Int.toNat (((k0 : Nat) : Int) - 1))).1).toList a0.1.toList))))) (fun h7 => ?_) (fun h7 => ?_)
  ·
   refine sn tt_ok [0, 2, 3] [] (p0) ?_
   refine awp_ret ?_
   have hr8 : (forL (specIsValidSchema_f0 s_) specIsValidSchema_e0 s_ 0 ()) = .ret false := forL_ret hx0 (bif_t h7 (rfl)) hI0
   exact pb [] (on_r hr8)
  refine awp_skip ?_
  refine rn tt_ok [0, 2, 3] [] (pe 1 (av_i (wrap_succ k0 (by omega))) p0) ?_
  exact xw _ (forL_next hx0 (bif_f h7 (rfl)) hI0)
 ·
  refine awp_seq ?_
  refine sn tt_ok [0, 2, 3, 7] [] (pl 2 s_ (pe 3 (av_bool (decide_eq_false (p := ((k0 : Nat) : Int) < (s_.length : Int)) (by omega))) p0)) ?_
  refine ckF ?_
  refine awp_exit ?_
  exact xw _ (forL_end hk0 (rfl) hI0)
 refine sn tt_ok [2] [] (pl 1 s_ p0) ?_
 refine awp_ret ?_
 exact pb [] (on_b hD0 (rfl))
def specIsValidFile_f0 (s_ : (List FieldD)) (f : FileD) (k0 : Nat) (a0 : AttrD) (_ : Unit) : Rd (Bool) (Unit) (Unit) := (bif ((!(specMatchesSchema s_ a0.1 a0.2)) || (decide (((k0 : Nat) : Int) > (0 : Int)) && (!(Op.bytesLess ((nth f.2.2.2.2 (Int.toNat (((k0 : Nat) : Int) - 1))).1).toList a0.1.toList)))) then (.ret false) else (.next ()))
def specIsValidFile_e0 (_ : Nat) (_ : Unit) : Unit := ()
def specIsValidFile (s_ : (List FieldD)) (f : FileD) : Bool := (Out.on (forL (specIsValidFile_f0 s_ f) specIsValidFile_e0 f.2.2.2.2 0 ()) (fun _ => ((specIsValidSchema s_) && ((specl01In f.1 1 60) && ((specl01In f.2.1 0 2) && (specl01In f.2.2.2.1 0 60))))))
theorem specIsValidFile_a (s_ : (List FieldD)) (f : FileD) : ACalls Tryz.prog 58 [.h s_, .a [.i f.1, .i f.2.1, .b f.2.2.1, .i f.2.2.2.1, .h f.2.2.2.2]] (.b (specIsValidFile s_ f)) := by
 refine en tt_ok Tryz.func58 fun w0 F0 hG => ?_
 refine sn tt_ok [0, 3, 4] [3] (p0) ?_
 refine awp_seq ?_
 refine tn tt_ok [0, 3, 4, 5] [3] (p0) ?_
 refine mz [(3, .p 3 0), (4, .b false), (5, .i 0)] [1] [(3, [.i f.1, .i f.2.1, .b f.2.2.1, .i f.2.2.2.1, .h f.2.2.2.2])] [] ?_
 refine wB 3 4 .sh f.2.2.2.2 (fun hw1 hl2 => ?_)
 refine blL0 (specIsValidFile_f0 s_ f) specIsValidFile_e0 f.2.2.2.2 () (fun k0 _ => [(5, .i ((k0 : Nat) : Int))]) [5] (fun _ => []) [5] wf0 (fun k0 s0 hk0 hI0 => ?_) (fun k0 s0 hk0 hI0 => ?_) (fun y0 hD0 => ?_)
 ·
  obtain ⟨a0, hx0⟩ := get_some (l := f.2.2.2.2) (i := k0) hk0
  refine awp_seq ?_
  refine sn tt_ok [0, 3, 4, 5, 10] [3] (pl 3 f.2.2.2.2 (pe 4 (av_bool (decide_eq_true (p := ((k0 : Nat) : Int) < (f.2.2.2.2.length : Int)) (by omega))) p0)) ?_
  refine ckT ?_
  refine awp_skip ?_
  refine awp_seq ?_
  refine awp_block ?_
  refine awp_seq ?_
  refine mz [(10, .b true)] [] [] [] ?_
  refine jn [(47, .b ((!(specMatchesSchema s_ a0.1 a0.2)) || (decide (((k0 : Nat) : Int) > (0 : Int)) && (!(Op.bytesLess ((nth f.2.2.2.2 (Int.toNat (((k0 : Nat) : Int) - 1))).1).toList a0.1.toList)))))] [10] [] [] (!(specMatchesSchema s_ a0.1 a0.2)) (fun h3 => ?_) (fun h3 => ?_) ?_
  ·
   have h3n : (specMatchesSchema s_ a0.1 a0.2) = false := bnot_t h3
   refine rN tt_ok tt_mx [0, 3, 4, 5, 47] [3] (pn 4 hx0 (pn 10 hx0 (pc 13 (cb h3n (specMatchesSchema_a s_ a0.1 a0.2)) (pe 14 (show .b (!false) = .b true from rfl) p0)))) ?_
   exact ⟨rfl, weak_fit (by rw [h3] <;> kernel_rfl)⟩
  ·
   have h3n : (specMatchesSchema s_ a0.1 a0.2) = true := bnot_f h3
   refine awp_split (decide (((k0 : Nat) : Int) > (0 : Int))) (fun h4 => ?_) (fun h4 => ?_)
   ·
    have h4d := of_decide_eq_true h4
    have hx5 := ng f.2.2.2.2 (Int.toNat (((k0 : Nat) : Int) - 1))
    refine rN tt_ok tt_mx [0, 3, 4, 5, 47] [3] (pn 4 hx0 (pn 10 hx0 (pc 13 (cb h3n (specMatchesSchema_a s_ a0.1 a0.2)) (pe 14 (show .b (!true) = .b false from rfl) (pt 17 h4 (pe 22 (av_i (IntWalk.i64_in (((k0 : Nat) : Int) - 1) (by omega))) (pg 23 (((k0 : Nat) : Int) - 1) hx5 (pn 29 hx0 p0)))))))) ?_
    exact ⟨rfl, weak_fit (by rw [h3, h4] <;> kernel_rfl)⟩
   refine rN tt_ok tt_mx [0, 3, 4, 5, 47] [3] (pn 4 hx0 (pn 10 hx0 (pc 13 (cb h3n (specMatchesSchema_a s_ a0.1 a0.2)) (pe 14 (show .b (!true) = .b false from rfl) (pf 17 h4 p0))))) ?_
   exact ⟨rfl, weak_fit (by rw [h3, h4] <;> kernel_rfl)⟩
  refine ck ((!(specMatchesSchema s_ a0.1 a0.2)) || (decide (((k0 : Nat) : Int) > (0 : Int)) && (!(Op.bytesLess ((nth f.2.2.2.2 (Int.toNat (((k0 : Nat) : Int) - 1))).1).toList a0.1.toList)))) (fun h6 => ?_) (fun h6 => ?_)
  ·
   refine su tt_ok [] [47] [] [] (p0) ?_
   refine awp_ret ?_
   have hr7 : (forL (specIsValidFile_f0 s_ f) specIsValidFile_e0 f.2.2.2.2 0 ()) = .ret false := forL_ret hx0 (bif_t h6 (rfl)) hI0
   exact pb [] (on_r hr7)
  refine awp_skip ?_
  refine rn tt_ok [0, 3, 4, 5] [3] (pe 1 (av_i (wrap_succ k0 (by omega))) p0) ?_
  exact xw _ (forL_next hx0 (bif_f h6 (rfl)) hI0)
 ·
  refine awp_seq ?_
  refine sn tt_ok [0, 3, 4, 5, 10] [3] (pl 3 f.2.2.2.2 (pe 4 (av_bool (decide_eq_false (p := ((k0 : Nat) : Int) < (f.2.2.2.2.length : Int)) (by omega))) p0)) ?_
  refine ckF ?_
  refine awp_exit ?_
  exact xw _ (forL_end hk0 (rfl) hI0)
 refine awp_seq ?_
 refine jn [(4, .b ((specIsValidSchema s_) && ((specl01In f.1 1 60) && ((specl01In f.2.1 0 2) && (specl01In f.2.2.2.1 0 60)))))] [0, 3, 4] [] [3] (specIsValidSchema s_) (fun h8 => ?_) (fun h8 => ?_) ?_
 ·
  refine awp_split (specl01In f.1 1 60) (fun h9 => ?_) (fun h9 => ?_)
  ·
   refine awp_split (specl01In f.2.1 0 2) (fun h10 => ?_) (fun h10 => ?_)
   ·
    refine rn tt_ok [4] [] (pc 1 (cb h8 (specIsValidSchema_a s_)) (pc 5 (cb h9 (specl01In_a f.1 1 60)) (pc 10 (cb h10 (specl01In_a f.2.1 0 2)) (pc 15 (specl01In_a f.2.2.2.1 0 60) p0)))) ?_
    exact ⟨rfl, weak_fit (by rw [h8, h9, h10] <;> kernel_rfl)⟩
   refine rn tt_ok [4] [] (pc 1 (cb h8 (specIsValidSchema_a s_)) (pc 5 (cb h9 (specl01In_a f.1 1 60)) (pc 10 (cb h10 (specl01In_a f.2.1 0 2)) p0))) ?_
   exact ⟨rfl, weak_fit (by rw [h8, h9, h10] <;> kernel_rfl)⟩
  refine rn tt_ok [4] [] (pc 1 (cb h8 (specIsValidSchema_a s_)) (pc 5 (cb h9 (specl01In_a f.1 1 60)) p0)) ?_
  exact ⟨rfl, weak_fit (by rw [h8, h9] <;> kernel_rfl)⟩
 ·
  refine rn tt_ok [4] [] (pc 1 (cb h8 (specIsValidSchema_a s_)) p0) ?_
  exact ⟨rfl, weak_fit (by rw [h8] <;> kernel_rfl)⟩
 refine awp_ret ?_
 exact pb [] (on_b hD0 (rfl))
def specIsValidStore_f0 (s_ : StoreD) (k0 : Nat) (a0 : FileD) (_ : Unit) : Rd (Bool) (Unit) (Unit) := (bif ((!(specIsValidFile s_.1 a0)) || (decide (a0.1 ≥ s_.2.2) || (decide (((k0 : Nat) : Int) > (0 : Int)) && decide ((nth s_.2.1 (Int.toNat (((k0 : Nat) : Int) - 1))).1 ≥ a0.1)))) then (.ret false) else (.next ()))
def specIsValidStore_e0 (_ : Nat) (_ : Unit) : Unit := ()
def specIsValidStore (s_ : StoreD) : Bool := (Out.on (forL (specIsValidStore_f0 s_) specIsValidStore_e0 s_.2.1 0 ()) (fun _ => ((specIsValidSchema s_.1) && (decide ((s_.2.1.length : Int) ≤ (12 : Int)) && (specl01In s_.2.2 1 61)))))
theorem specIsValidStore_a (s_ : StoreD) : ACalls Tryz.prog 43 [.a [.h s_.1, .h s_.2.1, .i s_.2.2]] (.b (specIsValidStore s_)) := by
 refine en tt_ok Tryz.func43 fun w0 F0 hG => ?_
 refine sn tt_ok [1, 2] [1] (p0) ?_
 refine awp_seq ?_
 refine tn tt_ok [1, 2, 3] [1] (p0) ?_
 refine mz [(1, .p 1 0), (2, .b false), (3, .i 0)] [0] [(1, [.h s_.1, .h s_.2.1, .i s_.2.2])] [] ?_
 refine wB 1 1 .sh s_.2.1 (fun hw1 hl2 => ?_)
 refine blL0 (specIsValidStore_f0 s_) specIsValidStore_e0 s_.2.1 () (fun k0 _ => [(3, .i ((k0 : Nat) : Int))]) [3] (fun _ => []) [3] wf0 (fun k0 s0 hk0 hI0 => ?_) (fun k0 s0 hk0 hI0 => ?_) (fun y0 hD0 => ?_)
 ·
  obtain ⟨a0, hx0⟩ := get_some (l := s_.2.1) (i := k0) hk0
  refine awp_seq ?_
  refine sn tt_ok [1, 2, 3, 8] [1] (pl 3 s_.2.1 (pe 4 (av_bool (decide_eq_true (p := ((k0 : Nat) : Int) < (s_.2.1.length : Int)) (by omega))) p0)) ?_
  refine ckT ?_
  refine awp_skip ?_
  refine awp_seq ?_
  refine awp_block ?_
  refine awp_seq ?_
  refine mz [(8, .b true)] [] [] [] ?_
  refine jn [(50, .b ((!(specIsValidFile s_.1 a0)) || (decide (a0.1 ≥ s_.2.2) || (decide (((k0 : Nat) : Int) > (0 : Int)) && decide ((nth s_.2.1 (Int.toNat (((k0 : Nat) : Int) - 1))).1 ≥ a0.1)))))] [8] [] [] (!(specIsValidFile s_.1 a0)) (fun h3 => ?_) (fun h3 => ?_) ?_
  ·
   have h3n : (specIsValidFile s_.1 a0) = false := bnot_t h3
   refine rN tt_ok tt_mx [1, 2, 3, 50] [1] (pn 5 hx0 (pc 7 (cb h3n (specIsValidFile_a s_.1 a0)) (pe 8 (show .b (!false) = .b true from rfl) p0))) ?_
   exact ⟨rfl, weak_fit (by rw [h3] <;> kernel_rfl)⟩
  ·
   have h3n : (specIsValidFile s_.1 a0) = true := bnot_f h3
   refine awp_split (decide (a0.1 ≥ s_.2.2)) (fun h4 => ?_) (fun h4 => ?_)
   ·
    refine rN tt_ok tt_mx [1, 2, 3, 50] [1] (pn 5 hx0 (pc 7 (cb h3n (specIsValidFile_a s_.1 a0)) (pe 8 (show .b (!true) = .b false from rfl) (pn 13 hx0 (pt 18 h4 p0))))) ?_
    exact ⟨rfl, weak_fit (by rw [h3, h4] <;> kernel_rfl)⟩
   have h4d := of_decide_eq_false h4
   refine awp_split (decide (((k0 : Nat) : Int) > (0 : Int))) (fun h5 => ?_) (fun h5 => ?_)
   ·
    have h5d := of_decide_eq_true h5
    have hx6 := ng s_.2.1 (Int.toNat (((k0 : Nat) : Int) - 1))
    refine rN tt_ok tt_mx [1, 2, 3, 50] [1] (pn 5 hx0 (pc 7 (cb h3n (specIsValidFile_a s_.1 a0)) (pe 8 (show .b (!true) = .b false from rfl) (pn 13 hx0 (pf 18 h4 (pt 22 h5 (pe 27 (av_i (IntWalk.i64_in (((k0 : Nat) : Int) - 1) (by omega))) (pg 28 (((k0 : Nat) : Int) - 1) hx6 (pn 34 hx0 p0))))))))) ?_
    exact ⟨rfl, weak_fit (by rw [h3, h4, h5] <;> kernel_rfl)⟩
   refine rN tt_ok tt_mx [1, 2, 3, 50] [1] (pn 5 hx0 (pc 7 (cb h3n (specIsValidFile_a s_.1 a0)) (pe 8 (show .b (!true) = .b false from rfl) (pn 13 hx0 (pf 18 h4 (pf 22 h5 p0)))))) ?_
   exact ⟨rfl, weak_fit (by rw [h3, h4, h5] <;> kernel_rfl)⟩
  refine ck ((!(specIsValidFile s_.1 a0)) || (decide (a0.1 ≥ s_.2.2) || (decide (((k0 : Nat) : Int) > (0 : Int)) && decide ((nth s_.2.1 (Int.toNat (((k0 : Nat) : Int) - 1))).1 ≥ a0.1)))) (fun h7 => ?_) (fun h7 => ?_)
  ·
   refine su tt_ok [] [50] [] [] (p0) ?_
   refine awp_ret ?_
   have hr8 : (forL (specIsValidStore_f0 s_) specIsValidStore_e0 s_.2.1 0 ()) = .ret false := forL_ret hx0 (bif_t h7 (rfl)) hI0
   exact pb [] (on_r hr8)
  have h7r : ((decide (a0.1 ≥ s_.2.2) || (decide (((k0 : Nat) : Int) > (0 : Int)) && decide ((nth s_.2.1 (Int.toNat (((k0 : Nat) : Int) - 1))).1 ≥ a0.1)))) = false := or_r h7
  have h7rl : (decide (a0.1 ≥ s_.2.2)) = false := or_l h7r
  have h7rld := of_decide_eq_false h7rl
  refine awp_skip ?_
  refine rn tt_ok [1, 2, 3] [1] (pe 1 (av_i (wrap_succ k0 (by omega))) p0) ?_
  exact xw _ (forL_next hx0 (bif_f h7 (rfl)) hI0)
 ·
  refine awp_seq ?_
  refine sn tt_ok [1, 2, 3, 8] [1] (pl 3 s_.2.1 (pe 4 (av_bool (decide_eq_false (p := ((k0 : Nat) : Int) < (s_.2.1.length : Int)) (by omega))) p0)) ?_
  refine ckF ?_
  refine awp_exit ?_
  exact xw _ (forL_end hk0 (rfl) hI0)
 refine awp_seq ?_
 refine jn [(2, .b ((specIsValidSchema s_.1) && (decide ((s_.2.1.length : Int) ≤ (12 : Int)) && (specl01In s_.2.2 1 61))))] [1, 2] [] [1] (specIsValidSchema s_.1) (fun h9 => ?_) (fun h9 => ?_) ?_
 ·
  refine awp_split (decide ((s_.2.1.length : Int) ≤ (12 : Int))) (fun h10 => ?_) (fun h10 => ?_)
  ·
   refine rn tt_ok [2] [] (pc 2 (cb h9 (specIsValidSchema_a s_.1)) (pl 6 s_.2.1 (pt 7 h10 (pc 12 (specl01In_a s_.2.2 1 61) p0)))) ?_
   exact ⟨rfl, weak_fit (by rw [h9, h10] <;> kernel_rfl)⟩
  refine rn tt_ok [2] [] (pc 2 (cb h9 (specIsValidSchema_a s_.1)) (pl 6 s_.2.1 (pf 7 h10 p0))) ?_
  exact ⟨rfl, weak_fit (by rw [h9, h10] <;> kernel_rfl)⟩
 ·
  refine rn tt_ok [2] [] (pc 2 (cb h9 (specIsValidSchema_a s_.1)) p0) ?_
  exact ⟨rfl, weak_fit (by rw [h9] <;> kernel_rfl)⟩
 refine awp_ret ?_
 exact pb [] (on_b hD0 (rfl))
def specIsStratified (d : (List DirD)) : Bool := ((specStrata d)).2
theorem specIsStratified_a (d : (List DirD)) : ACalls Tryz.prog 44 [.h d] (.b (specIsStratified d)) := by
 refine en tt_ok Tryz.func44 fun w0 F0 hG => ?_
 refine sn tt_ok [0, 2] [] (p0) ?_
 refine tn tt_ok [2, 4] [] (pc 1 (specStrata_a d) p0) ?_
 refine tu tt_ok [(2, .b (((specStrata d)).2))] [0] [] [] (p0) ?_
 refine awp_ret ?_
 exact pb [] (show specIsStratified d = ((specStrata d)).2 from rfl)
def specIsValidSnapshot (x : SnapshotD) : Bool := ((specIsValidStore x.1) && (specIsStratified x.2))
theorem specIsValidSnapshot_a (x : SnapshotD) : ACalls Tryz.prog 28 [.a [.h x.1.1, .h x.1.2.1, .i x.1.2.2, .h x.2]] (.b (specIsValidSnapshot x)) := by
 refine en tt_ok Tryz.func28 fun w0 F0 hG => ?_
 refine sn tt_ok [1, 2] [1] (p0) ?_
 refine awp_seq ?_
 refine mz [(1, .p 1 0), (2, .b false)] [0] [(1, [.h x.1.1, .h x.1.2.1, .i x.1.2.2, .h x.2])] [] ?_
 refine jn [(2, .b ((specIsValidStore x.1) && (specIsStratified x.2)))] [1, 2] [] [1] (specIsValidStore x.1) (fun h1 => ?_) (fun h1 => ?_) ?_
 ·
  refine rn tt_ok [2] [] (pc 2 (cb h1 (specIsValidStore_a x.1)) (pc 6 (specIsStratified_a x.2) p0)) ?_
  exact ⟨rfl, weak_fit (by rw [h1] <;> kernel_rfl)⟩
 ·
  refine rn tt_ok [2] [] (pc 2 (cb h1 (specIsValidStore_a x.1)) p0) ?_
  exact ⟨rfl, weak_fit (by rw [h1] <;> kernel_rfl)⟩
 refine awp_ret ?_
 exact pb [] (show specIsValidSnapshot x = ((specIsValidStore x.1) && (specIsStratified x.2)) from rfl)
def specAreValidVersions_f0 (k_ : (List VersionD)) (k0 : Nat) (a0 : VersionD) (_ : Unit) : Rd (Bool) (Unit) (Unit) := (bif ((!(specl01In a0.1 1 1000000000)) || ((!(specIsValidSnapshot a0.2.1)) || ((!(specl01In a0.2.2 0 99)) || (decide (((k0 : Nat) : Int) > (0 : Int)) && decide ((nth k_ (Int.toNat (((k0 : Nat) : Int) - 1))).1 ≥ a0.1))))) then (.ret false) else (.next ()))
def specAreValidVersions_e0 (_ : Nat) (_ : Unit) : Unit := ()
def specAreValidVersions (k_ : (List VersionD)) : Bool := (Out.on (forL (specAreValidVersions_f0 k_) specAreValidVersions_e0 k_ 0 ()) (fun _ => decide ((k_.length : Int) ≤ (6 : Int))))
theorem specAreValidVersions_a (k_ : (List VersionD)) : ACalls Tryz.prog 12 [.h k_] (.b (specAreValidVersions k_)) := by
 refine en tt_ok Tryz.func12 fun w0 F0 hG => ?_
 refine sn tt_ok [0, 2] [] (p0) ?_
 refine awp_seq ?_
 refine tn tt_ok [0, 2, 3] [] (p0) ?_
 refine mz [(2, .b false), (3, .i 0)] [] [] [] ?_
 refine wT 0 0 .sh k_ (fun hw1 hl2 => ?_)
 refine blL0 (specAreValidVersions_f0 k_) specAreValidVersions_e0 k_ () (fun k0 _ => [(3, .i ((k0 : Nat) : Int))]) [3] (fun _ => []) [3] wf0 (fun k0 s0 hk0 hI0 => ?_) (fun k0 s0 hk0 hI0 => ?_) (fun y0 hD0 => ?_)
 ·
  obtain ⟨a0, hx0⟩ := get_some (l := k_) (i := k0) hk0
  refine awp_seq ?_
  refine sn tt_ok [0, 2, 3, 7] [] (pl 2 k_ (pe 3 (av_bool (decide_eq_true (p := ((k0 : Nat) : Int) < (k_.length : Int)) (by omega))) p0)) ?_
  refine ckT ?_
  refine awp_skip ?_
  refine awp_seq ?_
  refine awp_block ?_
  refine awp_seq ?_
  refine mz [(7, .b true)] [] [] [] ?_
  refine jn [(52, .b ((!(specl01In a0.1 1 1000000000)) || ((!(specIsValidSnapshot a0.2.1)) || ((!(specl01In a0.2.2 0 99)) || (decide (((k0 : Nat) : Int) > (0 : Int)) && decide ((nth k_ (Int.toNat (((k0 : Nat) : Int) - 1))).1 ≥ a0.1))))))] [7] [] [] (!(specl01In a0.1 1 1000000000)) (fun h3 => ?_) (fun h3 => ?_) ?_
  ·
   have h3n : (specl01In a0.1 1 1000000000) = false := bnot_t h3
   refine rN tt_ok tt_mx [0, 2, 3, 52] [] (pn 2 hx0 (pc 5 (cb h3n (specl01In_a a0.1 1 1000000000)) (pe 6 (show .b (!false) = .b true from rfl) p0))) ?_
   exact ⟨rfl, weak_fit (by rw [h3] <;> kernel_rfl)⟩
  ·
   have h3n : (specl01In a0.1 1 1000000000) = true := bnot_f h3
   refine awp_split (!(specIsValidSnapshot a0.2.1)) (fun h4 => ?_) (fun h4 => ?_)
   ·
    have h4n : (specIsValidSnapshot a0.2.1) = false := bnot_t h4
    refine rN tt_ok tt_mx [0, 2, 3, 52] [] (pn 2 hx0 (pc 5 (cb h3n (specl01In_a a0.1 1 1000000000)) (pe 6 (show .b (!true) = .b false from rfl) (pn 10 hx0 (pc 13 (cb h4n (specIsValidSnapshot_a a0.2.1)) (pe 14 (show .b (!false) = .b true from rfl) p0)))))) ?_
    exact ⟨rfl, weak_fit (by rw [h3, h4] <;> kernel_rfl)⟩
   have h4n : (specIsValidSnapshot a0.2.1) = true := bnot_f h4
   refine awp_split (!(specl01In a0.2.2 0 99)) (fun h5 => ?_) (fun h5 => ?_)
   ·
    have h5n : (specl01In a0.2.2 0 99) = false := bnot_t h5
    refine rN tt_ok tt_mx [0, 2, 3, 52] [] (pn 2 hx0 (pc 5 (cb h3n (specl01In_a a0.1 1 1000000000)) (pe 6 (show .b (!true) = .b false from rfl) (pn 10 hx0 (pc 13 (cb h4n (specIsValidSnapshot_a a0.2.1)) (pe 14 (show .b (!true) = .b false from rfl) (pn 19 hx0 (pc 22 (cb h5n (specl01In_a a0.2.2 0 99)) (pe 23 (show .b (!false) = .b true from rfl) p0))))))))) ?_
    exact ⟨rfl, weak_fit (by rw [h3, h4, h5] <;> kernel_rfl)⟩
   have h5n : (specl01In a0.2.2 0 99) = true := bnot_f h5
   refine awp_split (decide (((k0 : Nat) : Int) > (0 : Int))) (fun h6 => ?_) (fun h6 => ?_)
   ·
    have h6d := of_decide_eq_true h6
    have hx7 := ng k_ (Int.toNat (((k0 : Nat) : Int) - 1))
    refine rN tt_ok tt_mx [0, 2, 3, 52] [] (pn 2 hx0 (pc 5 (cb h3n (specl01In_a a0.1 1 1000000000)) (pe 6 (show .b (!true) = .b false from rfl) (pn 10 hx0 (pc 13 (cb h4n (specIsValidSnapshot_a a0.2.1)) (pe 14 (show .b (!true) = .b false from rfl) (pn 19 hx0 (pc 22 (cb h5n (specl01In_a a0.2.2 0 99)) (pe 23 (show .b (!true) = .b false from rfl) (pt 27 h6 (pe 31 (av_i (IntWalk.i64_in (((k0 : Nat) : Int) - 1) (by omega))) (pg 32 (((k0 : Nat) : Int) - 1) hx7 (pn 37 hx0 p0))))))))))))) ?_
    exact ⟨rfl, weak_fit (by rw [h3, h4, h5, h6] <;> kernel_rfl)⟩
   refine rN tt_ok tt_mx [0, 2, 3, 52] [] (pn 2 hx0 (pc 5 (cb h3n (specl01In_a a0.1 1 1000000000)) (pe 6 (show .b (!true) = .b false from rfl) (pn 10 hx0 (pc 13 (cb h4n (specIsValidSnapshot_a a0.2.1)) (pe 14 (show .b (!true) = .b false from rfl) (pn 19 hx0 (pc 22 (cb h5n (specl01In_a a0.2.2 0 99)) (pe 23 (show .b (!true) = .b false from rfl) (pf 27 h6 p0)))))))))) ?_
   exact ⟨rfl, weak_fit (by rw [h3, h4, h5, h6] <;> kernel_rfl)⟩
  refine ck ((!(specl01In a0.1 1 1000000000)) || ((!(specIsValidSnapshot a0.2.1)) || ((!(specl01In a0.2.2 0 99)) || (decide (((k0 : Nat) : Int) > (0 : Int)) && decide ((nth k_ (Int.toNat (((k0 : Nat) : Int) - 1))).1 ≥ a0.1))))) (fun h8 => ?_) (fun h8 => ?_)
  ·
   refine sn tt_ok [0, 2, 3] [] (p0) ?_
   refine awp_ret ?_
   have hr9 : (forL (specAreValidVersions_f0 k_) specAreValidVersions_e0 k_ 0 ()) = .ret false := forL_ret hx0 (bif_t h8 (rfl)) hI0
   exact pb [] (on_r hr9)
  refine awp_skip ?_
  refine rn tt_ok [0, 2, 3] [] (pe 1 (av_i (wrap_succ k0 (by omega))) p0) ?_
  exact xw _ (forL_next hx0 (bif_f h8 (rfl)) hI0)
 ·
  refine awp_seq ?_
  refine sn tt_ok [0, 2, 3, 7] [] (pl 2 k_ (pe 3 (av_bool (decide_eq_false (p := ((k0 : Nat) : Int) < (k_.length : Int)) (by omega))) p0)) ?_
  refine ckF ?_
  refine awp_exit ?_
  exact xw _ (forL_end hk0 (rfl) hI0)
 refine sn tt_ok [2] [] (pl 1 k_ p0) ?_
 refine awp_ret ?_
 exact pb [] (on_b hD0 (rfl))
theorem kind_eq (s : List FieldD) (n : ByteArray) : specFieldKind s n = implFieldKind s n := rfl
theorem matchSchema_eq (s : List FieldD) (n : ByteArray) (v : ValueD) : specMatchesSchema s n v = implMatchesSchema s n v := by
  unfold specMatchesSchema implMatchesSchema
  rw [vval_eq, kind_eq]
theorem schema_eq (s : List FieldD) : specIsValidSchema s = implIsValidSchema s := by
  unfold specIsValidSchema implIsValidSchema
  rw [forL_ext (f := specIsValidSchema_f0 s) (g := implIsValidSchema_f0 s) (e := specIsValidSchema_e0) (e' := implIsValidSchema_e0) (fun k a u => by
    unfold specIsValidSchema_f0 implIsValidSchema_f0
    rw [vname_eq]
    have h : (!(specl01In a.2 1 2)) = ((a.2 != 1) && (a.2 != 2)) := by
      unfold specl01In
      rw [Bool.eq_iff_iff]; simp; omega
    rw [h]
    generalize (!(Op.bytesLess ((nth s (Int.toNat (((k : Nat) : Int) - 1))).1).toList a.1.toList)) = x
    cases specIsValidAttrName a.1 <;> cases (a.2 != (1 : Int)) <;> cases (a.2 != (2 : Int)) <;> cases decide (((k : Nat) : Int) > (0 : Int)) <;> cases x <;> rfl) (fun _ _ => rfl)]
theorem file_eq (s : List FieldD) (f : FileD) : specIsValidFile s f = implIsValidFile s f := by
  unfold specIsValidFile implIsValidFile
  rw [forL_ext (f := specIsValidFile_f0 s f) (g := implIsValidFile_f0 s f) (e := specIsValidFile_e0) (e' := implIsValidFile_e0) (fun k a u => by
    unfold specIsValidFile_f0 implIsValidFile_f0
    rw [matchSchema_eq]
    generalize (!(Op.bytesLess ((nth f.2.2.2.2 (Int.toNat (((k : Nat) : Int) - 1))).1).toList a.1.toList)) = x
    cases implMatchesSchema s a.1 a.2 <;> cases decide (((k : Nat) : Int) > (0 : Int)) <;> cases x <;> rfl) (fun _ _ => rfl), schema_eq]
  congr 1
  funext y
  unfold implisUser
  simp only [← within_in]
  cases implIsValidSchema s <;> cases implwithin f.1 1 60 <;> cases implwithin f.2.1 0 2 <;> cases implwithin f.2.2.2.1 0 60 <;> rfl
theorem store_eq (s : StoreD) : specIsValidStore s = implIsValidStore s := by
  unfold specIsValidStore implIsValidStore
  rw [forL_ext (f := specIsValidStore_f0 s) (g := implIsValidStore_f0 s) (e := specIsValidStore_e0) (e' := implIsValidStore_e0) (fun k a u => by
    unfold specIsValidStore_f0 implIsValidStore_f0
    rw [file_eq]) (fun _ _ => rfl), schema_eq]
  rfl
theorem stratified_eq (d : List DirD) : specIsStratified d = implIsStratified d := by
  unfold specIsStratified implIsStratified
  rw [strata_alike]
theorem snap_eq (x : SnapshotD) : specIsValidSnapshot x = implIsValidSnapshot x := by
  unfold specIsValidSnapshot implIsValidSnapshot
  rw [store_eq, stratified_eq]
theorem versions_eq (v : List VersionD) : specAreValidVersions v = implAreValidVersions v := by
  unfold specAreValidVersions implAreValidVersions
  rw [forL_ext (f := specAreValidVersions_f0 v) (g := implAreValidVersions_f0 v) (e := specAreValidVersions_e0) (e' := implAreValidVersions_e0) (fun k a u => by
    unfold specAreValidVersions_f0 implAreValidVersions_f0
    rw [snap_eq]
    simp only [← within_in]
    cases implwithin a.1 1 1000000000 <;> cases implIsValidSnapshot a.2.1 <;> cases implwithin a.2.2 0 99 <;> cases decide (((k : Nat) : Int) > (0 : Int)) <;> simp) (fun _ _ => rfl)]
open GoE (enc wide)
def implcopyFile (f : FileD) : FileD := f
theorem implcopyFile_a (f : FileD) : ACalls Tryz.prog 85 [.a [.i f.1, .i f.2.1, .b f.2.2.1, .i f.2.2.2.1, .h f.2.2.2.2]] (.a [.i ((implcopyFile f).1), .i ((implcopyFile f).2.1), .b ((implcopyFile f).2.2.1), .i ((implcopyFile f).2.2.2.1), .o 0 ((implcopyFile f).2.2.2.2)]) := by
 refine en tt_ok Tryz.func85 fun w0 F0 hG => ?_
 refine sn tt_ok [1, 2] [1, 2] (p0) ?_
 refine tn tt_ok [1, 2] [1, 2] (pc 2 (cloneAttr_a f.2.2.2.2) p0) ?_
 refine tu tt_ok [(2, .p 2 0)] [0] [(2, [.i f.1, .i f.2.1, .b f.2.2.1, .i f.2.2.2.1, .o 320 f.2.2.2.2])] [] (p0) ?_
 refine awp_ret ?_
 exact pz [] (show implcopyFile f = f from rfl) (fun z => .a [.i z.1, .i z.2.1, .b z.2.2.1, .i z.2.2.2.1, .o 0 z.2.2.2.2])
def implcopyFiles_f0 (_ : Nat) (a0 : FileD) (s0 : (List FileD)) : Rd ((List FileD)) ((List FileD)) ((List FileD)) := (.next (s0 ++ [(implcopyFile a0)]))
def implcopyFiles_e0 (_ : Nat) (s0 : (List FileD)) : (List FileD) := s0
def implcopyFiles (l : (List FileD)) : (List FileD) := (Out.on (forL implcopyFiles_f0 implcopyFiles_e0 l 0 []) (fun y0 => y0))
theorem implcopyFiles_a (l : (List FileD)) : ACalls Tryz.prog 66 [.h l] (.o 0 (implcopyFiles l)) := by
 refine en tt_ok Tryz.func66 fun w0 F0 hG => ?_
 refine sn tt_ok [0, 2] [] (p0) ?_
 refine tn tt_ok [0, 2, 3] [] (p0) ?_
 refine awp_seq ?_
 refine tu tt_ok [(2, .e 0), (3, .one (.slc (.own true 384) 5 [])), (7, .h l), (8, .i (l.length : Int)), (9, .i 0)] [0] [] [] (pl 1 l p0) ?_
 refine wT 7 0 .sh l (fun hw1 hl2 => ?_)
 refine blL1 implcopyFiles_f0 implcopyFiles_e0 l [] (fun k0 s0 => [(3, .o 147201 s0), (9, .i ((k0 : Nat) : Int))]) [3, 9] (fun y0 => [(3, .o 147351 y0)]) [3, 7, 8, 9] (fun k0 s0 => List.length s0 ≤ k0) (weak_sf [(384, 147201)] (by kernel_rfl)) (by simp) (fun k0 s0 hk0 hI0 => ?_) (fun k0 s0 hk0 hI0 => ?_) (fun y0 hD0 => ?_)
 ·
  have hA0_0 := hI0.2
  obtain ⟨a0, hx0⟩ := get_some (l := l) (i := k0) hk0
  refine sn tt_ok [2, 3, 7, 8, 9, 10] [] (pe 0 (av_bool (decide_eq_true (p := ((k0 : Nat) : Int) < (l.length : Int)) (by omega))) p0) ?_
  refine awp_seq ?_
  refine ckT ?_
  refine awp_skip ?_
  refine awp_seq ?_
  refine awp_block ?_
  refine tn tt_ok [2, 3, 5, 7, 8, 9] [5] (pn 0 hx0 p0) ?_
  refine wT 3 0 (.own true 147201) s0 (fun hw3 hl4 => ?_)
  refine qu tt_ok [(3, .one (.slc (.own true 1088) 5 ((eL s0) ++ [[.i ((implcopyFile a0).1), .i ((implcopyFile a0).2.1), .b ((implcopyFile a0).2.2.1), .i ((implcopyFile a0).2.2.2.1), .h ((implcopyFile a0).2.2.2.2)]])))] [3] [] [] (pc 2 (implcopyFile_a a0) (pa s0 [(implcopyFile a0)] p0)) ?_
  refine eqn [(3, .o 1088 (s0 ++ [(implcopyFile a0)]))] [3] [] [] (by rw [show ((eL s0) ++ [[.i ((implcopyFile a0).1), .i ((implcopyFile a0).2.1), .b ((implcopyFile a0).2.2.1), .i ((implcopyFile a0).2.2.2.1), .h ((implcopyFile a0).2.2.2.2)]]) = (eL (s0 ++ [(implcopyFile a0)])) from app_eL (rfl) (rfl)]; first | done | kernel_rfl) ?_
  refine rn tt_ok [2, 3, 7, 8, 9] [] (pe 0 (av_i (wrap_succ k0 (by omega))) p0) ?_
  exact Exists.intro (s0 ++ [(implcopyFile a0)]) (And.intro (weak_sf [(1088, 147201)] (by kernel_rfl)) ⟨forL_next hx0 (rfl) hI0.1, by first | omega | (simp; omega) | simp⟩)
 ·
  have hA0_0 := hI0.2
  refine sn tt_ok [2, 3, 7, 8, 9, 10] [] (pe 0 (av_bool (decide_eq_false (p := ((k0 : Nat) : Int) < (l.length : Int)) (by omega))) p0) ?_
  refine awp_seq ?_
  refine ckF ?_
  refine awp_exit ?_
  exact Exists.intro _ (And.intro (weak_sf [(147201, 147351)] (by kernel_rfl)) (forL_end hk0 (rfl) hI0.1))
 refine sn tt_ok [2] [] (p0) ?_
 refine awp_ret ?_
 exact po0 [] (on_b hD0 (rfl))
def implcopyStore (s_ : StoreD) : StoreD := (s_.1, (implcopyFiles s_.2.1), s_.2.2)
theorem implcopyStore_a (s_ : StoreD) : ACalls Tryz.prog 49 [.a [.h s_.1, .h s_.2.1, .i s_.2.2]] (.a [.o 0 ((implcopyStore s_).1), .o 1 ((implcopyStore s_).2.1), .i ((implcopyStore s_).2.2)]) := by
 refine en tt_ok Tryz.func49 fun w0 F0 hG => ?_
 refine sn tt_ok [1, 2] [1, 2] (p0) ?_
 refine tN tt_ok tt_mx [2] [2] (pc 2 (cloneField_a s_.1) (pc 5 (implcopyFiles_a s_.2.1) p0)) ?_
 refine awp_ret ?_
 exact pz [] (show implcopyStore s_ = (s_.1, (implcopyFiles s_.2.1), s_.2.2) from rfl) (fun z => .a [.o 0 z.1, .o 1 z.2.1, .i z.2.2])
def implcopyDir (x : DirD) : DirD := x
theorem implcopyDir_a (x : DirD) : ACalls Tryz.prog 67 [.a [.s x.1, .h x.2]] (.a [.s ((implcopyDir x).1), .o 0 ((implcopyDir x).2)]) := by
 refine en tt_ok Tryz.func67 fun w0 F0 hG => ?_
 refine sn tt_ok [1, 2] [1, 2] (p0) ?_
 refine tn tt_ok [1, 2] [1, 2] (pc 2 (cloneNode_a x.2) p0) ?_
 refine tu tt_ok [(2, .p 2 0)] [0] [(2, [.s x.1, .o 320 x.2])] [] (p0) ?_
 refine awp_ret ?_
 exact pz [] (show implcopyDir x = x from rfl) (fun z => .a [.s z.1, .o 0 z.2])
def implcopyDirs_f0 (_ : Nat) (a0 : DirD) (s0 : (List DirD)) : Rd ((List DirD)) ((List DirD)) ((List DirD)) := (.next (s0 ++ [(implcopyDir a0)]))
def implcopyDirs_e0 (_ : Nat) (s0 : (List DirD)) : (List DirD) := s0
def implcopyDirs (d : (List DirD)) : (List DirD) := (Out.on (forL implcopyDirs_f0 implcopyDirs_e0 d 0 []) (fun y0 => y0))
theorem implcopyDirs_a (d : (List DirD)) : ACalls Tryz.prog 50 [.h d] (.o 0 (implcopyDirs d)) := by
 refine en tt_ok Tryz.func50 fun w0 F0 hG => ?_
 refine sn tt_ok [0, 2] [] (p0) ?_
 refine tn tt_ok [0, 2, 3] [] (p0) ?_
 refine awp_seq ?_
 refine tu tt_ok [(2, .e 0), (3, .one (.slc (.own true 384) 2 [])), (7, .h d), (8, .i (d.length : Int)), (9, .i 0)] [0] [] [] (pl 1 d p0) ?_
 refine wT 7 0 .sh d (fun hw1 hl2 => ?_)
 refine blL1 implcopyDirs_f0 implcopyDirs_e0 d [] (fun k0 s0 => [(3, .o 147201 s0), (9, .i ((k0 : Nat) : Int))]) [3, 9] (fun y0 => [(3, .o 147351 y0)]) [3, 7, 8, 9] (fun k0 s0 => List.length s0 ≤ k0) (weak_sf [(384, 147201)] (by kernel_rfl)) (by simp) (fun k0 s0 hk0 hI0 => ?_) (fun k0 s0 hk0 hI0 => ?_) (fun y0 hD0 => ?_)
 ·
  have hA0_0 := hI0.2
  obtain ⟨a0, hx0⟩ := get_some (l := d) (i := k0) hk0
  refine sn tt_ok [2, 3, 7, 8, 9, 10] [] (pe 0 (av_bool (decide_eq_true (p := ((k0 : Nat) : Int) < (d.length : Int)) (by omega))) p0) ?_
  refine awp_seq ?_
  refine ckT ?_
  refine awp_skip ?_
  refine awp_seq ?_
  refine awp_block ?_
  refine tn tt_ok [2, 3, 5, 7, 8, 9] [5] (pn 0 hx0 p0) ?_
  refine wT 3 0 (.own true 147201) s0 (fun hw3 hl4 => ?_)
  refine qu tt_ok [(3, .one (.slc (.own true 1088) 2 ((eL s0) ++ [[.s ((implcopyDir a0).1), .h ((implcopyDir a0).2)]])))] [3] [] [] (pc 2 (implcopyDir_a a0) (pa s0 [(implcopyDir a0)] p0)) ?_
  refine eqn [(3, .o 1088 (s0 ++ [(implcopyDir a0)]))] [3] [] [] (by rw [show ((eL s0) ++ [[.s ((implcopyDir a0).1), .h ((implcopyDir a0).2)]]) = (eL (s0 ++ [(implcopyDir a0)])) from app_eL (rfl) (rfl)]; first | done | kernel_rfl) ?_
  refine rn tt_ok [2, 3, 7, 8, 9] [] (pe 0 (av_i (wrap_succ k0 (by omega))) p0) ?_
  exact Exists.intro (s0 ++ [(implcopyDir a0)]) (And.intro (weak_sf [(1088, 147201)] (by kernel_rfl)) ⟨forL_next hx0 (rfl) hI0.1, by first | omega | (simp; omega) | simp⟩)
 ·
  have hA0_0 := hI0.2
  refine sn tt_ok [2, 3, 7, 8, 9, 10] [] (pe 0 (av_bool (decide_eq_false (p := ((k0 : Nat) : Int) < (d.length : Int)) (by omega))) p0) ?_
  refine awp_seq ?_
  refine ckF ?_
  refine awp_exit ?_
  exact Exists.intro _ (And.intro (weak_sf [(147201, 147351)] (by kernel_rfl)) (forL_end hk0 (rfl) hI0.1))
 refine sn tt_ok [2] [] (p0) ?_
 refine awp_ret ?_
 exact po0 [] (on_b hD0 (rfl))
def implcopySnapshot (x : SnapshotD) : SnapshotD := ((implcopyStore x.1), (implcopyDirs x.2))
theorem implcopySnapshot_a (x : SnapshotD) : ACalls Tryz.prog 31 [.a [.h x.1.1, .h x.1.2.1, .i x.1.2.2, .h x.2]] (.a [.o 0 ((implcopySnapshot x).1.1), .o 1 ((implcopySnapshot x).1.2.1), .i ((implcopySnapshot x).1.2.2), .o 2 ((implcopySnapshot x).2)]) := by
 refine en tt_ok Tryz.func31 fun w0 F0 hG => ?_
 refine sn tt_ok [1, 2] [1, 2] (p0) ?_
 refine tN tt_ok tt_mx [2] [2] (pc 2 (implcopyStore_a x.1) (pc 5 (implcopyDirs_a x.2) p0)) ?_
 refine awp_ret ?_
 exact pz [] (show implcopySnapshot x = ((implcopyStore x.1), (implcopyDirs x.2)) from rfl) (fun z => .a [.o 0 z.1.1, .o 1 z.1.2.1, .i z.1.2.2, .o 2 z.2])
def implcopyVersions_f0 (_ : Nat) (a0 : VersionD) (s0 : (List VersionD)) : Rd ((List VersionD)) ((List VersionD)) ((List VersionD)) := (.next (s0 ++ [(a0.1, (implcopySnapshot a0.2.1), a0.2.2)]))
def implcopyVersions_e0 (_ : Nat) (s0 : (List VersionD)) : (List VersionD) := s0
def implcopyVersions (v : (List VersionD)) : (List VersionD) := (Out.on (forL implcopyVersions_f0 implcopyVersions_e0 v 0 []) (fun y0 => y0))
theorem implcopyVersions_a (v : (List VersionD)) : ACalls Tryz.prog 15 [.h v] (.o 0 (implcopyVersions v)) := by
 refine en tt_ok Tryz.func15 fun w0 F0 hG => ?_
 refine sn tt_ok [0, 2] [] (p0) ?_
 refine tn tt_ok [0, 2, 3] [] (p0) ?_
 refine awp_seq ?_
 refine tu tt_ok [(2, .e 0), (3, .one (.slc (.own true 384) 6 [])), (7, .h v), (8, .i (v.length : Int)), (9, .i 0)] [0] [] [] (pl 1 v p0) ?_
 refine wT 7 0 .sh v (fun hw1 hl2 => ?_)
 refine blL1 implcopyVersions_f0 implcopyVersions_e0 v [] (fun k0 s0 => [(3, .o 147201 s0), (9, .i ((k0 : Nat) : Int))]) [3, 9] (fun y0 => [(3, .o 147351 y0)]) [3, 7, 8, 9] (fun k0 s0 => List.length s0 ≤ k0) (weak_sf [(384, 147201)] (by kernel_rfl)) (by simp) (fun k0 s0 hk0 hI0 => ?_) (fun k0 s0 hk0 hI0 => ?_) (fun y0 hD0 => ?_)
 ·
  have hA0_0 := hI0.2
  obtain ⟨a0, hx0⟩ := get_some (l := v) (i := k0) hk0
  refine sn tt_ok [2, 3, 7, 8, 9, 10] [] (pe 0 (av_bool (decide_eq_true (p := ((k0 : Nat) : Int) < (v.length : Int)) (by omega))) p0) ?_
  refine awp_seq ?_
  refine ckT ?_
  refine awp_skip ?_
  refine awp_seq ?_
  refine awp_block ?_
  refine tn tt_ok [2, 3, 5, 7, 8, 9] [5] (pn 0 hx0 p0) ?_
  refine tu tt_ok [(5, .p 5 0)] [] [(5, [.i a0.1, .o 960 ((implcopySnapshot a0.2.1).1.1), .o 961 ((implcopySnapshot a0.2.1).1.2.1), .i ((implcopySnapshot a0.2.1).1.2.2), .o 962 ((implcopySnapshot a0.2.1).2), .i a0.2.2])] [] (pc 2 (implcopySnapshot_a a0.2.1) p0) ?_
  refine wT 3 0 (.own true 147201) s0 (fun hw3 hl4 => ?_)
  refine ru tt_ok [(3, .one (.slc (.own true 1280) 6 ((eL s0) ++ [[.i a0.1, .h ((implcopySnapshot a0.2.1).1.1), .h ((implcopySnapshot a0.2.1).1.2.1), .i ((implcopySnapshot a0.2.1).1.2.2), .h ((implcopySnapshot a0.2.1).2), .i a0.2.2]])))] [3, 5] [] [5] (pa s0 [(a0.1, (implcopySnapshot a0.2.1), a0.2.2)] p0) ?_
  refine eqn [(3, .o 1280 (s0 ++ [(a0.1, (implcopySnapshot a0.2.1), a0.2.2)]))] [3] [] [] (by rw [show ((eL s0) ++ [[.i a0.1, .h ((implcopySnapshot a0.2.1).1.1), .h ((implcopySnapshot a0.2.1).1.2.1), .i ((implcopySnapshot a0.2.1).1.2.2), .h ((implcopySnapshot a0.2.1).2), .i a0.2.2]]) = (eL (s0 ++ [(a0.1, (implcopySnapshot a0.2.1), a0.2.2)])) from app_eL (rfl) (rfl)]; first | done | kernel_rfl) ?_
  refine rn tt_ok [2, 3, 7, 8, 9] [] (pe 0 (av_i (wrap_succ k0 (by omega))) p0) ?_
  exact Exists.intro (s0 ++ [(a0.1, (implcopySnapshot a0.2.1), a0.2.2)]) (And.intro (weak_sf [(1280, 147201)] (by kernel_rfl)) ⟨forL_next hx0 (rfl) hI0.1, by first | omega | (simp; omega) | simp⟩)
 ·
  have hA0_0 := hI0.2
  refine sn tt_ok [2, 3, 7, 8, 9, 10] [] (pe 0 (av_bool (decide_eq_false (p := ((k0 : Nat) : Int) < (v.length : Int)) (by omega))) p0) ?_
  refine awp_seq ?_
  refine ckF ?_
  refine awp_exit ?_
  exact Exists.intro _ (And.intro (weak_sf [(147201, 147351)] (by kernel_rfl)) (forL_end hk0 (rfl) hI0.1))
 refine sn tt_ok [2] [] (p0) ?_
 refine awp_ret ?_
 exact po0 [] (on_b hD0 (rfl))
def specl04Copy (f : FileD) : FileD := f
theorem specl04Copy_a (f : FileD) : ACalls Tryz.prog 61 [.a [.i f.1, .i f.2.1, .b f.2.2.1, .i f.2.2.2.1, .h f.2.2.2.2]] (.a [.i ((specl04Copy f).1), .i ((specl04Copy f).2.1), .b ((specl04Copy f).2.2.1), .i ((specl04Copy f).2.2.2.1), .o 0 ((specl04Copy f).2.2.2.2)]) := by
 refine en tt_ok Tryz.func61 fun w0 F0 hG => ?_
 refine sn tt_ok [1, 2] [1, 2] (p0) ?_
 refine wB 1 4 .sh f.2.2.2.2 (fun hw1 hl2 => ?_)
 refine tn tt_ok [1, 2] [1, 2] (po 3 (.flat) (px (ob_len (n := (([] : List (List PV)).length + ((eL f.2.2.2.2) : List (List PV)).length)) (len_of (rfl) (eL_length f.2.2.2.2) (by first | omega | (simp only [List.length_cons, List.length_nil]; omega) | (simp; omega) | simp))) (px (ob_flat (flat_eL f.2.2.2.2)) p0))) ?_
 refine tu tt_ok [(2, .p 2 0)] [0] [(2, [.i f.1, .i f.2.1, .b f.2.2.1, .i f.2.2.2.1, .o 384 f.2.2.2.2])] [] (p0) ?_
 refine awp_ret ?_
 exact pz [] (show specl04Copy f = f from rfl) (fun z => .a [.i z.1, .i z.2.1, .b z.2.2.1, .i z.2.2.2.1, .o 0 z.2.2.2.2])
def specl05Copy_f0 (_ : Nat) (a0 : FileD) (s0 : (List FileD)) : Rd (StoreD) ((List FileD)) ((List FileD)) := (.next (s0 ++ [(specl04Copy a0)]))
def specl05Copy_e0 (_ : Nat) (s0 : (List FileD)) : (List FileD) := s0
def specl05Copy (s_ : StoreD) : StoreD := (Out.on (forL specl05Copy_f0 specl05Copy_e0 s_.2.1 0 []) (fun y0 => (s_.1, y0, s_.2.2)))
theorem specl05Copy_a (s_ : StoreD) : ACalls Tryz.prog 45 [.a [.h s_.1, .h s_.2.1, .i s_.2.2]] (.a [.o 0 ((specl05Copy s_).1), .o 1 ((specl05Copy s_).2.1), .i ((specl05Copy s_).2.2)]) := by
 refine en tt_ok Tryz.func45 fun w0 F0 hG => ?_
 refine sn tt_ok [1, 2] [1, 2] (p0) ?_
 refine wB 1 0 .sh s_.1 (fun hw1 hl2 => ?_)
 refine tN tt_ok tt_mx [1, 2, 3] [1, 2, 3] (po 3 (.flat) (px (ob_len (n := (([] : List (List PV)).length + ((eL s_.1) : List (List PV)).length)) (len_of (rfl) (eL_length s_.1) (by first | omega | (simp only [List.length_cons, List.length_nil]; omega) | (simp; omega) | simp))) (px (ob_flat (flat_eL s_.1)) p0))) ?_
 refine awp_seq ?_
 refine tu tt_ok [(1, .p 1 0), (2, .p 2 0), (3, .p 3 0), (4, .i 0)] [0] [(1, [.h s_.1, .h s_.2.1, .i s_.2.2]), (2, [.e 2, .e 5, .i 0]), (3, [.o 512 s_.1, .e 5, .i s_.2.2])] [] (p0) ?_
 refine wB 1 1 .sh s_.2.1 (fun hw3 hl4 => ?_)
 refine blL1b specl05Copy_f0 specl05Copy_e0 s_.2.1 [] (fun k0 _ => [(4, .i ((k0 : Nat) : Int))]) [4] (fun _ s0 => [(3, [.o 512 s_.1, .o 147211 s0, .i s_.2.2])]) [3] (fun _ => []) [1, 4] (fun y0 => [(3, [.o 512 s_.1, .o 147361 y0, .i s_.2.2])]) [1, 3] (fun k0 s0 => List.length s0 ≤ k0) (weak_gf [(true, 3, 1, true, 320008, 5)] [] [] [(320008, 147211)] (by kernel_rfl)) (by simp) (fun k0 s0 hk0 hI0 => ?_) (fun k0 s0 hk0 hI0 => ?_) (fun y0 hD0 => ?_)
 ·
  have hA0_0 := hI0.2
  obtain ⟨a0, hx0⟩ := get_some (l := s_.2.1) (i := k0) hk0
  refine awp_seq ?_
  refine su tt_ok [(16, .b true)] [] [] [] (pl 3 s_.2.1 (pe 4 (av_bool (decide_eq_true (p := ((k0 : Nat) : Int) < (s_.2.1.length : Int)) (by omega))) p0)) ?_
  refine ckT ?_
  refine awp_skip ?_
  refine awp_seq ?_
  refine awp_block ?_
  refine wB 3 1 (.own true 147211) s0 (fun hw5 hl6 => ?_)
  refine rU tt_ok tt_mx [] [16] [(3, [.o 512 s_.1, .slc (.own true 1792) 5 ((eL s0) ++ [[.i ((specl04Copy a0).1), .i ((specl04Copy a0).2.1), .b ((specl04Copy a0).2.2.1), .i ((specl04Copy a0).2.2.2.1), .h ((specl04Copy a0).2.2.2.2)]]), .i s_.2.2])] [3] (pn 5 hx0 (pc 7 (specl04Copy_a a0) (pa s0 [(specl04Copy a0)] p0))) ?_
  refine eqn [] [] [(3, [.o 512 s_.1, .o 1792 (s0 ++ [(specl04Copy a0)]), .i s_.2.2])] [3] (by rw [show ((eL s0) ++ [[.i ((specl04Copy a0).1), .i ((specl04Copy a0).2.1), .b ((specl04Copy a0).2.2.1), .i ((specl04Copy a0).2.2.2.1), .h ((specl04Copy a0).2.2.2.2)]]) = (eL (s0 ++ [(specl04Copy a0)])) from app_eL (rfl) (rfl)]; first | done | kernel_rfl) ?_
  refine rn tt_ok [1, 2, 3, 4] [1, 2, 3] (pe 1 (av_i (wrap_succ k0 (by omega))) p0) ?_
  exact Exists.intro (s0 ++ [(specl04Copy a0)]) (And.intro (weak_sf [(1792, 147211)] (by kernel_rfl)) ⟨forL_next hx0 (rfl) hI0.1, by first | omega | (simp; omega) | simp⟩)
 ·
  have hA0_0 := hI0.2
  refine awp_seq ?_
  refine su tt_ok [(16, .b false)] [] [] [] (pl 3 s_.2.1 (pe 4 (av_bool (decide_eq_false (p := ((k0 : Nat) : Int) < (s_.2.1.length : Int)) (by omega))) p0)) ?_
  refine ckF ?_
  refine awp_exit ?_
  exact Exists.intro _ (And.intro (weak_sf [(147211, 147361)] (by kernel_rfl)) (forL_end hk0 (rfl) hI0.1))
 refine sn tt_ok [2] [2] (p0) ?_
 refine awp_ret ?_
 exact pz [] (show specl05Copy s_ = _ from on_b hD0 (rfl)) (fun z => .a [.o 0 z.1, .o 1 z.2.1, .i z.2.2])
def specl11Copy_f0 (_ : Nat) (a0 : DirD) (s0 : (List DirD)) : Rd ((List DirD)) ((List DirD)) ((List DirD)) := (.next (s0 ++ [a0]))
def specl11Copy_e0 (_ : Nat) (s0 : (List DirD)) : (List DirD) := s0
def specl11Copy (d : (List DirD)) : (List DirD) := (Out.on (forL specl11Copy_f0 specl11Copy_e0 d 0 []) (fun y0 => y0))
theorem specl11Copy_a (d : (List DirD)) : ACalls Tryz.prog 46 [.h d] (.o 0 (specl11Copy d)) := by
 refine en tt_ok Tryz.func46 fun w0 F0 hG => ?_
 refine sn tt_ok [0, 2] [] (p0) ?_
 refine tn tt_ok [0, 2, 3] [] (p0) ?_
 refine awp_seq ?_
 refine tu tt_ok [(2, .e 0), (3, .one (.slc (.own true 320) 2 [])), (4, .i 0)] [] [] [] (p0) ?_
 refine wT 0 0 .sh d (fun hw1 hl2 => ?_)
 refine blL1 specl11Copy_f0 specl11Copy_e0 d [] (fun k0 s0 => [(3, .o 147202 s0), (4, .i ((k0 : Nat) : Int))]) [3, 4] (fun y0 => [(3, .o 147352 y0)]) [0, 3, 4] (fun k0 s0 => List.length s0 ≤ k0) (weak_sf [(320, 147202)] (by kernel_rfl)) (by simp) (fun k0 s0 hk0 hI0 => ?_) (fun k0 s0 hk0 hI0 => ?_) (fun y0 hD0 => ?_)
 ·
  have hA0_0 := hI0.2
  obtain ⟨a0, hx0⟩ := get_some (l := d) (i := k0) hk0
  refine awp_seq ?_
  refine sn tt_ok [0, 2, 3, 4, 9] [] (pl 2 d (pe 3 (av_bool (decide_eq_true (p := ((k0 : Nat) : Int) < (d.length : Int)) (by omega))) p0)) ?_
  refine ckT ?_
  refine awp_skip ?_
  refine awp_seq ?_
  refine awp_block ?_
  have hl3 : List.length a0.2 ≤ 1073741824 := wide_len (wide_snd (wide_get hx0 (hw1)))
  refine wT 3 0 (.own true 147202) s0 (fun hw4 hl5 => ?_)
  refine qU tt_ok tt_mx [(3, .one (.slc (.own true 1728) 2 ((eL s0) ++ [[.s a0.1, .slc 7 ([] ++ (eL a0.2))]])))] [3] [] [] (pn 3 hx0 (pn 9 hx0 (po 12 (.flat) (px (ob_len (n := (([] : List (List PV)).length + ((eL a0.2) : List (List PV)).length)) (len_of (rfl) (eL_length a0.2) (by first | omega | (simp only [List.length_cons, List.length_nil]; omega) | (simp; omega) | simp))) (px (ob_flat (flat_eL a0.2)) (px (ob_len (n := (((eL s0) : List (List PV)).length + ([[.s a0.1, .slc 7 ([] ++ (eL a0.2))]] : List (List PV)).length)) (len_of (eL_length s0) (rfl) (by first | omega | (simp only [List.length_cons, List.length_nil]; omega) | (simp; omega) | simp))) p0)))))) ?_
  refine eqn [(3, .o 1728 (s0 ++ [a0]))] [3] [] [] (by rw [show ((eL s0) ++ [[.s a0.1, .slc 7 ([] ++ (eL a0.2))]]) = (eL (s0 ++ [a0])) from app_eL (rfl) (rfl)]; first | done | kernel_rfl) ?_
  refine rn tt_ok [0, 2, 3, 4] [] (pe 1 (av_i (wrap_succ k0 (by omega))) p0) ?_
  exact Exists.intro (s0 ++ [a0]) (And.intro (weak_sf [(1728, 147202)] (by kernel_rfl)) ⟨forL_next hx0 (rfl) hI0.1, by first | omega | (simp; omega) | simp⟩)
 ·
  have hA0_0 := hI0.2
  refine awp_seq ?_
  refine sn tt_ok [0, 2, 3, 4, 9] [] (pl 2 d (pe 3 (av_bool (decide_eq_false (p := ((k0 : Nat) : Int) < (d.length : Int)) (by omega))) p0)) ?_
  refine ckF ?_
  refine awp_exit ?_
  exact Exists.intro _ (And.intro (weak_sf [(147202, 147352)] (by kernel_rfl)) (forL_end hk0 (rfl) hI0.1))
 refine sn tt_ok [2] [] (p0) ?_
 refine awp_ret ?_
 exact po0 [] (on_b hD0 (rfl))
def specl28State (x : SnapshotD) : SnapshotD := ((specl05Copy x.1), (specl11Copy x.2))
theorem specl28State_a (x : SnapshotD) : ACalls Tryz.prog 29 [.a [.h x.1.1, .h x.1.2.1, .i x.1.2.2, .h x.2]] (.a [.o 0 ((specl28State x).1.1), .o 1 ((specl28State x).1.2.1), .i ((specl28State x).1.2.2), .o 2 ((specl28State x).2)]) := by
 refine en tt_ok Tryz.func29 fun w0 F0 hG => ?_
 refine sn tt_ok [1, 2] [1, 2] (p0) ?_
 refine tN tt_ok tt_mx [2] [2] (pc 2 (specl05Copy_a x.1) (pc 5 (specl11Copy_a x.2) p0)) ?_
 refine awp_ret ?_
 exact pz [] (show specl28State x = ((specl05Copy x.1), (specl11Copy x.2)) from rfl) (fun z => .a [.o 0 z.1.1, .o 1 z.1.2.1, .i z.1.2.2, .o 2 z.2])
def specl28Copy_f0 (_ : Nat) (a0 : VersionD) (s0 : (List VersionD)) : Rd ((List VersionD)) ((List VersionD)) ((List VersionD)) := (.next (s0 ++ [(a0.1, (specl28State a0.2.1), a0.2.2)]))
def specl28Copy_e0 (_ : Nat) (s0 : (List VersionD)) : (List VersionD) := s0
def specl28Copy (k_ : (List VersionD)) : (List VersionD) := (Out.on (forL specl28Copy_f0 specl28Copy_e0 k_ 0 []) (fun y0 => y0))
theorem specl28Copy_a (k_ : (List VersionD)) : ACalls Tryz.prog 13 [.h k_] (.o 0 (specl28Copy k_)) := by
 refine en tt_ok Tryz.func13 fun w0 F0 hG => ?_
 refine sn tt_ok [0, 2] [] (p0) ?_
 refine tn tt_ok [0, 2, 3] [] (p0) ?_
 refine awp_seq ?_
 refine tu tt_ok [(2, .e 0), (3, .one (.slc (.own true 320) 6 [])), (4, .i 0)] [] [] [] (p0) ?_
 refine wT 0 0 .sh k_ (fun hw1 hl2 => ?_)
 refine blL1 specl28Copy_f0 specl28Copy_e0 k_ [] (fun k0 s0 => [(3, .o 147202 s0), (4, .i ((k0 : Nat) : Int))]) [3, 4] (fun y0 => [(3, .o 147352 y0)]) [0, 3, 4] (fun k0 s0 => List.length s0 ≤ k0) (weak_sf [(320, 147202)] (by kernel_rfl)) (by simp) (fun k0 s0 hk0 hI0 => ?_) (fun k0 s0 hk0 hI0 => ?_) (fun y0 hD0 => ?_)
 ·
  have hA0_0 := hI0.2
  obtain ⟨a0, hx0⟩ := get_some (l := k_) (i := k0) hk0
  refine awp_seq ?_
  refine sn tt_ok [0, 2, 3, 4, 9] [] (pl 2 k_ (pe 3 (av_bool (decide_eq_true (p := ((k0 : Nat) : Int) < (k_.length : Int)) (by omega))) p0)) ?_
  refine ckT ?_
  refine awp_skip ?_
  refine awp_seq ?_
  refine awp_block ?_
  refine wT 3 0 (.own true 147202) s0 (fun hw3 hl4 => ?_)
  refine qU tt_ok tt_mx [(3, .one (.slc (.own true 1984) 6 ((eL s0) ++ [[.i a0.1, .h ((specl28State a0.2.1).1.1), .h ((specl28State a0.2.1).1.2.1), .i ((specl28State a0.2.1).1.2.2), .h ((specl28State a0.2.1).2), .i a0.2.2]])))] [3] [] [] (pn 3 hx0 (pn 8 hx0 (pc 11 (specl28State_a a0.2.1) (pn 14 hx0 (pa s0 [(a0.1, (specl28State a0.2.1), a0.2.2)] p0))))) ?_
  refine eqn [(3, .o 1984 (s0 ++ [(a0.1, (specl28State a0.2.1), a0.2.2)]))] [3] [] [] (by rw [show ((eL s0) ++ [[.i a0.1, .h ((specl28State a0.2.1).1.1), .h ((specl28State a0.2.1).1.2.1), .i ((specl28State a0.2.1).1.2.2), .h ((specl28State a0.2.1).2), .i a0.2.2]]) = (eL (s0 ++ [(a0.1, (specl28State a0.2.1), a0.2.2)])) from app_eL (rfl) (rfl)]; first | done | kernel_rfl) ?_
  refine rn tt_ok [0, 2, 3, 4] [] (pe 1 (av_i (wrap_succ k0 (by omega))) p0) ?_
  exact Exists.intro (s0 ++ [(a0.1, (specl28State a0.2.1), a0.2.2)]) (And.intro (weak_sf [(1984, 147202)] (by kernel_rfl)) ⟨forL_next hx0 (rfl) hI0.1, by first | omega | (simp; omega) | simp⟩)
 ·
  have hA0_0 := hI0.2
  refine awp_seq ?_
  refine sn tt_ok [0, 2, 3, 4, 9] [] (pl 2 k_ (pe 3 (av_bool (decide_eq_false (p := ((k0 : Nat) : Int) < (k_.length : Int)) (by omega))) p0)) ?_
  refine ckF ?_
  refine awp_exit ?_
  exact Exists.intro _ (And.intro (weak_sf [(147202, 147352)] (by kernel_rfl)) (forL_end hk0 (rfl) hI0.1))
 refine sn tt_ok [2] [] (p0) ?_
 refine awp_ret ?_
 exact po0 [] (on_b hD0 (rfl))
theorem copyFiles_id (l : List FileD) : implcopyFiles l = l := by
  unfold implcopyFiles
  rw [forL_map (f := implcopyFiles_f0) (g := id) (fun _ _ _ => rfl), List.map_id]
  rfl
theorem copyDirs_id (d : List DirD) : implcopyDirs d = d := by
  unfold implcopyDirs
  rw [forL_map (f := implcopyDirs_f0) (g := id) (fun _ _ _ => rfl), List.map_id]
  rfl
theorem copyStore_id (s : StoreD) : implcopyStore s = s := by
  unfold implcopyStore
  rw [copyFiles_id]
theorem l05Copy_id (s : StoreD) : specl05Copy s = s := by
  unfold specl05Copy
  rw [forL_map (f := specl05Copy_f0 ) (g := id) (fun _ _ _ => rfl), List.map_id]
  rfl
theorem l11Copy_id (d : List DirD) : specl11Copy d = d := by
  unfold specl11Copy
  rw [forL_map (f := specl11Copy_f0) (g := id) (fun _ _ _ => rfl), List.map_id]
  rfl
theorem copySnapshot_id (x : SnapshotD) : implcopySnapshot x = x := by
  unfold implcopySnapshot
  rw [copyStore_id, copyDirs_id]
theorem l28State_id (x : SnapshotD) : specl28State x = x := by
  unfold specl28State
  rw [l05Copy_id, l11Copy_id]
theorem copyVersions_id (v : List VersionD) : implcopyVersions v = v := by
  unfold implcopyVersions
  rw [forL_map (f := implcopyVersions_f0) (g := id) (fun _ a _ => by unfold implcopyVersions_f0; rw [copySnapshot_id]; rfl), List.map_id]
  rfl
theorem l28Copy_id (v : List VersionD) : specl28Copy v = v := by
  unfold specl28Copy
  rw [forL_map (f := specl28Copy_f0) (g := id) (fun _ a _ => by unfold specl28Copy_f0; rw [l28State_id]; rfl), List.map_id]
  rfl
theorem copyVersions_len (v : List VersionD) : (implcopyVersions v).length = v.length := by rw [copyVersions_id]
def takenJ (G : Nat → Prop) (L : List Nat) : Inj := ⟨G, fun k => if k = 63 then L else [], fun _ => 0⟩
theorem atake_of {P : Program} {tt : List (Nat × TI)} (htt : ttOk P tt = true) {f : Nat} {fn : Func} {c : Code} (hf : P.funcs[f]? = some fn) (hb : fn.body = some c) (hok : FnOk P f) {n : Nat} {l l' : List (List PV)} {args : List AV}
    (hn : args.length + 1 ≤ fn.ntmps) (hk : ∀ x, x ∈ args → ∀ c, c ∈ x.cells → c.key = none ∧ c.bkeys = []) {t : Nat} (hr : fn.results.toList = [.tmp t])
    (h : ∀ w0 F0, GoodAt P w0 → AWP P fn.ntmps w0 F0 c (fun e s => (e = .ret ∨ e = .normal) ∧ ∃ k, get s.tm t = some (.one (.slc (.own false k) n l'))) (entry (.one (.slc (.own false 63) n l) :: args))) : ATake P f n l args true false l' := by
  refine ⟨hok, fun w F G L v vals hgood hFG hGF hGs hnd hLG hrow hargs => calls_of_wp hf hb ?_⟩
  have hlen := hargs.length
  have hGF := hGF rfl
  have hL0 : (takenJ G L).L 63 = L := by show (if 63 = 63 then L else []) = L; simp
  refine wp_mono (h ⟨w, fun b => b ∈ L, none⟩ G hgood (takenJ G L) _ w ?_) ?_
  · have hLk : ∀ k b, b ∈ (takenJ G L).L k → k = 63 ∧ b ∈ L := fun k b hm => by
      have hm : b ∈ (if k = 63 then L else []) := hm
      split at hm
      · rename_i e; exact ⟨e, hm⟩
      simp at hm
    refine { below := Base.Keeps.refl _, nodef := rfl, size := ?_, fl := fun b hb => ⟨hGs b hb, .inl hb⟩, f0 := fun b hb => hb, nd := fun k => ?_, lo := fun k b hb => ⟨.inr (hLk k b hb).2, hLG b (hLk k b hb).2⟩, dj := fun k k' b hb hb' => (hLk k b hb).1.trans (hLk k' b hb').1.symm, bo := fun k c hc => by simp [entry, get] at hc, nb := .inl rfl, cb := (fun b hb => by cases hb), bi := fun k k' c c' hc => by simp [entry, get] at hc, tm := fun t v' hv => ?_ }
    · simp; omega
    · show (if k = 63 then L else [] : List Nat).Nodup
      split
      · exact hnd
      exact List.nodup_nil
    obtain ⟨_, ht⟩ := get_entry hv
    have hall : All2 (AR (takenJ G L) w) (v :: vals) (.one (.slc (.own false 63) n l) :: args) := by
      refine .cons ?_ ?_
      · show OwnTop G ((takenJ G L).L 63) w v n l
        rw [hL0]
        exact OwnTop.keep hrow (fun b hb => ⟨hFG b hb, rfl⟩) fun _ _ => rfl
      have key : ∀ {vs : List Value} {ys : List AV}, All2 (AR (argJ G) w) vs ys → (∀ x, x ∈ ys → ∀ c, c ∈ x.cells → c.key = none ∧ c.bkeys = []) → All2 (AR (takenJ G L) w) vs ys := by
        intro vs ys ha
        induction ha with
        | nil => intro _; exact .nil
        | cons h1 _ ih =>
          intro hx
          refine .cons (h1.keep fun c hc => ?_) (ih fun x hm => hx x (List.mem_cons_of_mem _ hm))
          obtain ⟨e1, e2⟩ := hx _ (List.mem_cons_self ..) c hc
          exact ⟨fun b hb => ⟨hb, rfl⟩, (fun k hk => by rw [e1] at hk; cases hk), (fun k hk => by rw [e2] at hk; simp at hk)⟩
      exact key hargs hk
    obtain ⟨u, hu, hr⟩ := hall.get' ht
    have hlt : t < (v :: vals).length := (List.getElem?_eq_some_iff.1 hu).1
    have : ((v :: vals).toArray ++ Array.replicate (fn.ntmps - (v :: vals).toArray.size) undef).getD t undef = u := by
      rw [Array.getD_eq_getD_getElem?, Array.getElem?_append_left (by simpa using hlt)]
      simp at hu ⊢
      rw [hu]; rfl
    rw [this]
    exact hr
  rintro e a' w' ⟨J', s', hR, he, k, hkk⟩
  have hres : ∃ u, (results fn a'.tmps).run P w' = .ok u w' ∧ AR J' w' u (.one (.slc (.own false k) n l')) := by
    obtain ⟨us, hrun, hall⟩ := resOf_ok (P := P) htt hR (rs := [.tmp t]) (vs := [.one (.slc (.own false k) n l')]) (by simp [resOf, hkk])
    rw [← hr] at hrun
    have hm : (fn.results.mapM (resRun a'.tmps)).run P w' = .ok us.toArray w' := by
      rw [Array.mapM_eq_mapM_toList]
      simp [hrun]
    have hgen : (results fn a'.tmps).run P w' = .ok (if h : us.toArray.size = 1 then us.toArray[0] else .tuple us.toArray) w' := by
      rw [results_eq]
      simp only [Sem.run_bind, hm, Result.andThen_ok, Sem.run_pure]
    cases hall with
    | cons h1 h2 =>
      cases h2
      exact ⟨_, by rw [hgen]; simp, h1⟩
  obtain ⟨u, h1, h2⟩ := hres
  have hT : TRet F L w n false l' (.returned u) w' := by
    refine ⟨u, rfl, fun m hm hmL => ⟨hR.below.os, hR.below.tape, hR.below.output, hR.below.size, fun j hj => hR.below.block j (by show j < w.heap.size; omega) fun hx => by have := hmL j hx; omega⟩, fun b hb hn => hR.below.block b hb hn, J'.L k, hR.nd k, fun b hb => ?_, ?_⟩
    · obtain ⟨h3, h4, _⟩ := hR.lo k b hb
      exact ⟨h4, h3⟩
    have h2 : OwnTop J'.F (J'.L k) w' u n l' := h2
    refine OwnTop.keep h2 (fun b hb => ⟨?_, rfl⟩) fun _ _ => rfl
    obtain ⟨h3, h4⟩ := hR.fl b hb
    rcases h4 with h4 | h4 | h4
    · exact .inl (hGF b h4)
    · exact .inr ⟨.inl h4, h3, fun hm => (hR.lo k b hm).2.2 hb⟩
    exact .inr ⟨.inr h4, h3, fun hm => (hR.lo k b hm).2.2 hb⟩
  rcases he with rfl | rfl
  · exact ⟨hR.nodef, u, h1, hT⟩
  exact ⟨hR.nodef, u, h1, hT⟩
theorem getD_put' {a : Act} {t u : Nat} {v : Value} (ht : t < a.tmps.size) : (a.put (some t) v).tmps.getD u undef = if u = t then v else a.tmps.getD u undef := by
  simp only [Act.put, Array.getD_eq_getD_getElem?, Array.getElem?_setIfInBounds]
  by_cases h : u = t
  · subst h; simp [ht]
  simp [h, Ne.symm h]
theorem nbeq_false {a b : Nat} : Nat.beq a b = false ↔ ¬ a = b := by
  cases h : Nat.beq a b with
  | true => simp [Nat.eq_of_beq_eq_true h]
  | false => simp; exact Nat.ne_of_beq_eq_false h
theorem put_self {a : Act} {t : Nat} {v : Value} (h : a.tmps.getD t undef = v) (ht : t < a.tmps.size) : a.put (some t) v = a := by
  have e : a.tmps.setIfInBounds t v = a.tmps := by
    apply Array.ext
    · simp
    intro i h1 h2
    rw [Array.getElem_setIfInBounds]
    split
    · rename_i e; subst e; rw [← h, Array.getD_eq_getD_getElem?, Array.getElem?_eq_getElem ht]; rfl
    rfl
  show ({ a with tmps := a.tmps.setIfInBounds t v } : Act) = a
  rw [e]
theorem zeros_vc : ∀ {vs : List Value} {cs : List C}, zerosOk vs cs = true → ∃ ps : List PV, ps.length = vs.length ∧ ∀ (X : Nat → Prop) (w : World), VC X w vs ps
  | [], [], _ => ⟨[], rfl, fun _ _ => .nil⟩
  | [], _ :: _, h => by simp [zerosOk] at h
  | _ :: _, [], h => by simp [zerosOk] at h
  | v :: vs, c :: cs, h => by
    simp only [zerosOk, Bool.and_eq_true] at h
    obtain ⟨ps, h1, h2⟩ := zeros_vc h.2
    have hz := h.1
    unfold zeroOk at hz
    split at hz
    · rename_i k _ _ _
      simp only [Bool.and_eq_true, decide_eq_true_eq] at hz
      obtain ⟨⟨rfl, rfl⟩, rfl⟩ := hz
      exact ⟨.int k 0 :: ps, by simp [h1], fun X w => .cons (.int (by cases k <;> simp [InR, IntKind.min, IntKind.max, IntKind.bits, IntKind.signed])) (h2 X w)⟩
    · rename_i b _
      exact ⟨.bool b :: ps, by simp [h1], fun X w => .cons (.bool b) (h2 X w)⟩
    · rename_i s _
      have hs : s.size = 0 := by simp only [Bool.and_eq_true] at hz; exact Nat.eq_of_beq_eq_true hz.1
      exact ⟨.str s :: ps, by simp [h1], fun X w => .cons (.str (by rw [hs]; exact Nat.zero_le _)) (h2 X w)⟩
    · rename_i n
      exact ⟨.slc n [] :: ps, by simp [h1], fun X w => .cons (.emp none n (Nat.zero_le _)) (h2 X w)⟩
    cases hz
theorem vr_zeros {X : Nat → Prop} {w : World} {n : Nat} {vs : List Value} {ps : List PV} (h : VC X w vs ps) (hn : ps.length = n) : ∀ m, VR X w n (List.replicate m vs).flatten (List.replicate m ps)
  | 0 => .nil n
  | m + 1 => by
    rw [List.replicate_succ, List.replicate_succ, List.flatten_cons]
    exact .cons h hn (vr_zeros h hn m)
theorem zero_cells {z : Array Value} {m : Nat} : (Builtin.zeroCells z m).toList = (List.replicate m z.toList).flatten := by
  have key : ∀ (l : List Value) (m : Nat), (List.range (m * l.length)).map (fun i => l[i % l.length]!) = (List.replicate m l).flatten := by
    intro l m
    induction m with
    | zero => simp
    | succ m ih =>
      rw [Nat.succ_mul, List.range_add, List.map_append, ih, List.replicate_succ', List.flatten_append]
      congr 1
      simp only [List.map_map, List.flatten_cons, List.flatten_nil, List.append_nil]
      apply List.ext_getElem
      · simp
      intro i h1 h2
      simp only [List.length_map, List.length_range] at h1
      simp [Nat.mul_add_mod_self_right, Nat.mod_eq_of_lt h1, h2]
  rw [← key z.toList m]
  unfold Builtin.zeroCells
  rw [Array.toList_map, Array.toList_range]
  apply List.map_congr_left
  intro i _
  simp only [Array.length_toList, getElem!_def, Array.getElem?_toList]
theorem zero_one {vs : List Value} {cs : List C} (h : zerosOk vs cs = true) : ∀ v, v ∈ vs → v.oneCell' = true := by
  induction vs generalizing cs with
  | nil => intro v hv; simp at hv
  | cons v vs ih =>
    cases cs with
    | nil => simp [zerosOk] at h
    | cons c cs =>
      simp only [zerosOk, Bool.and_eq_true] at h
      intro u hu
      rcases List.mem_cons.1 hu with rfl | hu
      · have hz := h.1
        unfold zeroOk at hz
        split at hz <;> first | rfl | cases hz
      exact ih h.2 u hu
section
variable {P : Program} {N : Nat} {w0 : Base} {F0 : Nat → Prop} {J : Inj} {a : Act} {w : World} {s : St} {Q : Exit → St → Prop}
theorem Rel.aside (h : Rel N w0 F0 J a w s) {d : Nat} (hd : d < N) (hn : get s.tm d = none) (v : Value) : Rel N w0 F0 J (a.put (some d) v) w s :=
  (h.pure (some d) (fun d' e => by cases e; exact hd) (.one .dead) v (fun _ => trivial)).less (fun t x hx => by
    show get (ins d _ s.tm) t = some x
    rw [get_ins, if_neg (fun e => by subst e; rw [hn] at hx; cases hx)]
    exact hx) (fun _ _ h => h)
theorem clear_run {tt : List (Nat × TI)} (htt : ttOk P tt = true) {sty ety z1 : Nat} {z2 : List C} {z3 : List LK} {ti : TI} (g1 : get tt sty = some ⟨.sli ety, z1, z2, z3⟩) (g2 : get tt ety = some ti)
    {g cap m i n : Nat} {cur : Array Value} {e : TypeId} (hn : ti.size = n) (hg : w.heap[g]? = some (.cells cur e (0, 0))) (hs : cur.size = cap * n) (hi : i < m) (hm : m ≤ cap) (ty : TypeId) :
    ∃ zs : List Value, ∃ ps : List PV, zs.length = n ∧ ps.length = n ∧ (∀ (X : Nat → Prop) (w : World), VC X w zs ps) ∧
      (Builtin.clear_ #[sty] ty #[.slice (some ⟨g, i * n, none⟩) (m - i) (cap - i)]).run P w = .ok (.tuple #[]) (w.setRow g (cur.toList.take (i * n) ++ (List.replicate (m - i) zs).flatten ++ cur.toList.drop (i * n + (m - i) * n)).toArray) := by
  obtain ⟨inf, z, hI, hsz, _, hz, hzs, hzo⟩ := (ttOk_get htt g2).info
  obtain ⟨ps, p1, p2⟩ := zeros_vc hzo
  have hu := (ttOk_get htt g1).sli
  have hzl : z.cells.toList.length = n := by simpa [hn] using hzs
  refine ⟨z.cells.toList, ps, hzl, by rw [p1, hzl], p2, ?_⟩
  obtain ⟨q, hq⟩ : ∃ q, m - i = q + 1 := ⟨m - i - 1, by omega⟩
  have hfl : ((List.replicate (m - i) z.cells.toList).flatten).length = (m - i) * n := by
    rw [List.length_flatten, List.map_replicate, hzl]; simp
  have h3 : i * n + (m - i) * n ≤ cap * n := by rw [← Nat.add_mul]; exact Nat.mul_le_mul_right n (by omega)
  have hst := run_storeCells_at P g (i * n) e ((List.replicate (m - i) z.cells.toList).flatten) 0 cur w hg (by rw [hfl, hs]; simpa using h3) (fun v hv => by
    obtain ⟨l, hl, hv⟩ := List.mem_flatten.1 hv
    rw [List.eq_of_mem_replicate hl] at hv
    exact zero_one hzo v hv)
  simp only [Nat.add_zero, hfl] at hst
  rw [hq] at hst ⊢
  simp [Builtin.clear_, run_underlying hu, zeroValue, typeInfo_run hI, hz, zero_cells, hst]
theorem awp_clear {tt : List (Nat × TI)} (htt : ttOk P tt = true) {id : Nat} {ops : Array Oper} {t0 t5 d1 d2 d3 sty ety z1 : Nat} {z2 : List C} {z3 : List LK} {ti : TI} {y1 y2 y3 y4 : TypeId} {q1 q2 q3 q4 : String} {f1 f2 f3 f4 : Array Edge}
    (hops : ops = #[⟨some d1, .move (.tmp t0), y1, q1, f1, none⟩, ⟨some d2, .move (.tmp t5), y2, q2, f2, none⟩, ⟨some d3, .slice sty (.tmp d1) (some (.tmp d2)) none none, y3, q3, f3, none⟩, ⟨none, .call { callee := .builtin .clear, args := #[.tmp d3], argTypes := #[sty] }, y4, q4, f4, none⟩])
    (hN : (Nat.blt d1 N && Nat.blt d2 N && Nat.blt d3 N && Nat.blt t0 N && !(Nat.beq d1 t0) && !(Nat.beq d1 t5) && !(Nat.beq d2 t0) && !(Nat.beq d2 t5) && !(Nat.beq d3 t0) && !(Nat.beq d3 t5) && !(Nat.beq d1 d2) && !(Nat.beq t0 t5)) = true)
    (g1 : get tt sty = some ⟨.sli ety, z1, z2, z3⟩) (g2 : get tt ety = some ti) {k n : Nat} {l : List (List PV)} (hk : get s.tm t0 = some (.one (.slc (.own false k) n l))) (hn : ti.size = n) {i : Int} (hi : get s.tm t5 = some (.one (.int .i64 i))) (h0 : 0 ≤ i) (hl : i < l.length)
    (hQ : ∀ l', l'.length = l.length → l'.take i.toNat = l.take i.toNat → Q .normal ⟨[(t0, .one (.slc (.own false (64 * t0)) n l')), (t5, .one (.int .i64 i))], []⟩) : AWP P N w0 F0 (.region id ops false) Q s := fun J a w hr => by
  simp only [Bool.and_eq_true, Nat.blt_eq, Bool.not_eq_true', nbeq_false] at hN
  obtain ⟨⟨⟨⟨⟨⟨⟨⟨⟨⟨⟨m1, m2⟩, m3⟩, m0⟩, n1⟩, n2⟩, n3⟩, n4⟩, n5⟩, n6⟩, n7⟩, n8⟩ := hN
  obtain ⟨j, rfl⟩ : ∃ j : Nat, i = (j : Int) := ⟨i.toNat, by omega⟩
  have hj : j < l.length := by omega
  have e0 : CR J w (a.tmps.getD t0 undef) (.slc (.own false k) n l) := hr.tm t0 _ hk
  have e5 : CR J w (a.tmps.getD t5 undef) (.int .i64 (j : Int)) := hr.tm t5 _ hi
  obtain ⟨e5, _⟩ := e5
  rcases (show OwnTop J.F (J.L k) w _ n l from e0) with ⟨e, _⟩ | ⟨g, cap, cur, e, hL, e0, hg, hs, hvr, hlc, hcap⟩
  · rw [e] at hj; simp at hj
  obtain ⟨zs, ps, hzl, hpl, hzv, hrun⟩ := clear_run (P := P) (w := w) htt g1 g2 hn hg hs hj hlc y4
  have hu := (ttOk_get htt g1).sli
  have hsz := sizeOf_run (P := P) (ttOk_get htt g2) w
  rw [hn] at hsz
  have hr5 : Rel N w0 F0 J a w ⟨[(t5, .one (.int .i64 (j : Int)))], []⟩ := hr.less (fun t v hv => by
    simp only [get] at hv
    split at hv
    · rename_i e; subst e; rw [hi]; exact hv
    cases hv) (fun k c hc => by cases hc)
  have no : ∀ d, ¬ d = t5 → get (⟨[(t5, .one (.int .i64 (j : Int)))], []⟩ : St).tm d = none := fun d hd => by
    show (if t5 = d then _ else _) = none
    rw [if_neg (fun e => hd e.symm)]; rfl
  have s0 := hr.size
  have hr1 := (hr5.aside m1 (no _ n2) (.slice (some ⟨g, 0, none⟩) l.length cap)).aside m2 (no _ n4) (.int .i64 (j : Int))
  have hr3 := hr1.aside m3 (no _ n6) (.slice (some ⟨g, 0 + j * n, none⟩) (l.length - j) (cap - j))
  subst hops
  refine wp_region ?_
  show wpOps P _ (QX N w0 F0 Q) [0, 1, 2, 3] a w
  rw [wpOps_cons]; unfold wpOp
  simp only [List.getElem?_toArray, List.getElem?_cons_zero]
  rw [if_pos (by simp [Region.wanted])]
  refine .inl (wp_of_run (v := .slice (some ⟨g, 0, none⟩) l.length cap) (w' := w) (by simp [execOp, e0, Act.eval]) ?_)
  rw [wpOps_cons]; unfold wpOp
  simp only [List.getElem?_toArray, List.getElem?_cons_succ, List.getElem?_cons_zero]
  rw [if_pos (by simp [Region.wanted])]
  have e5' : (a.put (some d1) (.slice (some ⟨g, 0, none⟩) l.length cap)).tmps.getD t5 undef = .int .i64 (j : Int) := (getD_put' (by omega)).trans ((if_neg (fun e => n2 e.symm)).trans e5)
  refine .inl (wp_of_run (v := .int .i64 (j : Int)) (w' := w) (by simp [execOp, e5', Act.eval]) ?_)
  rw [wpOps_cons]; unfold wpOp
  simp only [List.getElem?_toArray, List.getElem?_cons_succ, List.getElem?_cons_zero]
  rw [if_pos (by simp [Region.wanted])]
  have hs1 : (a.put (some d1) (.slice (some ⟨g, 0, none⟩) l.length cap)).tmps.size = N := by simp [Act.put, s0]
  have ea : ((a.put (some d1) (.slice (some ⟨g, 0, none⟩) l.length cap)).put (some d2) (.int .i64 (j : Int))).eval (.tmp d1) = .slice (some ⟨g, 0, none⟩) l.length cap := (getD_put' (by omega)).trans ((if_neg n7).trans ((getD_put' (by omega)).trans (if_pos rfl)))
  have eb : ((a.put (some d1) (.slice (some ⟨g, 0, none⟩) l.length cap)).put (some d2) (.int .i64 (j : Int))).eval (.tmp d2) = .int .i64 (j : Int) := (getD_put' (by omega)).trans (if_pos rfl)
  have hsb : (Instr.sliceBounds true l.length cap (some (.int .i64 (j : Int))) none none).run P w = .ok (j, l.length, cap) w := by
    have e4 : ∀ c, (Instr.sliceBound (.int .i64 (j : Int)) l.length c).run P w = .ok j w := fun c => by
      have := bound_ok (P := P) (w := w) (k := .i64) (lo := (j : Int)) (code := c) (y := l.length) (by omega) (by omega)
      simpa using this
    unfold Instr.sliceBounds
    simp only [Sem.run_bind, Sem.run_pure, Result.andThen_ok]
    simp [e4]
  refine .inl (wp_of_run (v := .slice (some ⟨g, 0 + j * n, none⟩) (l.length - j) (cap - j)) (w' := w) (by
    have hca : cap ≠ j := by omega
    simp [execOp, ea, eb, Instr.sliceAt, run_underlying hu, Instr.slice, hsb, hsz, hca, Addr.add_lit]) ?_)
  rw [wpOps_cons]; unfold wpOp
  simp only [List.getElem?_toArray, List.getElem?_cons_succ, List.getElem?_cons_zero]
  rw [if_pos (by simp [Region.wanted])]
  generalize ha2 : ((a.put (some d1) (.slice (some ⟨g, 0, none⟩) l.length cap)).put (some d2) (.int .i64 (j : Int))) = a2 at *
  have s2 : a2.tmps.size = N := hr1.size
  have ec : (a2.put (some d3) (.slice (some ⟨g, 0 + j * n, none⟩) (l.length - j) (cap - j))).eval (.tmp d3) = .slice (some ⟨g, j * n, none⟩) (l.length - j) (cap - j) := (getD_put' (by omega)).trans ((if_pos rfl).trans (by simp))
  have ec := ec
  simp only [Nat.zero_add] at ec
  refine .inl (wp_of_run (v := .tuple #[]) (w' := w.setRow g (cur.toList.take (j * n) ++ (List.replicate (l.length - j) zs).flatten ++ cur.toList.drop (j * n + (l.length - j) * n)).toArray) (by
    simp [execOp, resolve, invoke, builtin, ec, hrun]) ?_)
  generalize ha3 : a2.put (some d3) (.slice (some ⟨g, 0 + j * n, none⟩) (l.length - j) (cap - j)) = a3 at *
  show QX N w0 F0 Q .normal a3 _
  have e03 : a3.tmps.getD t0 undef = .slice (some ⟨g, 0, none⟩) l.length cap := by
    rw [← ha3]
    refine (getD_put' (by omega)).trans ((if_neg (fun e => n5 e.symm)).trans ?_)
    rw [← ha2]
    exact (getD_put' (by omega)).trans ((if_neg (fun e => n3 e.symm)).trans ((getD_put' (by omega)).trans ((if_neg (fun e => n1 e.symm)).trans e0)))
  have hgk : g ∈ J.L k := by rw [hL]; exact List.mem_cons_self
  have hgF : ¬ J.F g := (hr.lo k g hgk).2.2
  generalize hw' : w.setRow g (cur.toList.take (j * n) ++ (List.replicate (l.length - j) zs).flatten ++ cur.toList.drop (j * n + (l.length - j) * n)).toArray = w'
  have hgw : w'.heap[g]? = some (.cells (cur.toList.take (j * n) ++ (List.replicate (l.length - j) zs).flatten ++ cur.toList.drop (j * n + (l.length - j) * n)).toArray e (0, 0)) := by rw [← hw']; exact setRow_heap w g cur _ e (0, 0) hg
  have hother : ∀ b, b ≠ g → w'.heap[b]? = w.heap[b]? := fun b hb => by rw [← hw']; exact setRow_other w g b _ hb
  have hsize : w'.heap.size = w.heap.size := by rw [← hw']; simp [World.setRow]
  have hbelow : w0.Keeps w' := by
    refine hr.below.step (by rw [← hw']; rfl) (by rw [← hw']; rfl) (by rw [← hw']; rfl) (by omega) fun b _ hnl => hother b fun e => ?_
    exact hnl (e ▸ (hr.lo k g hgk).1)
  have hfl : ((List.replicate (l.length - j) zs).flatten).length = (l.length - j) * n := by
    rw [List.length_flatten, List.map_replicate, hzl]; simp
  have hsum : j * n + (l.length - j) * n = l.length * n := by rw [← Nat.add_mul]; congr 1; omega
  have hle : l.length * n ≤ cap * n := Nat.mul_le_mul_right n hlc
  have hcl : cur.toList.length = cap * n := by simpa using hs
  have hjn : j * n ≤ cap * n := Nat.mul_le_mul_right n (by omega)
  have htl : (l.take j ++ List.replicate (l.length - j) ps).length = l.length := by simp; omega
  have hown : OwnTop (takeJ J w w' (64 * t0) k [] [g]).F [g] w' (.slice (some ⟨g, 0, none⟩) l.length cap) n (l.take j ++ List.replicate (l.length - j) ps) := by
    refine .inr ⟨g, cap, _, e, rfl, by rw [htl], hgw, ?_, ?_, by rw [htl]; exact hlc, by rw [htl]; exact hcap⟩
    · simp only [List.size_toArray, List.length_append, hfl, List.length_take, List.length_drop, hcl]
      omega
    rw [htl]
    have : ((cur.toList.take (j * n) ++ (List.replicate (l.length - j) zs).flatten ++ cur.toList.drop (j * n + (l.length - j) * n)).toArray.toList.take (l.length * n)) = cur.toList.take (j * n) ++ (List.replicate (l.length - j) zs).flatten := by
      show ((_ : List Value) ++ _ ++ _).take _ = _
      have hln : (cur.toList.take (j * n) ++ (List.replicate (l.length - j) zs).flatten).length = l.length * n := by
        simp only [List.length_append, hfl, List.length_take, hcl]; omega
      rw [List.take_append_of_le_length (by omega), List.take_of_length_le (by omega)]
    rw [this]
    refine VR.append (vr_zeros (hzv _ _) hpl _) (VR.keep (X := J.F) (w := w) (fun b hb => ⟨.inl hb, hother b fun e => hgF (e ▸ hb)⟩) ?_)
    have h3 := hvr.take j
    rwa [List.take_take, Nat.min_eq_left (by omega)] at h3
  have hR := take_step hr3 (t := t0) (k := k) (n := n) m0 (frz := []) (L' := [g]) (by simp) (w' := w') (u := .slice (some ⟨g, 0, none⟩) l.length cap) (l' := l.take j ++ List.replicate (l.length - j) ps) (d := false) hbelow (by omega) (fun b hb hn => hother b fun e => hn (e ▸ hgk)) (by simp) (fun b hb => by
    obtain rfl := List.mem_singleton.1 hb
    exact ⟨by have := (hr.lo k b hgk).2.1; omega, .inr hgk⟩) (by
      show OwnTop _ ((takeJ J w w' (64 * t0) k [] [g]).L (64 * t0)) _ _ _ _
      rw [show (takeJ J w w' (64 * t0) k [] [g]).L (64 * t0) = [g] from if_pos rfl]
      exact hown)
  rw [put_self e03 (by rw [hr3.size]; exact m0)] at hR
  refine ⟨_, _, hR.less (s' := ⟨[(t0, .one (.slc (.own false (64 * t0)) n (l.take j ++ List.replicate (l.length - j) ps))), (t5, .one (.int .i64 (j : Int)))], []⟩) (fun t v hv => ?_) (fun k c hc => by cases hc), hQ _ htl (by simp [List.take_append, List.take_take]; omega)⟩
  show get (ins t0 _ [(t5, AV.one (.int .i64 (j : Int)))]) t = some v
  rw [get_ins]
  simp only [get] at hv ⊢
  exact hv
end
end
section
open Go.RowKit
section
variable {P : Program}
theorem Turned.ret {F G : Nat → Prop} {L : List Nat} {w w' : World} {n : Nat} {oa : Option Addr} {cap : Nat} {u : Value} {m' : Nat} {news : List Value} (h : Turned w w' n oa cap u m' news) (hF : ∀ b, F b → b < w.heap.size ∧ b ∉ L) (hL : 0 < cap → ∃ g, oa = some ⟨g, 0, none⟩ ∧ L = [g]) (hLs : ∀ b, b ∈ L → b < w.heap.size)
    {l' : List (List PV)} (hv : VR F w n news l') (hm : l'.length = m') (hlim : m' ≤ 1073741824) : TRet F L w n false l' (.returned u) w' := by
  obtain ⟨g', cap', cur', e', rfl, hg, hs, ht, h1, h2, h3⟩ := h.row
  have hsame : ∀ b, b < w.heap.size → b ∉ L → w'.heap[b]? = w.heap[b]? := fun b hb hn => by
    rcases h3 with ⟨h3, hc, h4⟩ | ⟨_, _, h4⟩
    · obtain ⟨g, h5, rfl⟩ := hL hc
      rw [h3] at h5
      obtain rfl : g' = g := by simpa using h5
      exact h4 b fun e => hn (by simp [e])
    exact h4 b hb
  refine ⟨_, rfl, fun m hm hmL => ⟨h.os, h.tape, h.output, h.size, fun b hb => hsame b (by omega) fun hx => by have := hmL b hx; omega⟩, hsame, [g'], by simp, fun b hb => ?_, ?_⟩
  · obtain rfl := List.mem_singleton.1 hb
    refine ⟨block_lt_of_heap hg, ?_⟩
    rcases h3 with ⟨h3, hc, _⟩ | ⟨h3, _, _⟩
    · obtain ⟨g, h5, rfl⟩ := hL hc
      rw [h3] at h5
      obtain rfl : b = g := by simpa using h5
      exact .inr (by simp)
    exact .inl h3
  refine .inr ⟨g', cap', cur', e', rfl, by rw [hm], hg, hs, ?_, by rw [hm]; exact h1, h2, by rw [hm]; exact hlim⟩
  rw [hm, ht]
  exact hv.keep fun b hb => ⟨.inl hb, hsame b (hF b hb).1 (hF b hb).2⟩
end
end
section
open Go.RowKit
section
variable {P : Program} {t e : TypeId} {ei : TI} {w : World} {oa : Option Addr} {m cap i vb voff vc : Nat} {olds vs : List Value}
theorem OneAt.block {n : Nat} (h : OneAt w n oa cap vb voff vs) (h0 : 0 < n) : vb < w.heap.size ∧ ∃ arr tA fr, w.heap[vb]? = some (.cells arr tA fr) ∧ 0 < arr.size := by
  have hl : 0 < vs.length := by rw [h.len]; exact h0
  have hc := h.cells 0 vs[0] (List.getElem?_eq_getElem hl)
  unfold World.cell? at hc
  split at hc
  · rename_i arr tA fr hh
    refine ⟨block_lt_of_heap hh, arr, tA, fr, hh, ?_⟩
    have hc : arr[voff + 0]? = some vs[0] := by simpa using hc
    have := (Array.getElem?_eq_some_iff.1 hc).1
    omega
  cases hc
variable {g : Nat} {cur : Array Value} {e0 : TypeId}
end
end
section
open Go.RowKit
theorem rng_lc {n : Nat} {hi : Int} (h0 : 0 ≤ hi) (h1 : hi ≤ (n : Int)) : (0 : Int) ≤ 0 ∧ 0 ≤ hi ∧ hi ≤ (n : Int) := ⟨Int.le_refl _, h0, h1⟩
section
variable {α : Type} {p : α → Bool}
def ixF (p : α → Bool) : List α → Int
  | [] => -1
  | a :: l => bif p a then 0 else bif ixF p l == -1 then -1 else ixF p l + 1
theorem ixF_bd (p : α → Bool) : ∀ l : List α, -1 ≤ ixF p l ∧ ixF p l < l.length
  | [] => by simp [ixF]
  | a :: l => by
    have ih := ixF_bd p l
    simp only [ixF, List.length_cons]
    cases p a with
    | true => simp only [cond_true]; omega
    | false =>
      simp only [cond_false]
      cases h : (ixF p l == -1) with
      | true => simp only [cond_true]; omega
      | false => simp only [cond_false]; omega
theorem idx_go {f : Nat → α → Unit → Rd Int Unit Unit} {e : Nat → Unit → Unit} (hf : ∀ k a s, f k a s = bif p a then .ret ((k : Nat) : Int) else .next ()) : ∀ (l : List α) (k : Nat), forL f e l k () = bif ixF p l == -1 then .brk () else .ret ((k : Int) + ixF p l)
  | [], k => rfl
  | a :: l, k => by
    simp only [forL, hf, ixF]
    cases p a with
    | true => simp only [cond_true]; rw [show ((0 : Int) == -1) = false from rfl, cond_false, Int.add_zero]
    | false =>
      simp only [cond_false]
      rw [idx_go hf l (k + 1)]
      have hb := ixF_bd p l
      cases h : (ixF p l == -1) with
      | true => simp only [cond_true]; rfl
      | false =>
        have hne : ixF p l ≠ -1 := by simpa using h
        simp only [cond_false]
        rw [show (ixF p l + 1 == -1) = false by simp; omega, cond_false]
        congr 1; omega
theorem idx_eq {f : Nat → α → Unit → Rd Int Unit Unit} {e : Nat → Unit → Unit} (hf : ∀ k a s, f k a s = bif p a then .ret ((k : Nat) : Int) else .next ()) (l : List α) : Out.on (forL f e l 0 ()) (fun _ => -1) = ixF p l := by
  rw [idx_go hf]
  cases h : (ixF p l == -1) with
  | true => simp only [cond_true, Out.on]; exact (by simpa using h : ixF p l = -1).symm
  | false => simp only [cond_false, Out.on]; omega
theorem ixF_none {l : List α} (h : ixF p l = -1) : ∀ a, a ∈ l → p a = false := by
  induction l with
  | nil => intro a ha; simp at ha
  | cons b l ih =>
    intro a ha
    have hb := ixF_bd p l
    simp only [ixF] at h
    cases hp : p b with
    | true => rw [hp] at h; simp at h
    | false =>
      rw [hp] at h
      simp only [cond_false] at h
      cases h2 : (ixF p l == -1) with
      | true => rcases List.mem_cons.1 ha with rfl | ha
                · exact hp
                exact ih (by simpa using h2) a ha
      | false => rw [h2] at h; simp only [cond_false] at h; omega
theorem ixF_some {l : List α} {i : Nat} (h : ixF p l = (i : Int)) : (l.take i).filter (fun a => !p a) = l.take i ∧ ∃ a, l[i]? = some a ∧ p a = true := by
  induction l generalizing i with
  | nil => simp [ixF] at h
  | cons b l ih =>
    have hb := ixF_bd p l
    simp only [ixF] at h
    cases hp : p b with
    | true =>
      rw [hp] at h
      simp only [cond_true] at h
      obtain rfl : i = 0 := by omega
      exact ⟨rfl, b, rfl, hp⟩
    | false =>
      rw [hp] at h
      simp only [cond_false] at h
      cases h2 : (ixF p l == -1) with
      | true => rw [h2] at h; simp only [cond_true] at h; omega
      | false =>
        rw [h2] at h
        simp only [cond_false] at h
        have : ixF p l ≠ -1 := by simpa using h2
        obtain ⟨j, rfl⟩ : ∃ j, i = j + 1 := ⟨i - 1, by omega⟩
        obtain ⟨h3, a, h4, h5⟩ := ih (i := j) (by omega)
        exact ⟨by simp [hp, h3], a, by simpa using h4, h5⟩
theorem whl_more {R S T : Type} {f : S → Rd R S T} : ∀ {n m : Nat} {s : S} {x : Out R T}, whl f n s = some x → n ≤ m → whl f m s = some x
  | 0, _, _, _, h, _ => by simp [whl] at h
  | n + 1, 0, _, _, _, hm => absurd hm (Nat.not_succ_le_zero n)
  | n + 1, m + 1, s, x, h, hm => by
    simp only [whl] at h ⊢
    cases hf : f s with
    | brk t => rw [hf] at h; exact h
    | ret r => rw [hf] at h; exact h
    | next s' => rw [hf] at h; exact whl_more h (by omega)
variable [Inhabited α]
def DelStep {R : Type} (f : List α × Int × Int → Rd R (List α × Int × Int) (List α × Int)) (p : α → Bool) : Prop :=
  ∀ (s : List α) (i j : Nat), i < j → j ≤ 1073741824 → f (s, (i : Int), (j : Int)) = bif decide ((j : Int) < (s.length : Int)) then (bif p (nth s j) then .next (s, (i : Int), ((j + 1 : Nat) : Int)) else .next (s.set i (nth s j), ((i + 1 : Nat) : Int), ((j + 1 : Nat) : Int))) else .brk (s, (i : Int))
theorem del_run {R : Type} {f : List α × Int × Int → Rd R (List α × Int × Int) (List α × Int)} (hf : DelStep f p) (o : List α) (ho : o.length ≤ 1073741824) : ∀ (n : Nat) (s : List α) (i j : Nat), j + n = o.length → i < j → s.length = o.length → s.take i = (o.take j).filter (fun a => !p a) → s.drop j = o.drop j →
    ∃ s' i', whl f (n + 1) (s, (i : Int), (j : Int)) = some (.brk (s', ((i' : Nat) : Int))) ∧ s'.take i' = o.filter (fun a => !p a) ∧ i' < o.length ∧ s'.length = o.length
  | 0, s, i, j, hn, hij, hl, ht, hd => by
    refine ⟨s, i, ?_, ?_, by omega, hl⟩
    · simp only [whl, hf s i j hij (by omega)]
      rw [decide_eq_false (by omega)]
      rfl
    rw [ht, List.take_of_length_le (by omega)]
  | n + 1, s, i, j, hn, hij, hl, ht, hd => by
    have hj : j < s.length := by omega
    have hjo : j < o.length := by omega
    have hx : nth s j = o[j] := by
      have h1 : s[j]? = o[j]? := by
        have := congrArg (fun l => l[0]?) hd
        simpa [List.getElem?_drop] using this
      rw [List.getElem?_eq_getElem hjo] at h1
      simp [nth, List.getD, h1]
    have htj : o.take (j + 1) = o.take j ++ [o[j]] := by rw [List.take_add_one, List.getElem?_eq_getElem hjo]; rfl
    have hd1 : ∀ s2 : List α, s2.drop (j + 1) = s.drop (j + 1) → s2.drop (j + 1) = o.drop (j + 1) := fun s2 h2 => by
      have := congrArg (List.drop 1) hd
      rw [List.drop_drop, List.drop_drop] at this
      exact h2.trans this
    have hst : f (s, (i : Int), (j : Int)) = _ := hf s i j hij (by omega)
    rw [decide_eq_true (by omega), hx] at hst
    simp only [cond_true] at hst
    cases hp : p o[j] with
    | true =>
      rw [hp] at hst
      simp only [whl, hst, cond_true]
      exact del_run hf o ho n s i (j + 1) (by omega) (by omega) hl (by rw [ht, htj, List.filter_append]; simp [hp]) (hd1 s rfl)
    | false =>
      rw [hp] at hst
      simp only [whl, hst, cond_false]
      refine del_run hf o ho n (s.set i o[j]) (i + 1) (j + 1) (by omega) (by omega) (by simpa using hl) ?_ (hd1 _ (List.drop_set_of_lt (by omega)))
      rw [htj, List.filter_append, ← ht]
      rw [List.take_add_one, List.take_set_of_le (Nat.le_refl i), List.getElem?_set_self (by omega)]
      simp [hp]
theorem del_main {R : Type} {f : List α × Int × Int → Rd R (List α × Int × Int) (List α × Int)} (hf : DelStep f p) {o : List α} (ho : o.length ≤ 1073741824) {ix : Int} (hix : ix = ixF p o) (hne : ix ≠ -1) :
    ∃ s' i', whl f (o.length + 1) (o, ix, ix + 1) = some (.brk (s', ((i' : Nat) : Int))) ∧ s'.take i' = o.filter (fun a => !p a) ∧ i' < o.length ∧ s'.length = o.length := by
  have hb := ixF_bd p o
  obtain ⟨i, hi⟩ : ∃ i : Nat, ix = (i : Int) := ⟨ix.toNat, by omega⟩
  obtain ⟨h1, a, h2, h3⟩ := ixF_some (p := p) (l := o) (i := i) (by omega)
  have hio : i < o.length := by omega
  obtain ⟨s', i', h4, h5⟩ := del_run hf o ho (o.length - (i + 1)) o i (i + 1) (by omega) (by omega) rfl (by
    rw [List.take_add_one, h2, List.filter_append, h1]; simp [h3]) rfl
  refine ⟨s', i', ?_, h5⟩
  subst hi
  exact whl_more h4 (by omega)
theorem del_some {R : Type} {f : List α × Int × Int → Rd R (List α × Int × Int) (List α × Int)} (hf : DelStep f p) {o : List α} (ho : o.length ≤ 1073741824) {ix : Int} (hix : ix = ixF p o) (hne : ix ≠ -1) : (whl f (o.length + 1) (o, ix, ix + 1)).isSome = true := by
  obtain ⟨s', i', h, _⟩ := del_main hf ho hix hne
  rw [h]; rfl
theorem del_eq {f : List α × Int × Int → Rd (List α) (List α × Int × Int) (List α × Int)} (hf : DelStep f p) {o : List α} (ho : o.length ≤ 1073741824) {ix : Int} (hix : ix = ixF p o) :
    (bif (ix == (-1 : Int)) then o else Out.on (whlD f (o.length + 1) (o, ix, ix + 1)) (fun y => List.take (Int.toNat y.2) y.1)) = o.filter (fun a => !p a) := by
  cases h : (ix == (-1 : Int)) with
  | true =>
    have h : ix = -1 := by simpa using h
    simp only [cond_true]
    exact (List.filter_eq_self.2 fun a ha => by simp [ixF_none (hix ▸ h) a ha]).symm
  | false =>
    obtain ⟨s', i', h1, h2, _⟩ := del_main hf ho hix (by simpa using h)
    simp only [cond_false, whlD, h1]
    simpa [Out.on] using h2
end
open GoE (enc wide)
noncomputable instance instGoDVal : GoD Value where
  n := 1
  rd _ cs a := cs = [a] ∧ a.cells = #[a] ∧ a.oneCell' = true
  own L _ cs a := L = [] ∧ cs = [a] ∧ a.cells = #[a] ∧ a.oneCell' = true
  size _ := 0
  mark a k := (a, k)
  markT a k := (a, k)
  rd_len h := by rw [h.1]; rfl
  rd_same h _ := h
  own_same h _ := h
  own_rd h := h.2
  own_lt h := by rw [h.1]; simp
  own_nd h := by rw [h.1]; simp
  deq := fun _ _ => Classical.propDecidable _
  mk_le _ k := Nat.le_refl k
  mkT_le _ k := Nat.le_refl k
  lv := 0
  lvm := 0
  mk_bd _ k := by simp
  mkT_bd _ k := by simp
noncomputable instance instGoEVal : GoE Value where
  enc a := [.raw a]
  no_any h := by rw [List.mem_singleton.1 h]; simp
  enc_len _ := rfl
  n_pos := Nat.zero_lt_one
  wide _ := True
  wide_size _ := trivial
  vc_wide _ := trivial
  rd_vc h _ := by obtain ⟨rfl, h1, h2⟩ := h; exact .cons (.raw h1 h2) .nil
  vc_rd h := by
    cases h with
    | cons h1 h2 => cases h2; cases h1; exact ⟨rfl, ‹_›, ‹_›⟩
  own_oc h _ := by obtain ⟨rfl, rfl, h1, h2⟩ := h; exact OC.cons (L1 := []) (L2 := []) (.raw h1 h2) .nil
  oc_own h _ := by
    cases h with
    | cons h1 h2 => cases h2; cases h1; exact ⟨rfl, rfl, ‹_›, ‹_›⟩
def rawP (v : Value) : PV → PV
  | .slc _ _ => .raw v
  | .any => .raw v
  | .raw _ => .raw v
  | p => p
def rawR : List Value → List PV → List PV
  | v :: vs, p :: ps => rawP v p :: rawR vs ps
  | _, _ => []
section
variable {X X' : Nat → Prop} {w w' : World}
theorem VV.stand {v : Value} {p : PV} (h : VV X w v p) : VV X' w' v (rawP v p) := by
  cases h with
  | int h => exact .int h
  | bool b => exact .bool b
  | str h => exact .str h
  | any h1 h2 => exact .raw h1 h2
  | raw h1 h2 => exact .raw h1 h2
  | _ => exact .raw rfl rfl
theorem VV.stood {v u : Value} {p : PV} (h : VV X w v p) (h' : VV X' w' u (rawP v p)) : u = v := by
  cases h with
  | int h => cases h'; rfl
  | bool b => cases h'; rfl
  | str h => cases h'; rfl
  | _ => cases h'; rfl
theorem VC.stand : ∀ {vs : List Value} {ps : List PV}, VC X w vs ps → VC X' w' vs (rawR vs ps)
  | _, _, .nil => .nil
  | _, _, .cons h1 h2 => .cons h1.stand (VC.stand h2)
theorem VC.stood : ∀ {vs us : List Value} {ps : List PV}, VC X w vs ps → VC X' w' us (rawR vs ps) → us = vs
  | _, _, _, .nil, h => by cases h; rfl
  | _, _, _, .cons h1 h2, h => by
    cases h with
    | cons h3 h4 => rw [h1.stood h3, VC.stood h2 h4]
end
section
variable {α ρ : Type} [GoE α] [GoE ρ] {w w' : World}
theorem OR.chunks {n : Nat} : ∀ {L : List Nat} {cs : List Value} (l : List α), OR w n L cs (eL l) → ∃ z : List (List Value × α), cs = (z.map (·.1)).flatten ∧ z.map (·.2) = l ∧ (∀ p, p ∈ z → (∃ M, OC w M p.1 (enc p.2)) ∧ p.1.length = n) ∧
    ∀ z' : List (List Value × α), z'.Sublist z → ∃ L', L'.Sublist L ∧ OR w n L' (z'.map (·.1)).flatten (eL (z'.map (·.2)))
  | L, cs, [], h => by
    cases h
    exact ⟨[], rfl, rfl, fun p hp => (by cases hp), fun z' hz => by obtain rfl := List.sublist_nil.1 hz; exact ⟨[], List.Sublist.refl _, .nil n⟩⟩
  | L, cs, a :: l, h => by
    cases h with
    | @cons _ L1 L2 ce cs' _ _ h1 h2 h3 =>
      obtain ⟨z, rfl, e2, e3, e4⟩ := OR.chunks l h3
      have hce : ce.length = n := h1.length.trans h2
      refine ⟨(ce, a) :: z, by simp, by simp [e2], fun p hp => ?_, fun z' hz => ?_⟩
      · rcases List.mem_cons.1 hp with rfl | hp
        · exact ⟨⟨L1, h1⟩, hce⟩
        exact e3 p hp
      cases hz with
      | cons _ hz =>
        obtain ⟨L', q1, q2⟩ := e4 z' hz
        exact ⟨L', q1.trans (List.sublist_append_right _ _), q2⟩
      | cons_cons _ hz =>
        obtain ⟨L', q1, q2⟩ := e4 _ hz
        exact ⟨L1 ++ L', (List.Sublist.refl _).append q1, by simpa [eL] using OR.cons h1 h2 q2⟩
theorem rows_raw {X : Nat → Prop} {n : Nat} {tr : List Value → α → ρ} (htr : ∀ ce a, ce.length = n → enc (tr ce a) = rawR ce (enc a)) : ∀ {z : List (List Value × α)}, (∀ p, p ∈ z → (∃ M, OC w M p.1 (enc p.2)) ∧ p.1.length = n) →
    VR X w n (z.map (·.1)).flatten (eL (z.map fun p => tr p.1 p.2))
  | [], _ => .nil n
  | p :: z, h => by
    obtain ⟨⟨M, h1⟩, h2⟩ := h p List.mem_cons_self
    have h3 : VC X w p.1 (enc (tr p.1 p.2)) := by rw [htr _ _ h2]; exact (h1.vc (X := fun _ => True) fun _ _ => trivial).stand
    exact VR.cons h3 (h3.length.symm.trans h2) (rows_raw htr fun q hq => h q (List.mem_cons_of_mem _ hq))
theorem raw_rows {X : Nat → Prop} {n : Nat} {tr : List Value → α → ρ} (htr : ∀ ce a, ce.length = n → enc (tr ce a) = rawR ce (enc a)) : ∀ {z : List (List Value × α)} {cs : List Value}, (∀ p, p ∈ z → (∃ M, OC w M p.1 (enc p.2)) ∧ p.1.length = n) →
    VR X w' n cs (eL (z.map fun p => tr p.1 p.2)) → cs = (z.map (·.1)).flatten
  | [], cs, _, h => by cases h; rfl
  | p :: z, cs, hz, h => by
    obtain ⟨⟨M, h1⟩, h2⟩ := hz p List.mem_cons_self
    cases h with
    | cons h3 h4 h5 =>
      rw [htr _ _ h2] at h3
      rw [(h1.vc (X := fun _ => True) fun _ _ => trivial).stood h3, raw_rows htr (fun q hq => hz q (List.mem_cons_of_mem _ hq)) h5]
      simp
end
section
variable {P : Program} {N : Nat} {w0 : Base} {F0 : Nat → Prop} {Q : Exit → St → Prop} {s : St}
theorem awp_rawrow {α ρ : Type} [GoE α] [GoE ρ] [hG : GoodAt P w0] {c : Code} {t t' k : Nat} {x0 : Exit} (tr : List Value → α → ρ) (hn : GoD.n ρ = GoD.n α) (htr : ∀ ce a, ce.length = GoD.n α → enc (tr ce a) = rawR ce (enc a)) {l l' : List α}
    (hs : get s.tm t = some (.one (.slc (.own true k) (GoD.n α) (eL l)))) (hne : 0 < l.length)
    (h : ∀ (w1 : Base) (F1 : Nat → Prop) (z : List (List Value × α)) (rl : List ρ), GoodAt P w1 → z.map (·.2) = l → z.map (fun p => tr p.1 p.2) = rl → ∃ (z' : List (List Value × α)) (rl' : List ρ), z'.Sublist z ∧ z'.map (·.2) = l' ∧ z'.map (fun p => tr p.1 p.2) = rl' ∧
      AWP P N w1 F1 c (fun e s' => e = x0 ∧ ∃ k', get s'.tm t' = some (.one (.slc (.own false k') (GoD.n ρ) (eL rl')))) ⟨[(t, .one (.slc (.own false 63) (GoD.n ρ) (eL rl)))], []⟩)
    (hQ : Q x0 ⟨[(t', .one (.slc (.own true (64 * t')) (GoD.n α) (eL l')))], []⟩) : AWP P N w0 F0 c Q s := by
  intro J a w hr
  obtain ⟨L0, h1, h2, h3, h4⟩ : OwnDeep (J.L k) w (a.tmps.getD t undef) (GoD.n α) (eL l) := hr.tm t _ hs
  generalize hv : a.tmps.getD t undef = v at h1
  generalize hp : PV.slc (GoD.n α) (eL l) = q at h1
  cases h1 with
  | int | bool | str | any | raw => cases hp
  | emp oa n' =>
    simp only [PV.slc.injEq] at hp
    have := congrArg List.length hp.2
    rw [eL_length, List.length_nil] at this
    omega
  | @slc g cap n' cur e L1 l1 hg hs1 hor h5 h6 =>
    simp only [PV.slc.injEq] at hp
    obtain ⟨rfl, rfl⟩ := hp
    rw [eL_length] at h5 h6 hv
    obtain ⟨n1, n2⟩ := List.nodup_cons.1 h2
    obtain ⟨z, z1, z2, z3, z4⟩ := OR.chunks l hor
    have hgL : g ∈ J.L k := h3 _ List.mem_cons_self
    have hL1 : ∀ b, b ∈ L1 → b ∈ J.L k ∧ b ≠ g := fun b hb => ⟨h3 b (List.mem_cons_of_mem _ hb), fun e => n1 (e ▸ hb)⟩
    have hG1 : GoodAt P ⟨w, fun b => b = g, none⟩ := ⟨fun w' hk => hG.at_ w' (hr.below.step hk.os hk.tape hk.output hk.size fun b hb hnl => hk.block b hb fun hx => hnl (by have hx : b = g := hx; rw [hx]; exact (hr.lo k g hgL).1))⟩
    obtain ⟨z', rl', s1, s2, s3, hawp⟩ := h ⟨w, fun b => b = g, none⟩ (fun _ => False) z _ hG1 z2 rfl
    have hzl : z.length = l.length := by rw [← z2]; simp
    let J1 : Inj := ⟨fun _ => False, fun x => if x = 63 then [g] else [], fun _ => 0⟩
    have hJ1 : ∀ x b, b ∈ J1.L x → x = 63 ∧ b = g := fun x b hb => by
      have hb : b ∈ (if x = 63 then [g] else []) := hb
      split at hb
      · rename_i e; exact ⟨e, List.mem_singleton.1 hb⟩
      cases hb
    have hglt := block_lt_of_heap hg
    have hrel1 : Rel N ⟨w, fun b => b = g, none⟩ (fun _ => False) J1 a w ⟨[(t, .one (.slc (.own false 63) (GoD.n ρ) (eL (z.map fun p => tr p.1 p.2))))], []⟩ := by
      refine { below := Base.Keeps.refl _, nodef := hr.nodef, size := hr.size, fl := fun b hb => hb.elim, f0 := fun b hb => hb.elim, nd := fun x => ?_, lo := fun x b hb => ?_, dj := fun x y b hx hy => (hJ1 x b hx).1.trans (hJ1 y b hy).1.symm, bo := fun k c hc => (by simp [get] at hc), nb := .inl rfl, cb := fun b hb => (by cases hb), bi := fun k k' c c' hc => (by simp [get] at hc), tm := fun u x hx => ?_ }
      · show (if x = 63 then [g] else [] : List Nat).Nodup
        split <;> simp
      · obtain ⟨_, rfl⟩ := hJ1 x b hb
        exact ⟨.inr rfl, hglt, fun hf => hf⟩
      simp only [get] at hx
      split at hx
      · rename_i e
        subst e
        obtain rfl := Option.some.inj hx
        refine .inr ⟨g, cap, cur, e, rfl, ?_, hg, by rw [hn]; exact hs1, ?_, ?_, ?_⟩
        · rw [hv, eL_length, List.length_map, hzl]
        · rw [eL_length, List.length_map, hzl, hn]
          rw [eL_length] at z1
          rw [z1]
          exact rows_raw htr z3
        · rw [eL_length, List.length_map, hzl]; exact h5
        rw [eL_length, List.length_map, hzl]; exact h6
      cases hx
    refine wp_mono (hawp J1 a w hrel1) ?_
    rintro e' a' w' ⟨J', s', hR, rfl, k', hk'⟩
    have hT : OwnTop J'.F (J'.L k') w' (a'.tmps.getD t' undef) (GoD.n ρ) (eL rl') := hR.tm t' _ hk'
    obtain ⟨L2, q1, q2⟩ := z4 z' s1
    have hsame : ∀ b, b < w.heap.size → b ≠ g → w'.heap[b]? = w.heap[b]? := fun b hb hne => hR.below.block b hb hne
    have hsz : w.heap.size ≤ w'.heap.size := hR.below.size
    have hlk := hr.lo k
    have hdeep : ∃ M, OwnDeep M w' (a'.tmps.getD t' undef) (GoD.n α) (eL l') ∧ M.Nodup ∧ ∀ b, b ∈ M → b < w'.heap.size ∧ (w.heap.size ≤ b ∨ b ∈ J.L k) := by
      rcases hT with ⟨e1, oa, e2⟩ | ⟨g', cap', cur', ty, e1, e2, e3, e4, e5, e6, e7⟩
      · refine ⟨[], ?_, List.nodup_nil, fun b hb => (by cases hb)⟩
        have : l' = [] := by
          have h9 := congrArg List.length e1
          rw [eL_length, ← s3, List.length_map] at h9
          rw [← s2]
          have : z' = [] := List.length_eq_zero_iff.1 h9
          rw [this]; rfl
        rw [this, e2]
        exact ⟨[], .emp oa _, List.nodup_nil, (fun b hb => by cases hb), .inl rfl⟩
      have hgL' : g' ∈ J'.L k' := by rw [e1]; exact List.mem_singleton.2 rfl
      obtain ⟨g1, g2, _⟩ := hR.lo k' g' hgL'
      have g1 : w.heap.size ≤ g' ∨ g' = g := g1
      have hz' : ∀ p, p ∈ z' → (∃ M, OC w M p.1 (enc p.2)) ∧ p.1.length = GoD.n α := fun p hp => z3 p (s1.subset hp)
      rw [← s3, hn] at e5
      have hcs := raw_rows htr hz' e5
      have hlen : (eL rl').length = l'.length := by rw [eL_length, ← s3, ← s2]; simp
      have hL2 : ∀ b, b ∈ L2 → b ∈ J.L k ∧ b ≠ g := fun b hb => hL1 b (q1.subset hb)
      have hg'2 : g' ∉ L2 := fun hm => by
        rcases g1 with h | h
        · have := (hlk g' (hL2 g' hm).1).2.1; omega
        exact (hL2 g' hm).2 h
      have hnd : (g' :: L2).Nodup := List.nodup_cons.2 ⟨hg'2, q1.nodup n2⟩
      refine ⟨g' :: L2, ?_, hnd, fun b hb => ?_⟩
      · refine .of ?_ hnd
        rw [hlen] at e2 e6 e7
        rw [e2, ← eL_length (l := l')]
        refine .slc e3 (by rw [e4, hn]) ?_ (by rw [eL_length]; exact e6) (by rw [eL_length]; exact e7)
        have h9 : (z'.map (fun p => tr p.1 p.2)).length = l'.length := by rw [← s2]; simp
        rw [eL_length, h9] at hcs
        rw [eL_length, hcs, ← s2]
        exact q2.keep fun b hb => hsame b (hlk b (hL2 b hb).1).2.1 (hL2 b hb).2
      rcases List.mem_cons.1 hb with rfl | hb
      · exact ⟨g2, g1.imp id fun h => by rw [h]; exact hgL⟩
      exact ⟨Nat.lt_of_lt_of_le (hlk b (hL2 b hb).1).2.1 hsz, .inr (hL2 b hb).1⟩
    obtain ⟨M, m1, m2, m3⟩ := hdeep
    let J2 : Inj := ⟨J.F, fun x => if x = 64 * t' then M else [], J.B⟩
    have hJ2 : ∀ x b, b ∈ J2.L x → x = 64 * t' ∧ b ∈ M := fun x b hb => by
      have hb : b ∈ (if x = 64 * t' then M else []) := hb
      split at hb
      · rename_i e; exact ⟨e, hb⟩
      cases hb
    refine ⟨J2, ⟨[(t', .one (.slc (.own true (64 * t')) (GoD.n α) (eL l')))], []⟩, { below := ?_, nodef := hR.nodef, size := hR.size, fl := fun b hb => ⟨Nat.lt_of_lt_of_le (hr.fl b hb).1 hsz, (hr.fl b hb).2⟩, f0 := hr.f0, nd := fun x => ?_, lo := fun x b hb => ?_, dj := fun x y b hx hy => (hJ2 x b hx).1.trans (hJ2 y b hy).1.symm, bo := fun k c hc => (by simp [get] at hc), nb := hr.nb, cb := hr.cb, bi := fun k k' c c' hc => (by simp [get] at hc), tm := fun u x hx => ?_ }, hQ⟩
    · exact hr.below.step hR.below.os hR.below.tape hR.below.output hsz fun b hb hnl => hsame b hb fun e => hnl (by rw [e]; exact (hlk g hgL).1)
    · show (if x = 64 * t' then M else [] : List Nat).Nodup
      split
      · exact m2
      exact List.nodup_nil
    · obtain ⟨_, hb⟩ := hJ2 x b hb
      obtain ⟨b1, b2⟩ := m3 b hb
      rcases b2 with b2 | b2
      · exact ⟨.inl (Nat.le_trans hr.below.size b2), b1, fun hf => by have := (hr.fl b hf).1; omega⟩
      exact ⟨(hlk b b2).1, b1, (hlk b b2).2.2⟩
    simp only [get] at hx
    split at hx
    · rename_i e
      subst e
      obtain rfl := Option.some.inj hx
      show OwnDeep (J2.L (64 * t')) w' _ _ _
      rw [show J2.L (64 * t') = M from if_pos rfl]
      exact m1
    cases hx
end
theorem raw_keep {β ρ α : Type} {tr : β → α → ρ} {p : ρ → Bool} {q : α → Bool} (hpq : ∀ b a, p (tr b a) = q a) [Inhabited α] [Inhabited ρ] {z : List (β × α)} {rl : List ρ} {l : List α} (h1 : z.map (·.2) = l) (h2 : z.map (fun x => tr x.1 x.2) = rl) (hne : 0 < l.length) :
    ∃ z' : List (β × α), z'.Sublist z ∧ z'.map (·.2) = (l.take (l.length - 1)).filter q ++ [nth l (l.length - 1)] ∧ z'.map (fun x => tr x.1 x.2) = (rl.take (rl.length - 1)).filter p ++ [nth rl (rl.length - 1)] := by
  subst h1 h2
  rw [List.length_map] at hne
  obtain ⟨x, hx⟩ : ∃ x, z[z.length - 1]? = some x := ⟨_, List.getElem?_eq_getElem (by omega)⟩
  have hd : z.drop (z.length - 1) = [x] := by
    have hlt : z.length - 1 < z.length := by omega
    rw [List.drop_eq_getElem_cons hlt, List.drop_eq_nil_of_le (by omega)]
    rw [List.getElem?_eq_getElem hlt] at hx
    rw [Option.some.inj hx]
  refine ⟨(z.take (z.length - 1)).filter (fun x => q x.2) ++ [x], ?_, ?_, ?_⟩
  · have h9 := (List.filter_sublist (p := fun x : β × α => q x.2) (l := z.take (z.length - 1))).append (List.Sublist.refl [x])
    rw [← hd] at h9 ⊢
    rwa [List.take_append_drop] at h9
  · simp only [List.map_append, List.map_cons, List.map_nil, List.length_map, nth, List.getD_eq_getElem?_getD, List.getElem?_map, hx, Option.map_some, Option.getD_some, ← List.map_take, List.filter_map]
    rfl
  simp only [List.map_append, List.map_cons, List.map_nil, List.length_map, nth, List.getD_eq_getElem?_getD, List.getElem?_map, hx, Option.map_some, Option.getD_some, ← List.map_take, List.filter_map]
  congr 2
  refine List.filter_congr fun y _ => ?_
  exact (hpq y.1 y.2).symm
abbrev RverD := Int × Value × Value × Int × Value × Int
noncomputable def rver (ce : List Value) (a : VersionD) : RverD := (a.1, ce.getD 1 default, ce.getD 2 default, a.2.1.1.2.2, ce.getD 4 default, a.2.2)
theorem rver_ok (ce : List Value) (a : VersionD) (h : ce.length = GoD.n VersionD) : enc (rver ce a) = rawR ce (enc a) := by
  have h : ce.length = 6 := h
  rcases ce with _ | ⟨c0, _ | ⟨c1, _ | ⟨c2, _ | ⟨c3, _ | ⟨c4, _ | ⟨c5, _ | ⟨c6, r⟩⟩⟩⟩⟩⟩⟩ <;> first | rfl | (exfalso; simp at h)
open GoE (enc wide)
def implCollectVersions_1 (x : RverD) : Bool := (x.2.2.2.2.2 == (0 : Int))
theorem implCollectVersions_1_a (x : RverD) : ACalls Tryz.prog 18 [.a [.i x.1, .raw x.2.1, .raw x.2.2.1, .i x.2.2.2.1, .raw x.2.2.2.2.1, .i x.2.2.2.2.2]] (.b (implCollectVersions_1 x)) := by
 refine en tt_ok Tryz.func18 fun w0 F0 hG => ?_
 refine sn tt_ok [1, 2] [1] (p0) ?_
 refine tn tt_ok [2] [] (p0) ?_
 refine awp_ret ?_
 exact pb [] (show implCollectVersions_1 x = (x.2.2.2.2.2 == (0 : Int)) from rfl)
def slicesIndexFunc_Version_implCollectVersions_1_f0 (k0 : Nat) (a0 : RverD) (_ : Unit) : Rd (Int) (Unit) (Unit) := (bif (implCollectVersions_1 a0) then (.ret ((k0 : Nat) : Int)) else (.next ()))
def slicesIndexFunc_Version_implCollectVersions_1_e0 (_ : Nat) (_ : Unit) : Unit := ()
def slicesIndexFunc_Version_implCollectVersions_1 (s_ : (List RverD)) : Int := (Out.on (forL slicesIndexFunc_Version_implCollectVersions_1_f0 slicesIndexFunc_Version_implCollectVersions_1_e0 s_ 0 ()) (fun _ => -1))
theorem slicesIndexFunc_Version_implCollectVersions_1_ix (s_ : (List RverD)) : slicesIndexFunc_Version_implCollectVersions_1 s_ = ixF (fun a => implCollectVersions_1 a) s_ := idx_eq (fun _ _ _ => rfl) s_
theorem slicesIndexFunc_Version_implCollectVersions_1_bd (s_ : (List RverD)) : -1 ≤ slicesIndexFunc_Version_implCollectVersions_1 s_ ∧ slicesIndexFunc_Version_implCollectVersions_1 s_ < (List.length s_ : Int) := by rw [slicesIndexFunc_Version_implCollectVersions_1_ix]; exact ixF_bd _ _
theorem slicesIndexFunc_Version_implCollectVersions_1_a (s_ : (List RverD)) : ACalls Tryz.prog 34 [.h s_, .one (.fnr 18 [])] (.i (slicesIndexFunc_Version_implCollectVersions_1 s_)) := by
 refine en tt_ok Tryz.func34 fun w0 F0 hG => ?_
 refine sn tt_ok [0, 1, 4] [] (p0) ?_
 refine awp_seq ?_
 refine tn tt_ok [0, 1, 4, 7, 8] [] (pl 1 s_ p0) ?_
 refine mz [(4, .i 0), (7, .i (s_.length : Int)), (8, .i 0)] [] [] [] ?_
 refine wT 0 0 .sh s_ (fun hw1 hl2 => ?_)
 refine blL0 slicesIndexFunc_Version_implCollectVersions_1_f0 slicesIndexFunc_Version_implCollectVersions_1_e0 s_ () (fun k0 _ => [(8, .i ((k0 : Nat) : Int))]) [8] (fun _ => []) [0, 1, 7, 8] wf0 (fun k0 s0 hk0 hI0 => ?_) (fun k0 s0 hk0 hI0 => ?_) (fun y0 hD0 => ?_)
 ·
  obtain ⟨a0, hx0⟩ := get_some (l := s_) (i := k0) hk0
  refine sn tt_ok [0, 1, 4, 7, 8, 9] [] (pe 0 (av_bool (decide_eq_true (p := ((k0 : Nat) : Int) < (s_.length : Int)) (by omega))) p0) ?_
  refine awp_seq ?_
  refine ckT ?_
  refine awp_skip ?_
  refine awp_seq ?_
  refine awp_block ?_
  refine tn tt_ok [0, 1, 4, 5, 7, 8] [] (p0) ?_
  refine tu tt_ok [(5, .i ((k0 : Nat) : Int)), (16, .b (implCollectVersions_1 a0))] [] [] [] (pn 3 hx0 (pc 5 (implCollectVersions_1_a a0) p0)) ?_
  refine ck (implCollectVersions_1 a0) (fun h3 => ?_) (fun h3 => ?_)
  ·
   refine sn tt_ok [0, 1, 4, 7, 8] [] (p0) ?_
   refine awp_ret ?_
   have hr4 : (forL slicesIndexFunc_Version_implCollectVersions_1_f0 slicesIndexFunc_Version_implCollectVersions_1_e0 s_ 0 ()) = .ret ((k0 : Nat) : Int) := forL_ret hx0 (bif_t h3 (rfl)) hI0
   exact pi [] (on_r hr4)
  refine awp_skip ?_
  refine rn tt_ok [0, 1, 4, 7, 8] [] (pe 0 (av_i (wrap_succ k0 (by omega))) p0) ?_
  exact xw _ (forL_next hx0 (bif_f h3 (rfl)) hI0)
 ·
  refine sn tt_ok [0, 1, 4, 7, 8, 9] [] (pe 0 (av_bool (decide_eq_false (p := ((k0 : Nat) : Int) < (s_.length : Int)) (by omega))) p0) ?_
  refine awp_seq ?_
  refine ckF ?_
  refine awp_exit ?_
  exact xw _ (forL_end hk0 (rfl) hI0)
 refine sn tt_ok [4] [] (p0) ?_
 refine awp_ret ?_
 exact pi [] (on_b hD0 (rfl))
def slicesDeleteFunc_Version_implCollectVersions_1_f0 (s0 : (List RverD) × Int × Int) : Rd ((List RverD)) ((List RverD) × Int × Int) ((List RverD) × Int) := (bif decide (s0.2.2 < (s0.1.length : Int)) then (bif (!(implCollectVersions_1 (nth s0.1 (Int.toNat s0.2.2)))) then (.next (List.set s0.1 (Int.toNat s0.2.1) (nth s0.1 (Int.toNat s0.2.2)), (s0.2.1 + 1), (s0.2.2 + 1))) else (.next (s0.1, s0.2.1, (s0.2.2 + 1)))) else (.brk (s0.1, s0.2.1)))
def slicesDeleteFunc_Version_implCollectVersions_1 (s_ : (List RverD)) : (List RverD) := (bif ((slicesIndexFunc_Version_implCollectVersions_1 s_) == (-1 : Int)) then s_ else (Out.on (whlD slicesDeleteFunc_Version_implCollectVersions_1_f0 (List.length s_ + 1) (s_, (slicesIndexFunc_Version_implCollectVersions_1 s_), ((slicesIndexFunc_Version_implCollectVersions_1 s_) + 1))) (fun y0 => List.take (Int.toNat y0.2) y0.1)))
theorem slicesDeleteFunc_Version_implCollectVersions_1_st  : DelStep (slicesDeleteFunc_Version_implCollectVersions_1_f0) (fun a => implCollectVersions_1 a) := by
 intro s i j hij hj
 unfold slicesDeleteFunc_Version_implCollectVersions_1_f0
 by_cases h : (j : Int) < (s.length : Int) <;> cases hp : implCollectVersions_1 (nth s j) <;> simp [h, hp]
theorem slicesDeleteFunc_Version_implCollectVersions_1_w (s_ : (List RverD)) (hp : List.length s_ ≤ 1073741824) (h : slicesIndexFunc_Version_implCollectVersions_1 s_ ≠ -1) : (whl (slicesDeleteFunc_Version_implCollectVersions_1_f0) (List.length s_ + 1) (s_, slicesIndexFunc_Version_implCollectVersions_1 s_, slicesIndexFunc_Version_implCollectVersions_1 s_ + 1)).isSome = true := del_some (slicesDeleteFunc_Version_implCollectVersions_1_st) hp (slicesIndexFunc_Version_implCollectVersions_1_ix s_) h
theorem slicesDeleteFunc_Version_implCollectVersions_1_eq (s_ : (List RverD)) (hp : List.length s_ ≤ 1073741824) : slicesDeleteFunc_Version_implCollectVersions_1 s_ = s_.filter (fun a => !(implCollectVersions_1 a)) := by
 unfold slicesDeleteFunc_Version_implCollectVersions_1
 exact del_eq (slicesDeleteFunc_Version_implCollectVersions_1_st) hp (slicesIndexFunc_Version_implCollectVersions_1_ix s_)
theorem slicesDeleteFunc_Version_implCollectVersions_1_le (s_ : (List RverD)) (hp : List.length s_ ≤ 1073741824) : List.length (slicesDeleteFunc_Version_implCollectVersions_1 s_) ≤ List.length s_ := by rw [slicesDeleteFunc_Version_implCollectVersions_1_eq _ hp]; exact List.length_filter_le _ _
theorem slicesDeleteFunc_Version_implCollectVersions_1_a (s_ : (List RverD)) : ATake Tryz.prog 17 6 (eL s_) [.one (.fnr 18 [])] true false (eL (slicesDeleteFunc_Version_implCollectVersions_1 s_)) := by
 refine atake_of (tt := tt) tt_ok Tryz.func17 (fn := Tryz.f17) rfl (by unfold FnOk; kernel_rfl) (Nat.le_of_ble_eq_true rfl) (by simp [AV.cells, C.key, C.bkeys]) (t := 4) rfl fun w0 F0 hG => ?_
 refine wT 0 0 (.own false 63) s_ (fun hw1 hl2 => ?_)
 have hix := slicesIndexFunc_Version_implCollectVersions_1_bd s_
 refine sn tt_ok [0, 1, 4] [] (p0) ?_
 refine tn tt_ok [0, 1, 4, 5] [] (pc 2 (slicesIndexFunc_Version_implCollectVersions_1_a s_) p0) ?_
 refine awp_seq ?_
 refine tu tt_ok [(4, .e 0), (5, .i (slicesIndexFunc_Version_implCollectVersions_1 s_)), (12, .b ((slicesIndexFunc_Version_implCollectVersions_1 s_) == (-1 : Int)))] [] [] [] (p0) ?_
 refine ck ((slicesIndexFunc_Version_implCollectVersions_1 s_) == (-1 : Int)) (fun h3 => ?_) (fun h3 => ?_)
 ·
  refine sn tt_ok [0, 1, 4, 5] [] (p0) ?_
  refine awp_ret ?_
  have hE4 : slicesDeleteFunc_Version_implCollectVersions_1 s_ = s_ := bif_t h3 (rfl)
  exact ⟨.inl rfl, 63, by rw [hE4]; kernel_rfl⟩
 have h3d := ne_of_beq h3
 refine awp_skip ?_
 refine awp_seq ?_
 refine sn tt_ok [0, 1, 4, 5, 6] [] (pe 1 (av_i (IntWalk.i64_in ((slicesIndexFunc_Version_implCollectVersions_1 s_) + 1) (by omega))) p0) ?_
 refine mz [(6, .i ((slicesIndexFunc_Version_implCollectVersions_1 s_) + 1))] [12] [] [] ?_
 refine blw (fun (s0 : (List RverD) × Int × Int) => [(0, .q 63 s0.1), (5, .i s0.2.1), (6, .i s0.2.2)]) [0, 5, 6] (fun s0 => []) [] (fun (y0 : (List RverD) × Int) => [(0, .q 63 y0.1), (5, .i y0.2)]) [0, 1, 5, 6] (fun y0 => []) [] (fun (k0 : Nat) (s0 : (List RverD) × Int × Int) => whl slicesDeleteFunc_Version_implCollectVersions_1_f0 k0 s0 = some (whlD slicesDeleteFunc_Version_implCollectVersions_1_f0 (List.length s_ + 1) (s_, (slicesIndexFunc_Version_implCollectVersions_1 s_), ((slicesIndexFunc_Version_implCollectVersions_1 s_) + 1))) ∧ 0 ≤ s0.2.1 ∧ s0.2.1 < s0.2.2 ∧ s0.2.2 ≤ (List.length s0.1 : Int) ∧ List.length s0.1 = List.length s_) (fun (y0 : (List RverD) × Int) => (whlD slicesDeleteFunc_Version_implCollectVersions_1_f0 (List.length s_ + 1) (s_, (slicesIndexFunc_Version_implCollectVersions_1 s_), ((slicesIndexFunc_Version_implCollectVersions_1 s_) + 1))) = .brk y0 ∧ 0 ≤ y0.2 ∧ y0.2 < (List.length y0.1 : Int) ∧ List.length y0.1 = List.length s_) (List.length s_ + 1) (s_, (slicesIndexFunc_Version_implCollectVersions_1 s_), ((slicesIndexFunc_Version_implCollectVersions_1 s_) + 1)) wf0 ⟨whl_some (slicesDeleteFunc_Version_implCollectVersions_1_w s_ hl2 h3d), (by first | omega | (dsimp only; omega) | rfl), (by first | omega | (dsimp only; omega) | rfl), (by first | omega | (dsimp only; omega) | rfl), (by first | omega | (dsimp only; omega) | rfl)⟩ (fun _ h => whl_zero h.1) (fun k0 s0 hI0 => ?_) (fun y0 hD0 => ?_)
 ·
  have hA0_0 := hI0.2.1
  have hA0_1 := hI0.2.2.1
  have hA0_2 := hI0.2.2.2.1
  have hA0_3 := hI0.2.2.2.2
  refine awp_seq ?_
  refine sn tt_ok [0, 1, 4, 5, 6, 19] [] (pl 2 s0.1 p0) ?_
  refine ck (decide (s0.2.2 < (s0.1.length : Int))) (fun h5 => ?_) (fun h5 => ?_)
  ·
   have h5d := of_decide_eq_true h5
   refine awp_skip ?_
   refine awp_seq ?_
   refine awp_block ?_
   refine wT 0 0 (.own false 63) s0.1 (fun hw7 hl8 => ?_)
   have hx6 := ng s0.1 (Int.toNat s0.2.2)
   refine tn tt_ok [0, 1, 4, 5, 6, 7] [7] (pG 2 s0.2.2 hx6 p0) ?_
   refine tu tt_ok [(7, .p 7 0), (29, .b (!(implCollectVersions_1 (nth s0.1 (Int.toNat s0.2.2)))))] [] [(7, [.i ((nth s0.1 (Int.toNat s0.2.2)).1), .raw ((nth s0.1 (Int.toNat s0.2.2)).2.1), .raw ((nth s0.1 (Int.toNat s0.2.2)).2.2.1), .i ((nth s0.1 (Int.toNat s0.2.2)).2.2.2.1), .raw ((nth s0.1 (Int.toNat s0.2.2)).2.2.2.2.1), .i ((nth s0.1 (Int.toNat s0.2.2)).2.2.2.2.2)])] [] (pc 2 (implCollectVersions_1_a (nth s0.1 (Int.toNat s0.2.2))) p0) ?_
   refine ck (!(implCollectVersions_1 (nth s0.1 (Int.toNat s0.2.2)))) (fun h9 => ?_) (fun h9 => ?_)
   ·
    have hx10 := ng s0.1 (Int.toNat s0.2.1)
    refine su tt_ok [(0, .one (.slc (.own false 63) 6 (setRow (eL s0.1) (Int.toNat s0.2.1) 0 [.i ((nth s0.1 (Int.toNat s0.2.2)).1), .raw ((nth s0.1 (Int.toNat s0.2.2)).2.1), .raw ((nth s0.1 (Int.toNat s0.2.2)).2.2.1), .i ((nth s0.1 (Int.toNat s0.2.2)).2.2.2.1), .raw ((nth s0.1 (Int.toNat s0.2.2)).2.2.2.2.1), .i ((nth s0.1 (Int.toNat s0.2.2)).2.2.2.2.2)])))] [0, 7, 29] [] [7] (pG 3 s0.2.1 hx10 p0) ?_
    refine eqn [(0, .q 63 (List.set s0.1 (Int.toNat s0.2.1) (nth s0.1 (Int.toNat s0.2.2))))] [0] [] [] (by rw [setRow_eL (y := (nth s0.1 (Int.toNat s0.2.2))) hx10 rfl] <;> kernel_rfl) ?_
    refine rn tt_ok [0, 1, 4, 5, 6] [] (pe 1 (av_i (IntWalk.i64_in (s0.2.1 + 1) (by omega))) p0) ?_
    refine qn tt_ok [0, 1, 4, 5, 6] [] (pe 1 (av_i (IntWalk.i64_in (s0.2.2 + 1) (by omega))) p0) ?_
    exact xw (List.set s0.1 (Int.toNat s0.2.1) (nth s0.1 (Int.toNat s0.2.2)), (s0.2.1 + 1), (s0.2.2 + 1)) ⟨wn hI0.1 (bif_t h5 (bif_t h9 (rfl))), (by first | omega | (dsimp only; omega) | (simp only [List.length_set]; omega)), (by first | omega | (dsimp only; omega) | (simp only [List.length_set]; omega)), (by first | omega | (dsimp only; omega) | (simp only [List.length_set]; omega)), (by first | omega | (dsimp only; omega) | (simp only [List.length_set]; omega))⟩
   refine awp_skip ?_
   refine rn tt_ok [0, 1, 4, 5, 6] [] (pe 1 (av_i (IntWalk.i64_in (s0.2.2 + 1) (by omega))) p0) ?_
   exact xw (s0.1, s0.2.1, (s0.2.2 + 1)) ⟨wn hI0.1 (bif_t h5 (bif_f h9 (rfl))), (by first | omega | (dsimp only; omega) | (simp only [List.length_set]; omega)), (by first | omega | (dsimp only; omega) | (simp only [List.length_set]; omega)), (by first | omega | (dsimp only; omega) | (simp only [List.length_set]; omega)), (by first | omega | (dsimp only; omega) | (simp only [List.length_set]; omega))⟩
  have h5d := of_decide_eq_false h5
  refine awp_exit ?_
  exact xw (s0.1, s0.2.1) ⟨wb hI0.1 (bif_f h5 (rfl)), by first | omega | (simp only [List.length_set]; omega), by first | omega | (simp only [List.length_set]; omega), by first | omega | (simp only [List.length_set]; omega)⟩
 have hD0_0 := hD0.2.1
 have hD0_1 := hD0.2.2.1
 have hD0_2 := hD0.2.2.2
 refine awp_seq ?_
 refine awp_clear tt_ok rfl (by kernel_rfl) rfl rfl rfl rfl rfl (by omega) (by rw [eL_length]; omega) (fun lc11 hllc11 htlc11 => ?_)
 refine sn tt_ok [4] [] (po 2 (.cut (eL (List.take (Int.toNat y0.2) y0.1))) (px (ob_eq (show .one (.slc (.own false 0) 6 ((lc11.take (Int.toNat y0.2)).drop (Int.toNat 0))) = .q 0 (List.take (Int.toNat y0.2) y0.1) from (congrArg (fun z => AV.one (.slc (.own false 0) 6 (z.drop (Int.toNat 0)))) htlc11).trans (av_take (.own false 0) 6 (Int.toNat y0.2) y0.2 y0.1 rfl))) (px (ob_rng (lo := 0) (hi := y0.2) (n := (List.length lc11)) (rng_lc (by omega) (by rw [hllc11, eL_length]; omega))) p0))) ?_
 refine awp_ret ?_
 have hE12 : slicesDeleteFunc_Version_implCollectVersions_1 s_ = List.take (Int.toNat y0.2) y0.1 := bif_f h3 (on_b hD0.1 (rfl))
 exact ⟨.inl rfl, 0, by rw [hE12]; kernel_rfl⟩
def implCollectVersions (v : (List VersionD)) : (List VersionD) := (bif ((!(implAreValidVersions v)) || ((v.length : Int) == (0 : Int))) then (implcopyVersions v) else (List.filter (fun y : VersionD => !(y.2.2 == (0 : Int))) (List.take (List.length (implcopyVersions v) - 1) (implcopyVersions v)) ++ [nth (implcopyVersions v) (List.length (implcopyVersions v) - 1)]))
theorem implCollectVersions_a (v : (List VersionD)) : ACalls Tryz.prog 7 [.h v] (.o 0 (implCollectVersions v)) := by
 refine en tt_ok Tryz.func7 fun w0 F0 hG => ?_
 have hcl := copyVersions_len v
 refine sn tt_ok [0, 2] [] (p0) ?_
 refine tn tt_ok [0, 2, 3] [] (pc 1 (implcopyVersions_a v) p0) ?_
 refine awp_seq ?_
 refine awp_seq ?_
 refine mz [(2, .e 0), (3, .o 384 (implcopyVersions v))] [] [] [] ?_
 refine jn [(14, .b ((!(implAreValidVersions v)) || ((v.length : Int) == (0 : Int))))] [0] [] [] (!(implAreValidVersions v)) (fun h1 => ?_) (fun h1 => ?_) ?_
 ·
  have h1n : (implAreValidVersions v) = false := bnot_t h1
  refine rn tt_ok [2, 3, 14] [] (pc 1 (cb h1n (implAreValidVersions_a v)) (pe 2 (show .b (!false) = .b true from rfl) p0)) ?_
  exact ⟨rfl, weak_fit (by rw [h1] <;> kernel_rfl)⟩
 ·
  have h1n : (implAreValidVersions v) = true := bnot_f h1
  refine rn tt_ok [2, 3, 14] [] (pc 1 (cb h1n (implAreValidVersions_a v)) (pe 2 (show .b (!true) = .b false from rfl) (pl 5 v p0))) ?_
  exact ⟨rfl, weak_fit (by rw [h1] <;> kernel_rfl)⟩
 refine ck ((!(implAreValidVersions v)) || ((v.length : Int) == (0 : Int))) (fun h2 => ?_) (fun h2 => ?_)
 ·
  refine sn tt_ok [2, 3] [] (p0) ?_
  refine awp_ret ?_
  exact po0 [] (bif_t h2 (rfl))
 have h2r : (((v.length : Int) == (0 : Int))) = false := or_r h2
 have h2rd := ne_of_beq h2r
 refine awp_skip ?_
 refine wT 3 0 (.own true 384) (implcopyVersions v) (fun hw3 hl4 => ?_)
 refine awp_rawrow (t := 3) (t' := 2) (x0 := .ret) rver rfl rver_ok (l' := (List.filter (fun y : VersionD => !(y.2.2 == (0 : Int))) (List.take (List.length (implcopyVersions v) - 1) (implcopyVersions v)) ++ [nth (implcopyVersions v) (List.length (implcopyVersions v) - 1)])) rfl (by omega) (fun w1 F1 z rl hG1 hz hr_ => ?_) ?_
 ·
  have hrl : List.length rl = List.length (implcopyVersions v) := by rw [← hr_, ← hz, List.length_map, List.length_map]
  have hlr : List.length rl ≤ 1073741824 := by omega
  obtain ⟨z', q1, q2, q3⟩ := raw_keep (tr := rver) (p := fun y => !(implCollectVersions_1 y)) (q := fun y : VersionD => !(y.2.2 == (0 : Int))) (fun _ _ => rfl) hz hr_ (by omega)
  have hnt : Int.toNat ((List.length rl : Int) - 1) = List.length rl - 1 := by omega
  refine ⟨z', slicesDeleteFunc_Version_implCollectVersions_1 (List.take (Int.toNat ((rl.length : Int) - 1)) rl) ++ [(nth rl (Int.toNat ((rl.length : Int) - 1)))], q1, q2, q3.trans (by rw [hnt, slicesDeleteFunc_Version_implCollectVersions_1_eq (List.take (List.length rl - 1) rl) (by rw [List.length_take]; omega)]), ?_⟩
  have hx5 := ng rl (Int.toNat ((rl.length : Int) - 1))
  refine sn tt_ok [3, 4] [4] (pl 2 rl (pe 3 (av_i (IntWalk.i64_in ((rl.length : Int) - 1) (by omega))) (pG 4 ((rl.length : Int) - 1) hx5 p0))) ?_
  refine wT 3 0 (.own false 63) rl (fun hw6 hl7 => ?_)
  have hl8 : List.length (List.take (Int.toNat ((rl.length : Int) - 1)) rl) ≤ 1073741824 := wide_len (wide_take (Int.toNat ((rl.length : Int) - 1)) (hw6))
  have hq9 := List.length_take_le (Int.toNat ((rl.length : Int) - 1)) rl
  have hq10 := slicesDeleteFunc_Version_implCollectVersions_1_le (List.take (Int.toNat ((rl.length : Int) - 1)) rl) hl8
  refine tn tt_ok [3, 4] [4] (pl 2 rl (pe 3 (av_i (IntWalk.i64_in ((rl.length : Int) - 1) (by omega))) (po 4 (.cut (eL (List.take (Int.toNat ((rl.length : Int) - 1)) rl))) (px (ob_eq (av_take (.own false 63) 6 (Int.toNat ((rl.length : Int) - 1)) ((rl.length : Int) - 1) rl rfl)) (px (ob_rng (lo := 0) (hi := ((rl.length : Int) - 1)) (n := (List.length (eL rl))) (rng_of (by omega) (by omega) (by omega))) (po 5 (.take true false (eL (slicesDeleteFunc_Version_implCollectVersions_1 (List.take (Int.toNat ((rl.length : Int) - 1)) rl)))) (px (ob_take (slicesDeleteFunc_Version_implCollectVersions_1_a (List.take (Int.toNat ((rl.length : Int) - 1)) rl))) p0))))))) ?_
  refine wT 3 0 (.own false 1728) (slicesDeleteFunc_Version_implCollectVersions_1 (List.take (Int.toNat ((rl.length : Int) - 1)) rl)) (fun hw11 hl12 => ?_)
  refine tu tt_ok [(2, .one (.slc (.own false 1984) 6 ((eL (slicesDeleteFunc_Version_implCollectVersions_1 (List.take (Int.toNat ((rl.length : Int) - 1)) rl))) ++ [[.i ((nth rl (Int.toNat ((rl.length : Int) - 1))).1), .raw ((nth rl (Int.toNat ((rl.length : Int) - 1))).2.1), .raw ((nth rl (Int.toNat ((rl.length : Int) - 1))).2.2.1), .i ((nth rl (Int.toNat ((rl.length : Int) - 1))).2.2.2.1), .raw ((nth rl (Int.toNat ((rl.length : Int) - 1))).2.2.2.2.1), .i ((nth rl (Int.toNat ((rl.length : Int) - 1))).2.2.2.2.2)]])))] [3] [] [] (pa (slicesDeleteFunc_Version_implCollectVersions_1 (List.take (Int.toNat ((rl.length : Int) - 1)) rl)) [(nth rl (Int.toNat ((rl.length : Int) - 1)))] p0) ?_
  refine eqn [(2, .q 1984 (slicesDeleteFunc_Version_implCollectVersions_1 (List.take (Int.toNat ((rl.length : Int) - 1)) rl) ++ [(nth rl (Int.toNat ((rl.length : Int) - 1)))]))] [2] [] [] (by rw [show ((eL (slicesDeleteFunc_Version_implCollectVersions_1 (List.take (Int.toNat ((rl.length : Int) - 1)) rl))) ++ [[.i ((nth rl (Int.toNat ((rl.length : Int) - 1))).1), .raw ((nth rl (Int.toNat ((rl.length : Int) - 1))).2.1), .raw ((nth rl (Int.toNat ((rl.length : Int) - 1))).2.2.1), .i ((nth rl (Int.toNat ((rl.length : Int) - 1))).2.2.2.1), .raw ((nth rl (Int.toNat ((rl.length : Int) - 1))).2.2.2.2.1), .i ((nth rl (Int.toNat ((rl.length : Int) - 1))).2.2.2.2.2)]]) = (eL (slicesDeleteFunc_Version_implCollectVersions_1 (List.take (Int.toNat ((rl.length : Int) - 1)) rl) ++ [(nth rl (Int.toNat ((rl.length : Int) - 1)))])) from app_eL (rfl) (rfl)]; first | done | kernel_rfl) ?_
  refine awp_ret ?_
  exact ⟨rfl, 1984, rfl⟩
 exact po0 [] (bif_f h2 (rfl))
def specCollectVersions_f0 (k_ : (List VersionD)) (k0 : Nat) (a0 : VersionD) (s0 : (List VersionD)) : Rd ((List VersionD)) ((List VersionD)) ((List VersionD)) := (bif (decide (a0.2.2 > (0 : Int)) || (((k0 : Nat) : Int) == ((k_.length : Int) - 1))) then (.next (s0 ++ [a0])) else (.next s0))
def specCollectVersions_e0 (_ : Nat) (s0 : (List VersionD)) : (List VersionD) := s0
def specCollectVersions (k_ : (List VersionD)) : (List VersionD) := (bif (!(specAreValidVersions k_)) then (specl28Copy k_) else (Out.on (forL (specCollectVersions_f0 k_) specCollectVersions_e0 k_ 0 []) (fun y0 => (specl28Copy y0))))
theorem specCollectVersions_a (k_ : (List VersionD)) : ACalls Tryz.prog 5 [.h k_] (.o 0 (specCollectVersions k_)) := by
 refine en tt_ok Tryz.func5 fun w0 F0 hG => ?_
 refine sn tt_ok [0, 2] [] (p0) ?_
 refine awp_seq ?_
 refine tn tt_ok [0, 2, 7] [] (pc 1 (specAreValidVersions_a k_) p0) ?_
 refine ck (!(specAreValidVersions k_)) (fun h1 => ?_) (fun h1 => ?_)
 ·
  refine tu tt_ok [(2, .o 576 (specl28Copy k_))] [] [] [] (pc 1 (specl28Copy_a k_) p0) ?_
  refine awp_ret ?_
  exact po0 [] (bif_t h1 (rfl))
 refine awp_skip ?_
 refine tu tt_ok [(2, .e 0), (3, .one (.slc (.own true 640) 6 []))] [] [] [] (p0) ?_
 refine awp_seq ?_
 refine sn tt_ok [0, 2, 3, 4] [] (p0) ?_
 refine mz [(4, .i 0)] [] [] [] ?_
 refine wT 0 0 .sh k_ (fun hw2 hl3 => ?_)
 refine blL1 (specCollectVersions_f0 k_) specCollectVersions_e0 k_ [] (fun k0 s0 => [(3, .q 147202 s0), (4, .i ((k0 : Nat) : Int))]) [3, 4] (fun y0 => [(3, .q 147352 y0)]) [0, 3, 4] (fun k0 s0 => List.length s0 ≤ k0) (weak_gf [] [] [640] [(640, 147202)] (by kernel_rfl)) (by simp) (fun k0 s0 hk0 hI0 => ?_) (fun k0 s0 hk0 hI0 => ?_) (fun y0 hD0 => ?_)
 ·
  have hA0_0 := hI0.2
  obtain ⟨a0, hx0⟩ := get_some (l := k_) (i := k0) hk0
  refine awp_seq ?_
  refine sn tt_ok [0, 2, 3, 4, 14] [] (pl 2 k_ (pe 3 (av_bool (decide_eq_true (p := ((k0 : Nat) : Int) < (k_.length : Int)) (by omega))) p0)) ?_
  refine ckT ?_
  refine awp_skip ?_
  refine awp_seq ?_
  refine awp_block ?_
  refine awp_seq ?_
  refine mz [(14, .b true)] [] [] [] ?_
  refine jn [(29, .b (decide (a0.2.2 > (0 : Int)) || (((k0 : Nat) : Int) == ((k_.length : Int) - 1))))] [14] [] [] (decide (a0.2.2 > (0 : Int))) (fun h4 => ?_) (fun h4 => ?_) ?_
  ·
   refine rn tt_ok [0, 2, 3, 4, 29] [] (pn 2 hx0 (pt 5 h4 p0)) ?_
   exact ⟨rfl, weak_fit (by rw [h4] <;> kernel_rfl)⟩
  ·
   have h4d := of_decide_eq_false h4
   refine rn tt_ok [0, 2, 3, 4, 29] [] (pn 2 hx0 (pf 5 h4 (pl 9 k_ (pe 10 (av_i (IntWalk.i64_in ((k_.length : Int) - 1) (by omega))) p0)))) ?_
   exact ⟨rfl, weak_fit (by rw [h4] <;> kernel_rfl)⟩
  refine ck (decide (a0.2.2 > (0 : Int)) || (((k0 : Nat) : Int) == ((k_.length : Int) - 1))) (fun h5 => ?_) (fun h5 => ?_)
  ·
   refine wT 3 0 (.own false 147202) s0 (fun hw6 hl7 => ?_)
   refine ru tt_ok [(3, .one (.slc (.own false 2304) 6 ((eL s0) ++ [[.i a0.1, .h a0.2.1.1.1, .h a0.2.1.1.2.1, .i a0.2.1.1.2.2, .h a0.2.1.2, .i a0.2.2]])))] [3, 29] [] [] (pn 3 hx0 (pa s0 [a0] p0)) ?_
   refine eqn [(3, .q 2304 (s0 ++ [a0]))] [3] [] [] (by rw [show ((eL s0) ++ [[.i a0.1, .h a0.2.1.1.1, .h a0.2.1.1.2.1, .i a0.2.1.1.2.2, .h a0.2.1.2, .i a0.2.2]]) = (eL (s0 ++ [a0])) from app_eL (rfl) (rfl)]; first | done | kernel_rfl) ?_
   refine rn tt_ok [0, 2, 3, 4] [] (pe 1 (av_i (wrap_succ k0 (by omega))) p0) ?_
   exact Exists.intro (s0 ++ [a0]) (And.intro (weak_sf [(2304, 147202)] (by kernel_rfl)) ⟨forL_next hx0 (bif_t h5 (rfl)) hI0.1, by first | omega | (simp; omega) | simp⟩)
  have h5l : (decide (a0.2.2 > (0 : Int))) = false := or_l h5
  have h5ld := of_decide_eq_false h5l
  have h5r : ((((k0 : Nat) : Int) == ((k_.length : Int) - 1))) = false := or_r h5
  have h5rd := ne_of_beq h5r
  refine awp_skip ?_
  refine rn tt_ok [0, 2, 3, 4] [] (pe 1 (av_i (wrap_succ k0 (by omega))) p0) ?_
  exact xw s0 ⟨forL_next hx0 (bif_f h5 (rfl)) hI0.1, by first | omega | (simp; omega) | simp⟩
 ·
  have hA0_0 := hI0.2
  refine awp_seq ?_
  refine sn tt_ok [0, 2, 3, 4, 14] [] (pl 2 k_ (pe 3 (av_bool (decide_eq_false (p := ((k0 : Nat) : Int) < (k_.length : Int)) (by omega))) p0)) ?_
  refine ckF ?_
  refine awp_exit ?_
  exact Exists.intro _ (And.intro (weak_sf [(147202, 147352)] (by kernel_rfl)) (forL_end hk0 (rfl) hI0.1))
 refine sn tt_ok [2] [] (pc 1 (specl28Copy_a y0) p0) ?_
 refine awp_ret ?_
 exact po0 [] (bif_f h1 (on_b hD0 (rfl)))
section
variable {α T : Type}
theorem forL_ret_false {f : Nat → α → Unit → Rd Bool Unit T} {e : Nat → Unit → T} (hr : ∀ k a r, f k a () = .ret r → r = false) : ∀ (l : List α) (k : Nat) {r : Bool}, forL f e l k () = .ret r → r = false
  | [], _, _, h => by simp [forL] at h
  | a :: l, k, r, h => by
    simp only [forL] at h
    cases hf : f k a () with
    | next s => rw [hf] at h; exact forL_ret_false hr l (k + 1) h
    | brk t => rw [hf] at h; cases h
    | ret r' => rw [hf] at h; cases h; exact hr _ _ _ hf
theorem forL_cons {R S : Type} {f : Nat → α → S → Rd R S T} {e : Nat → S → T} (a : α) (l : List α) (k : Nat) (s : S) : forL f e (a :: l) k s = (match f k a s with | .next s' => forL f e l (k + 1) s' | .brk t => .brk t | .ret r => .ret r) := by
  simp only [forL]
  cases f k a s <;> rfl
theorem keep_go {R : Type} [Inhabited α] {f : Nat → α → List α → Rd R (List α) T} {e : Nat → List α → T} {p : α → Bool} {n : Nat} (hf : ∀ k a s, f k a s = bif (p a || (((k : Nat) : Int) == ((n : Int) - 1))) then .next (s ++ [a]) else .next s) :
    ∀ (l : List α) (k : Nat) (s : List α), k + l.length = n → 0 < l.length → forL f e l k s = .brk (e n (s ++ ((l.take (l.length - 1)).filter p ++ [nth l (l.length - 1)])))
  | [], _, _, _, h => by simp at h
  | [a], k, s, hk, _ => by
    have hk : k + 1 = n := hk
    have h1 : (((k : Nat) : Int) == ((n : Int) - 1)) = true := by simp; omega
    simp only [forL, hf, h1, Bool.or_true, cond_true, hk]
    rfl
  | a :: b :: l, k, s, hk, _ => by
    have hk : k + (l.length + 1 + 1) = n := hk
    have h1 : (((k : Nat) : Int) == ((n : Int) - 1)) = false := by simp; omega
    have h2 : (a :: b :: l).take ((a :: b :: l).length - 1) = a :: (b :: l).take ((b :: l).length - 1) := rfl
    have h3 : nth (a :: b :: l) ((a :: b :: l).length - 1) = nth (b :: l) ((b :: l).length - 1) := rfl
    rw [h2, h3, forL_cons, hf, h1, Bool.or_false]
    cases hp : p a with
    | true =>
      show forL f e (b :: l) (k + 1) (s ++ [a]) = _
      rw [keep_go hf (b :: l) (k + 1) (s ++ [a]) (by simp; omega) (by simp), List.filter_cons_of_pos hp, List.append_assoc]
      rfl
    | false =>
      show forL f e (b :: l) (k + 1) s = _
      rw [keep_go hf (b :: l) (k + 1) s (by simp; omega) (by simp), List.filter_cons_of_neg (by rw [hp]; decide)]
end
theorem pins_ok {v : List VersionD} (h : implAreValidVersions v = true) {i : Nat} {a : VersionD} (hi : v[i]? = some a) : 0 ≤ a.2.2 := by
  unfold implAreValidVersions at h
  have hb : ∀ k a t, implAreValidVersions_f0 v k a () ≠ .brk t := fun k a t h => by
    unfold implAreValidVersions_f0 at h
    revert h
    cases (_ || _ : Bool) <;> intro h <;> cases h
  have hr : ∀ k a r, implAreValidVersions_f0 v k a () = .ret r → r = false := fun k a r h => by
    unfold implAreValidVersions_f0 at h
    revert h
    cases (_ || _ : Bool) <;> intro h <;> cases h
    rfl
  cases hf : forL (implAreValidVersions_f0 v) implAreValidVersions_e0 v 0 () with
  | ret r =>
    rw [hf, forL_ret_false hr v 0 hf] at h
    cases h
  | brk t =>
    have h1 := forL_all hb hf i a hi
    unfold implAreValidVersions_f0 at h1
    have h2 : implwithin a.2.2 0 99 = true := by
      cases hw : implwithin a.2.2 0 99 with
      | true => rfl
      | false =>
        rw [hw] at h1
        simp at h1
    exact (within_iff.1 h2).1
theorem collectVersions_eq (v : List VersionD) : specCollectVersions v = implCollectVersions v := by
  unfold specCollectVersions implCollectVersions
  rw [versions_eq, copyVersions_id, l28Copy_id]
  cases hv : implAreValidVersions v with
  | false => rfl
  | true =>
    by_cases h0 : v.length = 0
    · obtain rfl := List.length_eq_zero_iff.1 h0
      simp only [Bool.not_true, cond_false, forL, Out.on, specCollectVersions_e0, l28Copy_id]
      rfl
    have h1 : ((v.length : Int) == (0 : Int)) = false := beq_eq_false_iff_ne.2 (by omega)
    rw [h1]
    simp only [Bool.not_true, Bool.or_false, cond_false]
    rw [keep_go (f := specCollectVersions_f0 v) (e := specCollectVersions_e0) (p := fun a : VersionD => decide (a.2.2 > (0 : Int))) (n := v.length) (fun _ _ _ => rfl) v 0 [] (by omega) (by omega)]
    show specl28Copy _ = _
    rw [l28Copy_id]
    show [] ++ (_ ++ _) = _
    rw [List.nil_append]
    congr 1
    refine List.filter_congr fun a ha => ?_
    obtain ⟨i, hi⟩ := List.mem_iff_getElem?.1 (List.mem_of_mem_take ha)
    have := pins_ok hv hi
    rw [Bool.eq_iff_iff]
    simp
    omega
theorem size_sub {α : Type} [GoD α] {l m : List α} (h : l.Sublist m) : GoD.size l ≤ GoD.size m := by
  induction h with
  | slnil => exact Nat.le_refl _
  | cons a _ ih => simp only [size_list, List.length_cons, List.map_cons, List.sum_cons] at ih ⊢; omega
  | cons_cons a _ ih => simp only [size_list, List.length_cons, List.map_cons, List.sum_cons] at ih ⊢; omega
theorem collect_size (v : List VersionD) : GoD.size (implCollectVersions v) ≤ GoD.size v := by
  unfold implCollectVersions
  rw [copyVersions_id]
  by_cases h0 : v.length = 0
  · have h1 : ((v.length : Int) == (0 : Int)) = true := beq_iff_eq.2 (by omega)
    rw [h1, Bool.or_true, cond_true]
    exact Nat.le_refl _
  cases ((!(implAreValidVersions v)) || ((v.length : Int) == (0 : Int))) with
  | true => exact Nat.le_refl _
  | false =>
    refine size_sub ?_
    have hlt : v.length - 1 < v.length := by omega
    have hd : v.drop (v.length - 1) = [nth v (v.length - 1)] := by
      rw [List.drop_eq_getElem_cons hlt, List.drop_eq_nil_of_le (by omega)]
      have := nth_get hlt
      rw [List.getElem?_eq_getElem hlt] at this
      rw [Option.some.inj this]
    have h9 := (List.filter_sublist (p := fun y : VersionD => !(y.2.2 == (0 : Int))) (l := v.take (v.length - 1))).append (List.Sublist.refl (v.drop (v.length - 1)))
    rw [List.take_append_drop, hd] at h9
    exact h9
end
section
open Go.RowKit
open GoD (rd own)
set_option maxRecDepth 100000
set_option maxHeartbeats 1000000
theorem zSm : (∀ (w : World) o, (w.alloc o).heap.size = w.heap.size + 1) ∧ (∀ (w : World) a v, (w.setCell a v).heap.size = w.heap.size) ∧ ∀ w : World, w.drew.heap.size = w.heap.size := ⟨fun _ _ => World.size_alloc .., fun _ _ _ => World.size_setCell .., fun _ => rfl⟩
theorem mkLn {α : Type} [GoD α] {l : List α} {j : Nat} (h : j < l.length) (k : Nat) : (markS (l.take j) k).1.length = j := by rw [markS_length, List.length_take]; omega
abbrev mI {α : Type} [GoD α] (L : List Nat) (w : World) (oa : Option Addr) (cap : Nat) (l : List α) (k : Nat) (q i : Value) (wr : World) : Prop := ∃ j : Nat, j ≤ l.length ∧ i = .int .i64 j ∧ q = .int .i64 ((markS (l.take j) k).2 : Nat) ∧ Hid (own L wr [.slice oa l.length cap] ((markS (l.take j) k).1 ++ l.drop j)) ∧ Hid (Chg L w wr)
theorem digs_zero (f : Nat) : digs f 0 = [] := by cases f <;> rfl
theorem digs_fuel : ∀ (f f' k : Nat), k ≤ f → k ≤ f' → digs f k = digs f' k
  | 0, f', k, h, _ => by
    obtain rfl : k = 0 := by omega
    rw [digs_zero, digs_zero]
  | f + 1, 0, k, _, h => by
    obtain rfl : k = 0 := by omega
    rw [digs_zero, digs_zero]
  | f + 1, f' + 1, k, h, h' => by
    unfold digs
    by_cases hk : k = 0
    · rw [if_pos hk, if_pos hk]
    rw [if_neg hk, if_neg hk, digs_fuel f f' (k / 10) (by omega) (by omega)]
theorem digs_pos {k : Nat} (h : 0 < k) : digs k k = digs (k / 10) (k / 10) ++ [UInt8.ofNat (48 + k % 10)] := by
  obtain ⟨f, rfl⟩ : ∃ f, k = f + 1 := ⟨k - 1, by omega⟩
  rw [digs, if_neg (by omega), digs_fuel f ((f + 1) / 10) _ (by omega) (Nat.le_refl _)]
theorem digs_len : ∀ (n k : Nat), k < 10 ^ n → (digs k k).length ≤ n
  | 0, k, h => by
    obtain rfl : k = 0 := by simpa using h
    simp [digs_zero]
  | n + 1, k, h => by
    by_cases hk : k = 0
    · subst hk; simp [digs_zero]
    rw [digs_pos (by omega)]
    have := digs_len n (k / 10) (by rw [Nat.pow_succ] at h; omega)
    simp
    omega
theorem digs_len20 {k : Nat} (h : k ≤ 4611686018427387904) : (digs k k).length ≤ 20 := digs_len 20 k (by omega)
theorem markB_size {k : Nat} (h : k ≤ 4611686018427387904) : (markB k).size ≤ maxLen := by
  have h1 := digs_len20 h
  unfold markB maxLen
  show (List.toArray _).size ≤ _
  rw [List.size_toArray]
  split
  · simp
  simp; omega
theorem markText_c (w : World) (K : Int) (k : Nat) (hK : K = k) (h1 : 1 ≤ k) (hk : k ≤ 4611686018427387904) : Calls Tryz.prog 36 #[.int .i64 K] w (Ret w (.string (markB k))) := by
  subst hK
  have hk0 : ¬ (k : Int) ≤ 0 := by omega
  have HL := Lib.hid (digs_len20 hk)
  go_enter Tryz.func36, Tryz.ntmps36
  go_wp2
  go_loopw [0, 3] (fun q s wr => ∃ (j : Nat) (out : ByteArray), q = .int .i64 j ∧ s = .string out ∧ j ≤ 4611686018427387904 ∧ Hid (digs j j ++ out.data.toList = digs k k) ∧ Below w.heap.size w wr) (fun q _ _ => (intOf q).toNat)
  case atStart => exact ⟨k, _, rfl, rfl, hk, by show _ = _; simp, Below.refl _ _⟩
  case round =>
    obtain ⟨j, out, rfl, rfl, hj, HD, hB⟩ := hrel
    have hos : out.size ≤ 20 := by
      have h := HL.out
      rw [← HD.out] at h
      simp at h
      have : out.size = out.data.size := rfl
      omega
    have hBs := hB.size
    by_cases hz : 0 < j
    · have hcv : ∀ w0 : World, Sem.run Tryz.prog (convert 85 9 (.slice (some ⟨w0.heap.size, 0, none⟩) 1 1)) (w0.alloc (.cells #[.int .u8 (48 + (j : Int) % 10)] 5)) = .ok (.string ⟨#[UInt8.ofNat (48 + j % 10)]⟩) (w0.alloc (.cells #[.int .u8 (48 + (j : Int) % 10)] 5)) := by
        intro w0
        refine run_convert_bytes_back (P := Tryz.prog) _ 85 9 5 _ 1 [UInt8.ofNat (48 + j % 10)] Tryz.underlying85 Tryz.underlying5 Tryz.underlying9 ?_
        intro i hi
        obtain rfl : i = 0 := by simp at hi; omega
        simp [Addr.add]
        omega
      have hos2 : 1 + out.size ≤ 30 := by omega
      go_wp2
      go_roundw
      case rel => exact ⟨j / 10, _, by go_num, rfl, by omega, by
        show _ = _
        rw [← HD.out, digs_pos hz]
        simp, by go_grown⟩
      case measure => simp [intOf]; omega
    obtain rfl : j = 0 := by omega
    go_wp2
    go_ret
    refine ⟨?_, hB⟩
    have h := HD.out
    rw [digs_zero] at h
    simp only [List.nil_append] at h
    have e : markB k = ⟨#[109]⟩ ++ out := by
      unfold markB
      rw [if_neg (by omega), ← h]
      apply ByteArray.ext
      simp
    rw [e]
    rfl
theorem markFieldS_c (w : World) (v : Value) (l : List FieldD) (L : List Nat) (K : Int) (k : Nat) (hK : K = k) (h1 : 1 ≤ k) (hk : (markS l k).2 ≤ 4611686018427387904) (ho : own L w [v] l) : Calls Tryz.prog 20 #[v, .int .i64 K] w (MarkR L w [v] (markS l k)) := by
  subst hK
  obtain ⟨oa, cap, rfl⟩ := slice_of_own ho
  have hlm : l.length ≤ 9223372036854775807 := len_of_own ho
  have HO := Lib.hid ho; clear ho
  go_enter Tryz.func20, Tryz.ntmps20
  go_wp2
  go_loopw [1, 5] (mI L w oa cap l k) (fun _ i _ => l.length - (intOf i).toNat)
  case atStart => exact ⟨0, Nat.zero_le _, rfl, rfl, HO.out, Chg.refl _ _⟩
  case round =>
    obtain ⟨j, hj, rfl, rfl, HW, HC⟩ := hrel
    by_cases hjl : j < l.length
    · have hx := List.getElem?_eq_getElem hjl
      have hsp := mark_split l k j _ hx
      have hle := Nat.le_trans (mark_take_le l k j _ hx) hk
      have hdr := List.drop_eq_getElem_cons hjl
      have hxl := mkLn hjl k
      have hkk : k ≤ (markS (l.take j) k).2 := markS_le _ _
      have how := HW.out
      rw [hdr] at how
      clear hx hdr HW
      generalize (markS (l.take j) k).2 = kk at *
      generalize (markS (l.take j) k).1 = xs at *
      generalize l[j] = x at *
      obtain ⟨g, cap', cur, e, Li, hv, hg, hroom, hgLi, hgL, hsub, hoe, hshut⟩ := own_open how
      simp only [Value.slice.injEq] at hv
      obtain ⟨rfl, hq0, rfl⟩ := hv
      clear hq0
      rw [hxl] at hroom hoe hshut
      clear hxl
      rw [show GoD.n FieldD = 2 from rfl] at hroom hoe hshut
      generalize hce : (cur.toList.drop (j * 2)).take 2 = ce at *
      obtain ⟨v0, v1⟩ := x
      obtain ⟨nd1, _, _, _, _, rfl, rfl, ⟨rfl, rfl, h0⟩, ⟨rfl, rfl, h1⟩⟩ := hoe
      have p0 : wr.cell? ⟨g, j * 2, none⟩ = some _ := cells_at hg hce 0 _ rfl
      have p1 : wr.cell? ⟨g, j * 2 + 1, none⟩ = some _ := cells_at hg hce 1 _ rfl
      have fz := free_of_heap hg
      have hglt := block_lt_of_heap hg
      clear hce hg how
      have HSH := Lib.hid hshut; clear hshut
      have HSP := Lib.hid hsp; clear hsp
      have hle : kk + 1 + 1 ≤ 4611686018427387904 := hle
      have HSUB := Lib.hid hsub; clear hsub
      have HU0 : Hid (Upd g (j * 2) 2 ([] ++ []) wr wr) := Upd.refl _ _ _ _ _
      have tok1 : True := trivial
      go_wp2_with (first | (go_at_call 36; have tk := tok1; clear tok1; refine (markText_c _ _ (kk) (by omega) (by omega) (by omega)).mono ?_; rintro e w1 ⟨rfl, hb⟩; have hz := hb.size; have c1 := fun o => bcell hb g o (by go_size); have f1 := fun o => bfroz hb g o (by go_size); have HU1 : Hid (Upd g (j * 2) 2 ([] ++ []) wr w1) := Upd.below (by repeat (first | (with_reducible exact HU0.out) | (with_reducible refine Upd.setCell ?_ _ (by omega) _))) hb (by go_size); (try simp only [zSm] at hz); have HB1 := Lib.hid hb; clear hb))
      go_roundw
      case measure => simp [intOf]; omega
      case rel =>
        refine ⟨j + 1, by omega, by go_num, ?_, ?_, ?_⟩
        · show Value.int _ _ = _
          rw [HSP.out]
          show Value.int .i64 _ = .int .i64 ((kk + 1 + 1 : Nat) : Int)
          first | go_num | (congr 1 <;> omega)
        · show own _ _ _ _
          rw [HSP.out]
          simp only [List.append_assoc, List.singleton_append]
          refine HSH.out _ [.string (markB (kk)), .int .i64 ((kk + 1 : Nat) : Int)] _ (by repeat (first | (with_reducible exact HU1.out) | (with_reducible refine Upd.setCell ?_ _ (by omega) _))) (own_pair (own_s _ (markB_size (by omega))) (own_i _ (i64_of (kk + 1) (by omega))) (fun x hx hy => (List.nodup_append.1 nd1).2.2 x hx x hy rfl)) ?_
          intro q u hq
          match q, hq with
          | 0, hq => obtain rfl := (Option.some.inj hq); simp [go_sem, *]
          | 1, hq => obtain rfl := (Option.some.inj hq); simp [go_sem, *]
          | q + 2, hq => simp at hq
        exact HC.out.trans (((by repeat (first | (with_reducible exact HU1.out) | (with_reducible refine Upd.setCell ?_ _ (by omega) _))) : Upd g (j * 2) 2 ([] ++ []) wr _).chg.mono (fun b hb => (List.mem_cons.1 hb).elim (fun e => e ▸ hgL) (HSUB.out b)))
    obtain rfl : j = l.length := by omega
    have how := HW.out; have hch := HC.out
    rw [List.take_length, List.drop_length, List.append_nil] at how
    rw [List.take_length] at *
    have HW2 := Lib.hid how; have HC2 := Lib.hid hch; clear how hch
    go_wp2
    go_ret
    exact ⟨rfl, HW2.out, HC2.out⟩
theorem markAttrS_c (w : World) (v : Value) (l : List AttrD) (L : List Nat) (K : Int) (k : Nat) (hK : K = k) (h1 : 1 ≤ k) (hk : (markS l k).2 ≤ 4611686018427387904) (ho : own L w [v] l) : Calls Tryz.prog 37 #[v, .int .i64 K] w (MarkR L w [v] (markS l k)) := by
  subst hK
  obtain ⟨oa, cap, rfl⟩ := slice_of_own ho
  have hlm : l.length ≤ 9223372036854775807 := len_of_own ho
  have HO := Lib.hid ho; clear ho
  go_enter Tryz.func37, Tryz.ntmps37
  go_wp2
  go_loopw [1, 5] (mI L w oa cap l k) (fun _ i _ => l.length - (intOf i).toNat)
  case atStart => exact ⟨0, Nat.zero_le _, rfl, rfl, HO.out, Chg.refl _ _⟩
  case round =>
    obtain ⟨j, hj, rfl, rfl, HW, HC⟩ := hrel
    by_cases hjl : j < l.length
    · have hx := List.getElem?_eq_getElem hjl
      have hsp := mark_split l k j _ hx
      have hle := Nat.le_trans (mark_take_le l k j _ hx) hk
      have hdr := List.drop_eq_getElem_cons hjl
      have hxl := mkLn hjl k
      have hkk : k ≤ (markS (l.take j) k).2 := markS_le _ _
      have how := HW.out
      rw [hdr] at how
      clear hx hdr HW
      generalize (markS (l.take j) k).2 = kk at *
      generalize (markS (l.take j) k).1 = xs at *
      generalize l[j] = x at *
      obtain ⟨g, cap', cur, e, Li, hv, hg, hroom, hgLi, hgL, hsub, hoe, hshut⟩ := own_open how
      simp only [Value.slice.injEq] at hv
      obtain ⟨rfl, hq0, rfl⟩ := hv
      clear hq0
      rw [hxl] at hroom hoe hshut
      clear hxl
      rw [show GoD.n AttrD = 4 from rfl] at hroom hoe hshut
      generalize hce : (cur.toList.drop (j * 4)).take 4 = ce at *
      obtain ⟨v0, ⟨v1, v2, v3⟩⟩ := x
      obtain ⟨nd3, _, _, _, _, rfl, rfl, ⟨rfl, rfl, h0⟩, ⟨nd2, _, _, _, _, rfl, rfl, ⟨rfl, rfl, h1⟩, ⟨nd1, _, _, _, _, rfl, rfl, ⟨rfl, rfl, h2⟩, ⟨rfl, rfl, h3⟩⟩⟩⟩ := hoe
      have p0 : wr.cell? ⟨g, j * 4, none⟩ = some _ := cells_at hg hce 0 _ rfl
      have p1 : wr.cell? ⟨g, j * 4 + 1, none⟩ = some _ := cells_at hg hce 1 _ rfl
      have p2 : wr.cell? ⟨g, j * 4 + 2, none⟩ = some _ := cells_at hg hce 2 _ rfl
      have p3 : wr.cell? ⟨g, j * 4 + 3, none⟩ = some _ := cells_at hg hce 3 _ rfl
      have fz := free_of_heap hg
      have hglt := block_lt_of_heap hg
      clear hce hg how
      have HSH := Lib.hid hshut; clear hshut
      have HSP := Lib.hid hsp; clear hsp
      have hle : kk + 1 + 1 + 1 + 1 ≤ 4611686018427387904 := hle
      have HSUB := Lib.hid hsub; clear hsub
      have HU0 : Hid (Upd g (j * 4) 4 ([] ++ ([] ++ ([] ++ []))) wr wr) := Upd.refl _ _ _ _ _
      have tok1 : True := trivial
      have tok2 : True := trivial
      go_wp2_with (first | (go_at_call 36; have tk := tok1; clear tok1; refine (markText_c _ _ (kk) (by omega) (by omega) (by omega)).mono ?_; rintro e w1 ⟨rfl, hb⟩; have hz := hb.size; have c1 := fun o => bcell hb g o (by go_size); have f1 := fun o => bfroz hb g o (by go_size); have HU1 : Hid (Upd g (j * 4) 4 ([] ++ ([] ++ ([] ++ []))) wr w1) := Upd.below (by repeat (first | (with_reducible exact HU0.out) | (with_reducible refine Upd.setCell ?_ _ (by omega) _))) hb (by go_size); (try simp only [zSm] at hz); have HB1 := Lib.hid hb; clear hb) | (go_at_call 36; have tk := tok2; clear tok2; refine (markText_c _ _ (kk + 1 + 1 + 1) (by omega) (by omega) (by omega)).mono ?_; rintro e w2 ⟨rfl, hb⟩; have hz := hb.size; have c2 := fun o => bcell hb g o (by go_size); have f2 := fun o => bfroz hb g o (by go_size); have HU2 : Hid (Upd g (j * 4) 4 ([] ++ ([] ++ ([] ++ []))) wr w2) := Upd.below (by repeat (first | (with_reducible exact HU1.out) | (with_reducible refine Upd.setCell ?_ _ (by omega) _))) hb (by go_size); (try simp only [zSm] at hz); have HB2 := Lib.hid hb; clear hb))
      go_roundw
      case measure => simp [intOf]; omega
      case rel =>
        refine ⟨j + 1, by omega, by go_num, ?_, ?_, ?_⟩
        · show Value.int _ _ = _
          rw [HSP.out]
          show Value.int .i64 _ = .int .i64 ((kk + 1 + 1 + 1 + 1 : Nat) : Int)
          first | go_num | (congr 1 <;> omega)
        · show own _ _ _ _
          rw [HSP.out]
          simp only [List.append_assoc, List.singleton_append]
          refine HSH.out _ [.string (markB (kk)), .int .i64 ((kk + 1 : Nat) : Int), .int .i64 ((kk + 1 + 1 : Nat) : Int), .string (markB (kk + 1 + 1 + 1))] _ (by repeat (first | (with_reducible exact HU2.out) | (with_reducible refine Upd.setCell ?_ _ (by omega) _))) (own_pair (own_s _ (markB_size (by omega))) (own_pair (own_i _ (i64_of (kk + 1) (by omega))) (own_pair (own_i _ (i64_of (kk + 1 + 1) (by omega))) (own_s _ (markB_size (by omega))) (fun x hx hy => (List.nodup_append.1 nd1).2.2 x hx x hy rfl)) (fun x hx hy => (List.nodup_append.1 nd2).2.2 x hx x hy rfl)) (fun x hx hy => (List.nodup_append.1 nd3).2.2 x hx x hy rfl)) ?_
          intro q u hq
          match q, hq with
          | 0, hq => obtain rfl := (Option.some.inj hq); simp [go_sem, *]
          | 1, hq => obtain rfl := (Option.some.inj hq); simp [go_sem, *]
          | 2, hq => obtain rfl := (Option.some.inj hq); simp [go_sem, *]
          | 3, hq => obtain rfl := (Option.some.inj hq); simp [go_sem, *]
          | q + 4, hq => simp at hq
        exact HC.out.trans (((by repeat (first | (with_reducible exact HU2.out) | (with_reducible refine Upd.setCell ?_ _ (by omega) _))) : Upd g (j * 4) 4 ([] ++ ([] ++ ([] ++ []))) wr _).chg.mono (fun b hb => (List.mem_cons.1 hb).elim (fun e => e ▸ hgL) (HSUB.out b)))
    obtain rfl : j = l.length := by omega
    have how := HW.out; have hch := HC.out
    rw [List.take_length, List.drop_length, List.append_nil] at how
    rw [List.take_length] at *
    have HW2 := Lib.hid how; have HC2 := Lib.hid hch; clear how hch
    go_wp2
    go_ret
    exact ⟨rfl, HW2.out, HC2.out⟩
theorem markFileS_c (w : World) (v : Value) (l : List FileD) (L : List Nat) (K : Int) (k : Nat) (hK : K = k) (h1 : 1 ≤ k) (hk : (markS l k).2 ≤ 4611686018427387904) (ho : own L w [v] l) : Calls Tryz.prog 21 #[v, .int .i64 K] w (MarkR L w [v] (markS l k)) := by
  subst hK
  obtain ⟨oa, cap, rfl⟩ := slice_of_own ho
  have hlm : l.length ≤ 9223372036854775807 := len_of_own ho
  have HO := Lib.hid ho; clear ho
  go_enter Tryz.func21, Tryz.ntmps21
  go_wp2
  go_loopw [1, 5] (mI L w oa cap l k) (fun _ i _ => l.length - (intOf i).toNat)
  case atStart => exact ⟨0, Nat.zero_le _, rfl, rfl, HO.out, Chg.refl _ _⟩
  case round =>
    obtain ⟨j, hj, rfl, rfl, HW, HC⟩ := hrel
    by_cases hjl : j < l.length
    · have hx := List.getElem?_eq_getElem hjl
      have hsp := mark_split l k j _ hx
      have hle := Nat.le_trans (mark_take_le l k j _ hx) hk
      have hdr := List.drop_eq_getElem_cons hjl
      have hxl := mkLn hjl k
      have hkk : k ≤ (markS (l.take j) k).2 := markS_le _ _
      have how := HW.out
      rw [hdr] at how
      clear hx hdr HW
      generalize (markS (l.take j) k).2 = kk at *
      generalize (markS (l.take j) k).1 = xs at *
      generalize l[j] = x at *
      obtain ⟨g, cap', cur, e, Li, hv, hg, hroom, hgLi, hgL, hsub, hoe, hshut⟩ := own_open how
      simp only [Value.slice.injEq] at hv
      obtain ⟨rfl, hq0, rfl⟩ := hv
      clear hq0
      rw [hxl] at hroom hoe hshut
      clear hxl
      rw [show GoD.n FileD = 5 from rfl] at hroom hoe hshut
      generalize hce : (cur.toList.drop (j * 5)).take 5 = ce at *
      obtain ⟨v0, v1, v2, v3, v4⟩ := x
      obtain ⟨nd4, _, _, _, _, rfl, rfl, ⟨rfl, rfl, h0⟩, ⟨nd3, _, _, _, _, rfl, rfl, ⟨rfl, rfl, h1⟩, ⟨nd2, _, _, _, _, rfl, rfl, ⟨rfl, rfl⟩, ⟨nd1, _, _, _, SL4, rfl, rfl, ⟨rfl, rfl, h3⟩, so4⟩⟩⟩⟩ := hoe
      obtain ⟨sv4, rfl⟩ := len1 (show _ = 1 from GoD.rd_len (GoD.own_rd so4))
      obtain ⟨oa4, cp4, rfl⟩ := slice_of_own so4
      have p0 : wr.cell? ⟨g, j * 5, none⟩ = some _ := cells_at hg hce 0 _ rfl
      have p1 : wr.cell? ⟨g, j * 5 + 1, none⟩ = some _ := cells_at hg hce 1 _ rfl
      have p2 : wr.cell? ⟨g, j * 5 + 2, none⟩ = some _ := cells_at hg hce 2 _ rfl
      have p3 : wr.cell? ⟨g, j * 5 + 3, none⟩ = some _ := cells_at hg hce 3 _ rfl
      have p4 : wr.cell? ⟨g, j * 5 + 4, none⟩ = some _ := cells_at hg hce 4 _ rfl
      have fz := free_of_heap hg
      have hglt := block_lt_of_heap hg
      clear hce hg how
      have HSH := Lib.hid hshut; clear hshut
      have HSP := Lib.hid hsp; clear hsp
      have hle : (markS v4 (kk + 1 + 1 + 1 + 1)).2 ≤ 4611686018427387904 := hle
      have hb2 := mod3_eq (kk + 1 + 1) _ (show ((kk : Int) + 1 + 1 : Int) = ((kk + 1 + 1 : Nat) : Int) by omega)
      have hm4 : kk + 1 + 1 + 1 + 1 ≤ (markS v4 (kk + 1 + 1 + 1 + 1)).2 := markS_le _ _
      have HSO4 := Lib.hid so4; clear so4
      have HSUB := Lib.hid hsub; clear hsub
      have HU0 : Hid (Upd g (j * 5) 5 ([] ++ ([] ++ ([] ++ ([] ++ SL4)))) wr wr) := Upd.refl _ _ _ _ _
      have tok1 : True := trivial
      go_wp2_with (first | (go_at_call 37; have tk := tok1; clear tok1; refine call_mark (markAttrS_c _ _ v4 SL4 _ (kk + 1 + 1 + 1 + 1) (by omega) (by omega) (by omega) (by repeat (first | (with_reducible exact HSO4.out) | (refine own_setCell ?_ (fun hm => hgLi (List.mem_append.2 (.inr (List.mem_append.2 (.inr (List.mem_append.2 (.inr (List.mem_append.2 (.inr hm)))))))))) ))) ?_; intro w1 ho1 hch hz; have c1 := fun o => hch.cell (b := g) (by go_size) (fun hm => hgLi (List.mem_append.2 (.inr (List.mem_append.2 (.inr (List.mem_append.2 (.inr (List.mem_append.2 (.inr hm))))))))) o; have f1 := fun o => hch.frozen (b := g) (by go_size) (fun hm => hgLi (List.mem_append.2 (.inr (List.mem_append.2 (.inr (List.mem_append.2 (.inr (List.mem_append.2 (.inr hm))))))))) o; have HU1 : Hid (Upd g (j * 5) 5 ([] ++ ([] ++ ([] ++ ([] ++ SL4)))) wr w1) := Upd.mark (by repeat (first | (with_reducible exact HU0.out) | (with_reducible refine Upd.setCell ?_ _ (by omega) _))) hch (fun b hm => (List.mem_append.2 (.inr (List.mem_append.2 (.inr (List.mem_append.2 (.inr (List.mem_append.2 (.inr hm))))))))) (fun hm => hgLi (List.mem_append.2 (.inr (List.mem_append.2 (.inr (List.mem_append.2 (.inr (List.mem_append.2 (.inr hm))))))))) (by go_size); (try simp only [zSm] at hz); have HB1 := Lib.hid hch; clear hch; have HM1 := Lib.hid ho1; clear ho1))
      go_roundw
      case measure => simp [intOf]; omega
      case rel =>
        refine ⟨j + 1, by omega, by go_num, ?_, ?_, ?_⟩
        · show Value.int _ _ = _
          rw [HSP.out]
          show Value.int .i64 _ = .int .i64 (((markS v4 (kk + 1 + 1 + 1 + 1)).2 : Nat) : Int)
          first | go_num | (congr 1 <;> omega)
        · show own _ _ _ _
          rw [HSP.out]
          simp only [List.append_assoc, List.singleton_append]
          refine HSH.out _ [.int .i64 ((kk : Nat) : Int), .int .i64 ((kk + 1 : Nat) : Int), .bool ((kk + 1 + 1) % 3 == 0), .int .i64 ((kk + 1 + 1 + 1 : Nat) : Int), .slice oa4 v4.length cp4] _ (by repeat (first | (with_reducible exact HU1.out) | (with_reducible refine Upd.setCell ?_ _ (by omega) _))) (own_pair (own_i _ (i64_of (kk) (by omega))) (own_pair (own_i _ (i64_of (kk + 1) (by omega))) (own_pair (own_b _ _) (own_pair (own_i _ (i64_of (kk + 1 + 1 + 1) (by omega))) (show own SL4 _ [.slice oa4 v4.length cp4] (markS v4 (kk + 1 + 1 + 1 + 1)).1 by repeat (first | (with_reducible exact HM1.out) | (refine own_setCell ?_ (fun hm => hgLi (List.mem_append.2 (.inr (List.mem_append.2 (.inr (List.mem_append.2 (.inr (List.mem_append.2 (.inr hm)))))))))) )) (fun x hx hy => (List.nodup_append.1 nd1).2.2 x hx x hy rfl)) (fun x hx hy => (List.nodup_append.1 nd2).2.2 x hx x hy rfl)) (fun x hx hy => (List.nodup_append.1 nd3).2.2 x hx x hy rfl)) (fun x hx hy => (List.nodup_append.1 nd4).2.2 x hx x hy rfl)) ?_
          intro q u hq
          match q, hq with
          | 0, hq => obtain rfl := (Option.some.inj hq); simp [go_sem, *]
          | 1, hq => obtain rfl := (Option.some.inj hq); simp [go_sem, *]
          | 2, hq => obtain rfl := (Option.some.inj hq); simp [go_sem, *]
          | 3, hq => obtain rfl := (Option.some.inj hq); simp [go_sem, *]
          | 4, hq => obtain rfl := (Option.some.inj hq); simp [go_sem, *]
          | q + 5, hq => simp at hq
        exact HC.out.trans (((by repeat (first | (with_reducible exact HU1.out) | (with_reducible refine Upd.setCell ?_ _ (by omega) _))) : Upd g (j * 5) 5 ([] ++ ([] ++ ([] ++ ([] ++ SL4)))) wr _).chg.mono (fun b hb => (List.mem_cons.1 hb).elim (fun e => e ▸ hgL) (HSUB.out b)))
    obtain rfl : j = l.length := by omega
    have how := HW.out; have hch := HC.out
    rw [List.take_length, List.drop_length, List.append_nil] at how
    rw [List.take_length] at *
    have HW2 := Lib.hid how; have HC2 := Lib.hid hch; clear how hch
    go_wp2
    go_ret
    exact ⟨rfl, HW2.out, HC2.out⟩
theorem markNodeS_c (w : World) (v : Value) (l : List NodeD) (L : List Nat) (K : Int) (k : Nat) (hK : K = k) (h1 : 1 ≤ k) (hk : (markS l k).2 ≤ 4611686018427387904) (ho : own L w [v] l) : Calls Tryz.prog 38 #[v, .int .i64 K] w (MarkR L w [v] (markS l k)) := by
  subst hK
  obtain ⟨oa, cap, rfl⟩ := slice_of_own ho
  have hlm : l.length ≤ 9223372036854775807 := len_of_own ho
  have HO := Lib.hid ho; clear ho
  go_enter Tryz.func38, Tryz.ntmps38
  go_wp2
  go_loopw [1, 5] (mI L w oa cap l k) (fun _ i _ => l.length - (intOf i).toNat)
  case atStart => exact ⟨0, Nat.zero_le _, rfl, rfl, HO.out, Chg.refl _ _⟩
  case round =>
    obtain ⟨j, hj, rfl, rfl, HW, HC⟩ := hrel
    by_cases hjl : j < l.length
    · have hx := List.getElem?_eq_getElem hjl
      have hsp := mark_split l k j _ hx
      have hle := Nat.le_trans (mark_take_le l k j _ hx) hk
      have hdr := List.drop_eq_getElem_cons hjl
      have hxl := mkLn hjl k
      have hkk : k ≤ (markS (l.take j) k).2 := markS_le _ _
      have how := HW.out
      rw [hdr] at how
      clear hx hdr HW
      generalize (markS (l.take j) k).2 = kk at *
      generalize (markS (l.take j) k).1 = xs at *
      generalize l[j] = x at *
      obtain ⟨g, cap', cur, e, Li, hv, hg, hroom, hgLi, hgL, hsub, hoe, hshut⟩ := own_open how
      simp only [Value.slice.injEq] at hv
      obtain ⟨rfl, hq0, rfl⟩ := hv
      clear hq0
      rw [hxl] at hroom hoe hshut
      clear hxl
      rw [show GoD.n NodeD = 7 from rfl] at hroom hoe hshut
      generalize hce : (cur.toList.drop (j * 7)).take 7 = ce at *
      obtain ⟨v0, v1, v2, v3, ⟨v4, v5, v6⟩⟩ := x
      obtain ⟨nd6, _, _, _, _, rfl, rfl, ⟨rfl, rfl, h0⟩, ⟨nd5, _, _, _, _, rfl, rfl, ⟨rfl, rfl, h1⟩, ⟨nd4, _, _, _, _, rfl, rfl, ⟨rfl, rfl, h2⟩, ⟨nd3, _, _, _, _, rfl, rfl, ⟨rfl, rfl, h3⟩, ⟨nd2, _, _, _, _, rfl, rfl, ⟨rfl, rfl, h4⟩, ⟨nd1, _, _, _, _, rfl, rfl, ⟨rfl, rfl, h5⟩, ⟨rfl, rfl, h6⟩⟩⟩⟩⟩⟩⟩ := hoe
      have p0 : wr.cell? ⟨g, j * 7, none⟩ = some _ := cells_at hg hce 0 _ rfl
      have p1 : wr.cell? ⟨g, j * 7 + 1, none⟩ = some _ := cells_at hg hce 1 _ rfl
      have p2 : wr.cell? ⟨g, j * 7 + 2, none⟩ = some _ := cells_at hg hce 2 _ rfl
      have p3 : wr.cell? ⟨g, j * 7 + 3, none⟩ = some _ := cells_at hg hce 3 _ rfl
      have p4 : wr.cell? ⟨g, j * 7 + 4, none⟩ = some _ := cells_at hg hce 4 _ rfl
      have p5 : wr.cell? ⟨g, j * 7 + 5, none⟩ = some _ := cells_at hg hce 5 _ rfl
      have p6 : wr.cell? ⟨g, j * 7 + 6, none⟩ = some _ := cells_at hg hce 6 _ rfl
      have fz := free_of_heap hg
      have hglt := block_lt_of_heap hg
      clear hce hg how
      have HSH := Lib.hid hshut; clear hshut
      have HSP := Lib.hid hsp; clear hsp
      have hle : kk + 1 + 1 + 1 + 1 + 1 + 1 + 1 ≤ 4611686018427387904 := hle
      have HSUB := Lib.hid hsub; clear hsub
      have HU0 : Hid (Upd g (j * 7) 7 ([] ++ ([] ++ ([] ++ ([] ++ ([] ++ ([] ++ [])))))) wr wr) := Upd.refl _ _ _ _ _
      have tok1 : True := trivial
      have tok2 : True := trivial
      go_wp2_with (first | (go_at_call 36; have tk := tok1; clear tok1; refine (markText_c _ _ (kk + 1 + 1 + 1) (by omega) (by omega) (by omega)).mono ?_; rintro e w1 ⟨rfl, hb⟩; have hz := hb.size; have c1 := fun o => bcell hb g o (by go_size); have f1 := fun o => bfroz hb g o (by go_size); have HU1 : Hid (Upd g (j * 7) 7 ([] ++ ([] ++ ([] ++ ([] ++ ([] ++ ([] ++ [])))))) wr w1) := Upd.below (by repeat (first | (with_reducible exact HU0.out) | (with_reducible refine Upd.setCell ?_ _ (by omega) _))) hb (by go_size); (try simp only [zSm] at hz); have HB1 := Lib.hid hb; clear hb) | (go_at_call 36; have tk := tok2; clear tok2; refine (markText_c _ _ (kk + 1 + 1 + 1 + 1 + 1 + 1) (by omega) (by omega) (by omega)).mono ?_; rintro e w2 ⟨rfl, hb⟩; have hz := hb.size; have c2 := fun o => bcell hb g o (by go_size); have f2 := fun o => bfroz hb g o (by go_size); have HU2 : Hid (Upd g (j * 7) 7 ([] ++ ([] ++ ([] ++ ([] ++ ([] ++ ([] ++ [])))))) wr w2) := Upd.below (by repeat (first | (with_reducible exact HU1.out) | (with_reducible refine Upd.setCell ?_ _ (by omega) _))) hb (by go_size); (try simp only [zSm] at hz); have HB2 := Lib.hid hb; clear hb))
      go_roundw
      case measure => simp [intOf]; omega
      case rel =>
        refine ⟨j + 1, by omega, by go_num, ?_, ?_, ?_⟩
        · show Value.int _ _ = _
          rw [HSP.out]
          show Value.int .i64 _ = .int .i64 ((kk + 1 + 1 + 1 + 1 + 1 + 1 + 1 : Nat) : Int)
          first | go_num | (congr 1 <;> omega)
        · show own _ _ _ _
          rw [HSP.out]
          simp only [List.append_assoc, List.singleton_append]
          refine HSH.out _ [.int .i64 ((kk : Nat) : Int), .int .i64 ((kk + 1 : Nat) : Int), .int .i64 ((kk + 1 + 1 : Nat) : Int), .string (markB (kk + 1 + 1 + 1)), .int .i64 ((kk + 1 + 1 + 1 + 1 : Nat) : Int), .int .i64 ((kk + 1 + 1 + 1 + 1 + 1 : Nat) : Int), .string (markB (kk + 1 + 1 + 1 + 1 + 1 + 1))] _ (by repeat (first | (with_reducible exact HU2.out) | (with_reducible refine Upd.setCell ?_ _ (by omega) _))) (own_pair (own_i _ (i64_of (kk) (by omega))) (own_pair (own_i _ (i64_of (kk + 1) (by omega))) (own_pair (own_i _ (i64_of (kk + 1 + 1) (by omega))) (own_pair (own_s _ (markB_size (by omega))) (own_pair (own_i _ (i64_of (kk + 1 + 1 + 1 + 1) (by omega))) (own_pair (own_i _ (i64_of (kk + 1 + 1 + 1 + 1 + 1) (by omega))) (own_s _ (markB_size (by omega))) (fun x hx hy => (List.nodup_append.1 nd1).2.2 x hx x hy rfl)) (fun x hx hy => (List.nodup_append.1 nd2).2.2 x hx x hy rfl)) (fun x hx hy => (List.nodup_append.1 nd3).2.2 x hx x hy rfl)) (fun x hx hy => (List.nodup_append.1 nd4).2.2 x hx x hy rfl)) (fun x hx hy => (List.nodup_append.1 nd5).2.2 x hx x hy rfl)) (fun x hx hy => (List.nodup_append.1 nd6).2.2 x hx x hy rfl)) ?_
          intro q u hq
          match q, hq with
          | 0, hq => obtain rfl := (Option.some.inj hq); simp [go_sem, *]
          | 1, hq => obtain rfl := (Option.some.inj hq); simp [go_sem, *]
          | 2, hq => obtain rfl := (Option.some.inj hq); simp [go_sem, *]
          | 3, hq => obtain rfl := (Option.some.inj hq); simp [go_sem, *]
          | 4, hq => obtain rfl := (Option.some.inj hq); simp [go_sem, *]
          | 5, hq => obtain rfl := (Option.some.inj hq); simp [go_sem, *]
          | 6, hq => obtain rfl := (Option.some.inj hq); simp [go_sem, *]
          | q + 7, hq => simp at hq
        exact HC.out.trans (((by repeat (first | (with_reducible exact HU2.out) | (with_reducible refine Upd.setCell ?_ _ (by omega) _))) : Upd g (j * 7) 7 ([] ++ ([] ++ ([] ++ ([] ++ ([] ++ ([] ++ [])))))) wr _).chg.mono (fun b hb => (List.mem_cons.1 hb).elim (fun e => e ▸ hgL) (HSUB.out b)))
    obtain rfl : j = l.length := by omega
    have how := HW.out; have hch := HC.out
    rw [List.take_length, List.drop_length, List.append_nil] at how
    rw [List.take_length] at *
    have HW2 := Lib.hid how; have HC2 := Lib.hid hch; clear how hch
    go_wp2
    go_ret
    exact ⟨rfl, HW2.out, HC2.out⟩
theorem markDirS_c (w : World) (v : Value) (l : List DirD) (L : List Nat) (K : Int) (k : Nat) (hK : K = k) (h1 : 1 ≤ k) (hk : (markS l k).2 ≤ 4611686018427387904) (ho : own L w [v] l) : Calls Tryz.prog 22 #[v, .int .i64 K] w (MarkR L w [v] (markS l k)) := by
  subst hK
  obtain ⟨oa, cap, rfl⟩ := slice_of_own ho
  have hlm : l.length ≤ 9223372036854775807 := len_of_own ho
  have HO := Lib.hid ho; clear ho
  go_enter Tryz.func22, Tryz.ntmps22
  go_wp2
  go_loopw [1, 5] (mI L w oa cap l k) (fun _ i _ => l.length - (intOf i).toNat)
  case atStart => exact ⟨0, Nat.zero_le _, rfl, rfl, HO.out, Chg.refl _ _⟩
  case round =>
    obtain ⟨j, hj, rfl, rfl, HW, HC⟩ := hrel
    by_cases hjl : j < l.length
    · have hx := List.getElem?_eq_getElem hjl
      have hsp := mark_split l k j _ hx
      have hle := Nat.le_trans (mark_take_le l k j _ hx) hk
      have hdr := List.drop_eq_getElem_cons hjl
      have hxl := mkLn hjl k
      have hkk : k ≤ (markS (l.take j) k).2 := markS_le _ _
      have how := HW.out
      rw [hdr] at how
      clear hx hdr HW
      generalize (markS (l.take j) k).2 = kk at *
      generalize (markS (l.take j) k).1 = xs at *
      generalize l[j] = x at *
      obtain ⟨g, cap', cur, e, Li, hv, hg, hroom, hgLi, hgL, hsub, hoe, hshut⟩ := own_open how
      simp only [Value.slice.injEq] at hv
      obtain ⟨rfl, hq0, rfl⟩ := hv
      clear hq0
      rw [hxl] at hroom hoe hshut
      clear hxl
      rw [show GoD.n DirD = 2 from rfl] at hroom hoe hshut
      generalize hce : (cur.toList.drop (j * 2)).take 2 = ce at *
      obtain ⟨v0, v1⟩ := x
      obtain ⟨nd1, _, _, _, SL1, rfl, rfl, ⟨rfl, rfl, h0⟩, so1⟩ := hoe
      obtain ⟨sv1, rfl⟩ := len1 (show _ = 1 from GoD.rd_len (GoD.own_rd so1))
      obtain ⟨oa1, cp1, rfl⟩ := slice_of_own so1
      have p0 : wr.cell? ⟨g, j * 2, none⟩ = some _ := cells_at hg hce 0 _ rfl
      have p1 : wr.cell? ⟨g, j * 2 + 1, none⟩ = some _ := cells_at hg hce 1 _ rfl
      have fz := free_of_heap hg
      have hglt := block_lt_of_heap hg
      clear hce hg how
      have HSH := Lib.hid hshut; clear hshut
      have HSP := Lib.hid hsp; clear hsp
      have hle : (markS v1 (kk + 1)).2 ≤ 4611686018427387904 := hle
      have hm1 : kk + 1 ≤ (markS v1 (kk + 1)).2 := markS_le _ _
      have HSO1 := Lib.hid so1; clear so1
      have HSUB := Lib.hid hsub; clear hsub
      have HU0 : Hid (Upd g (j * 2) 2 ([] ++ SL1) wr wr) := Upd.refl _ _ _ _ _
      have tok1 : True := trivial
      have tok2 : True := trivial
      go_wp2_with (first | (go_at_call 36; have tk := tok1; clear tok1; refine (markText_c _ _ (kk) (by omega) (by omega) (by omega)).mono ?_; rintro e w1 ⟨rfl, hb⟩; have hz := hb.size; have c1 := fun o => bcell hb g o (by go_size); have f1 := fun o => bfroz hb g o (by go_size); have HU1 : Hid (Upd g (j * 2) 2 ([] ++ SL1) wr w1) := Upd.below (by repeat (first | (with_reducible exact HU0.out) | (with_reducible refine Upd.setCell ?_ _ (by omega) _))) hb (by go_size); (try simp only [zSm] at hz); have HB1 := Lib.hid hb; clear hb) | (go_at_call 38; have tk := tok2; clear tok2; refine call_mark (markNodeS_c _ _ v1 SL1 _ (kk + 1) (by omega) (by omega) (by omega) (by repeat (first | (with_reducible exact HSO1.out) | (refine own_setCell ?_ (fun hm => hgLi (List.mem_append.2 (.inr hm)))) | (with_reducible refine own_below ?_ HB1.out)))) ?_; intro w2 ho2 hch hz; have c2 := fun o => hch.cell (b := g) (by go_size) (fun hm => hgLi (List.mem_append.2 (.inr hm))) o; have f2 := fun o => hch.frozen (b := g) (by go_size) (fun hm => hgLi (List.mem_append.2 (.inr hm))) o; have HU2 : Hid (Upd g (j * 2) 2 ([] ++ SL1) wr w2) := Upd.mark (by repeat (first | (with_reducible exact HU1.out) | (with_reducible refine Upd.setCell ?_ _ (by omega) _))) hch (fun b hm => (List.mem_append.2 (.inr hm))) (fun hm => hgLi (List.mem_append.2 (.inr hm))) (by go_size); (try simp only [zSm] at hz); have HB2 := Lib.hid hch; clear hch; have HM2 := Lib.hid ho2; clear ho2))
      go_roundw
      case measure => simp [intOf]; omega
      case rel =>
        refine ⟨j + 1, by omega, by go_num, ?_, ?_, ?_⟩
        · show Value.int _ _ = _
          rw [HSP.out]
          show Value.int .i64 _ = .int .i64 (((markS v1 (kk + 1)).2 : Nat) : Int)
          first | go_num | (congr 1 <;> omega)
        · show own _ _ _ _
          rw [HSP.out]
          simp only [List.append_assoc, List.singleton_append]
          refine HSH.out _ [.string (markB (kk)), .slice oa1 v1.length cp1] _ (by repeat (first | (with_reducible exact HU2.out) | (with_reducible refine Upd.setCell ?_ _ (by omega) _))) (own_pair (own_s _ (markB_size (by omega))) (show own SL1 _ [.slice oa1 v1.length cp1] (markS v1 (kk + 1)).1 by repeat (first | (with_reducible exact HM2.out) | (refine own_setCell ?_ (fun hm => hgLi (List.mem_append.2 (.inr hm)))) )) (fun x hx hy => (List.nodup_append.1 nd1).2.2 x hx x hy rfl)) ?_
          intro q u hq
          match q, hq with
          | 0, hq => obtain rfl := (Option.some.inj hq); simp [go_sem, *]
          | 1, hq => obtain rfl := (Option.some.inj hq); simp [go_sem, *]
          | q + 2, hq => simp at hq
        exact HC.out.trans (((by repeat (first | (with_reducible exact HU2.out) | (with_reducible refine Upd.setCell ?_ _ (by omega) _))) : Upd g (j * 2) 2 ([] ++ SL1) wr _).chg.mono (fun b hb => (List.mem_cons.1 hb).elim (fun e => e ▸ hgL) (HSUB.out b)))
    obtain rfl : j = l.length := by omega
    have how := HW.out; have hch := HC.out
    rw [List.take_length, List.drop_length, List.append_nil] at how
    rw [List.take_length] at *
    have HW2 := Lib.hid how; have HC2 := Lib.hid hch; clear how hch
    go_wp2
    go_ret
    exact ⟨rfl, HW2.out, HC2.out⟩
theorem markVersionS_c (w : World) (v : Value) (l : List VersionD) (L : List Nat) (K : Int) (k : Nat) (hK : K = k) (h1 : 1 ≤ k) (hk : (markS l k).2 ≤ 4611686018427387904) (ho : own L w [v] l) : Calls Tryz.prog 9 #[v, .int .i64 K] w (MarkR L w [v] (markS l k)) := by
  subst hK
  obtain ⟨oa, cap, rfl⟩ := slice_of_own ho
  have hlm : l.length ≤ 9223372036854775807 := len_of_own ho
  have HO := Lib.hid ho; clear ho
  go_enter Tryz.func9, Tryz.ntmps9
  go_wp2
  go_loopw [1, 5] (mI L w oa cap l k) (fun _ i _ => l.length - (intOf i).toNat)
  case atStart => exact ⟨0, Nat.zero_le _, rfl, rfl, HO.out, Chg.refl _ _⟩
  case round =>
    obtain ⟨j, hj, rfl, rfl, HW, HC⟩ := hrel
    by_cases hjl : j < l.length
    · have hx := List.getElem?_eq_getElem hjl
      have hsp := mark_split l k j _ hx
      have hle := Nat.le_trans (mark_take_le l k j _ hx) hk
      have hdr := List.drop_eq_getElem_cons hjl
      have hxl := mkLn hjl k
      have hkk : k ≤ (markS (l.take j) k).2 := markS_le _ _
      have how := HW.out
      rw [hdr] at how
      clear hx hdr HW
      generalize (markS (l.take j) k).2 = kk at *
      generalize (markS (l.take j) k).1 = xs at *
      generalize l[j] = x at *
      obtain ⟨g, cap', cur, e, Li, hv, hg, hroom, hgLi, hgL, hsub, hoe, hshut⟩ := own_open how
      simp only [Value.slice.injEq] at hv
      obtain ⟨rfl, hq0, rfl⟩ := hv
      clear hq0
      rw [hxl] at hroom hoe hshut
      clear hxl
      rw [show GoD.n VersionD = 6 from rfl] at hroom hoe hshut
      generalize hce : (cur.toList.drop (j * 6)).take 6 = ce at *
      obtain ⟨v0, ⟨⟨v1, v2, v3⟩, v4⟩, v5⟩ := x
      obtain ⟨nd5, _, _, _, _, rfl, rfl, ⟨rfl, rfl, h0⟩, ⟨nd4, _, _, _, _, rfl, rfl, ⟨nd3, _, _, _, SL4, rfl, rfl, ⟨nd2, _, _, SL1, _, rfl, rfl, so1, ⟨nd1, _, _, SL2, _, rfl, rfl, so2, ⟨rfl, rfl, h3⟩⟩⟩, so4⟩, ⟨rfl, rfl, h5⟩⟩⟩ := hoe
      obtain ⟨sv1, rfl⟩ := len1 (show _ = 1 from GoD.rd_len (GoD.own_rd so1))
      obtain ⟨oa1, cp1, rfl⟩ := slice_of_own so1
      obtain ⟨sv2, rfl⟩ := len1 (show _ = 1 from GoD.rd_len (GoD.own_rd so2))
      obtain ⟨oa2, cp2, rfl⟩ := slice_of_own so2
      obtain ⟨sv4, rfl⟩ := len1 (show _ = 1 from GoD.rd_len (GoD.own_rd so4))
      obtain ⟨oa4, cp4, rfl⟩ := slice_of_own so4
      have p0 : wr.cell? ⟨g, j * 6, none⟩ = some _ := cells_at hg hce 0 _ rfl
      have p1 : wr.cell? ⟨g, j * 6 + 1, none⟩ = some _ := cells_at hg hce 1 _ rfl
      have p2 : wr.cell? ⟨g, j * 6 + 2, none⟩ = some _ := cells_at hg hce 2 _ rfl
      have p3 : wr.cell? ⟨g, j * 6 + 3, none⟩ = some _ := cells_at hg hce 3 _ rfl
      have p4 : wr.cell? ⟨g, j * 6 + 4, none⟩ = some _ := cells_at hg hce 4 _ rfl
      have p5 : wr.cell? ⟨g, j * 6 + 5, none⟩ = some _ := cells_at hg hce 5 _ rfl
      have fz := free_of_heap hg
      have hglt := block_lt_of_heap hg
      clear hce hg how
      have HSH := Lib.hid hshut; clear hshut
      have HSP := Lib.hid hsp; clear hsp
      have hle : (markS v4 ((markS v2 ((markS v1 (kk + 1)).2)).2 + 1)).2 + 1 ≤ 4611686018427387904 := hle
      have hm1 : kk + 1 ≤ (markS v1 (kk + 1)).2 := markS_le _ _
      have hm2 : (markS v1 (kk + 1)).2 ≤ (markS v2 ((markS v1 (kk + 1)).2)).2 := markS_le _ _
      have hm4 : (markS v2 ((markS v1 (kk + 1)).2)).2 + 1 ≤ (markS v4 ((markS v2 ((markS v1 (kk + 1)).2)).2 + 1)).2 := markS_le _ _
      have HSO1 := Lib.hid so1; clear so1
      have HSO2 := Lib.hid so2; clear so2
      have HSO4 := Lib.hid so4; clear so4
      have HSUB := Lib.hid hsub; clear hsub
      have HU0 : Hid (Upd g (j * 6) 6 ([] ++ (((SL1 ++ (SL2 ++ [])) ++ SL4) ++ [])) wr wr) := Upd.refl _ _ _ _ _
      have tok1 : True := trivial
      have tok2 : True := trivial
      have tok3 : True := trivial
      go_wp2_with (first | (go_at_call 20; have tk := tok1; clear tok1; refine call_mark (markFieldS_c _ _ v1 SL1 _ (kk + 1) (by omega) (by omega) (by omega) (by repeat (first | (with_reducible exact HSO1.out) | (refine own_setCell ?_ (fun hm => hgLi (List.mem_append.2 (.inr (List.mem_append.2 (.inl (List.mem_append.2 (.inl (List.mem_append.2 (.inl hm)))))))))) ))) ?_; intro w1 ho1 hch hz; have c1 := fun o => hch.cell (b := g) (by go_size) (fun hm => hgLi (List.mem_append.2 (.inr (List.mem_append.2 (.inl (List.mem_append.2 (.inl (List.mem_append.2 (.inl hm))))))))) o; have f1 := fun o => hch.frozen (b := g) (by go_size) (fun hm => hgLi (List.mem_append.2 (.inr (List.mem_append.2 (.inl (List.mem_append.2 (.inl (List.mem_append.2 (.inl hm))))))))) o; have HU1 : Hid (Upd g (j * 6) 6 ([] ++ (((SL1 ++ (SL2 ++ [])) ++ SL4) ++ [])) wr w1) := Upd.mark (by repeat (first | (with_reducible exact HU0.out) | (with_reducible refine Upd.setCell ?_ _ (by omega) _))) hch (fun b hm => (List.mem_append.2 (.inr (List.mem_append.2 (.inl (List.mem_append.2 (.inl (List.mem_append.2 (.inl hm))))))))) (fun hm => hgLi (List.mem_append.2 (.inr (List.mem_append.2 (.inl (List.mem_append.2 (.inl (List.mem_append.2 (.inl hm))))))))) (by go_size); (try simp only [zSm] at hz); have HB1 := Lib.hid hch; clear hch; have HM1 := Lib.hid ho1; clear ho1) | (go_at_call 21; have tk := tok2; clear tok2; refine call_mark (markFileS_c _ _ v2 SL2 _ ((markS v1 (kk + 1)).2) (by omega) (by omega) (by omega) (by repeat (first | (with_reducible exact HSO2.out) | (refine own_setCell ?_ (fun hm => hgLi (List.mem_append.2 (.inr (List.mem_append.2 (.inl (List.mem_append.2 (.inl (List.mem_append.2 (.inr (List.mem_append.2 (.inl hm)))))))))))) | (refine own_chg ?_ HB1.out (fun b hb1 hb2 => (List.nodup_append.1 nd2).2.2 _ hb2 _ (List.mem_append.2 (.inl hb1)) rfl))))) ?_; intro w2 ho2 hch hz; have c2 := fun o => hch.cell (b := g) (by go_size) (fun hm => hgLi (List.mem_append.2 (.inr (List.mem_append.2 (.inl (List.mem_append.2 (.inl (List.mem_append.2 (.inr (List.mem_append.2 (.inl hm))))))))))) o; have f2 := fun o => hch.frozen (b := g) (by go_size) (fun hm => hgLi (List.mem_append.2 (.inr (List.mem_append.2 (.inl (List.mem_append.2 (.inl (List.mem_append.2 (.inr (List.mem_append.2 (.inl hm))))))))))) o; have HU2 : Hid (Upd g (j * 6) 6 ([] ++ (((SL1 ++ (SL2 ++ [])) ++ SL4) ++ [])) wr w2) := Upd.mark (by repeat (first | (with_reducible exact HU1.out) | (with_reducible refine Upd.setCell ?_ _ (by omega) _))) hch (fun b hm => (List.mem_append.2 (.inr (List.mem_append.2 (.inl (List.mem_append.2 (.inl (List.mem_append.2 (.inr (List.mem_append.2 (.inl hm))))))))))) (fun hm => hgLi (List.mem_append.2 (.inr (List.mem_append.2 (.inl (List.mem_append.2 (.inl (List.mem_append.2 (.inr (List.mem_append.2 (.inl hm))))))))))) (by go_size); (try simp only [zSm] at hz); have HB2 := Lib.hid hch; clear hch; have HM2 := Lib.hid ho2; clear ho2) | (go_at_call 22; have tk := tok3; clear tok3; refine call_mark (markDirS_c _ _ v4 SL4 _ ((markS v2 ((markS v1 (kk + 1)).2)).2 + 1) (by omega) (by omega) (by omega) (by repeat (first | (with_reducible exact HSO4.out) | (refine own_setCell ?_ (fun hm => hgLi (List.mem_append.2 (.inr (List.mem_append.2 (.inl (List.mem_append.2 (.inr hm)))))))) | (refine own_chg ?_ HB2.out (fun b hb1 hb2 => (List.nodup_append.1 nd3).2.2 _ (List.mem_append.2 (.inr (List.mem_append.2 (.inl hb2)))) _ hb1 rfl)) | (refine own_chg ?_ HB1.out (fun b hb1 hb2 => (List.nodup_append.1 nd3).2.2 _ (List.mem_append.2 (.inl hb2)) _ hb1 rfl))))) ?_; intro w3 ho3 hch hz; have c3 := fun o => hch.cell (b := g) (by go_size) (fun hm => hgLi (List.mem_append.2 (.inr (List.mem_append.2 (.inl (List.mem_append.2 (.inr hm))))))) o; have f3 := fun o => hch.frozen (b := g) (by go_size) (fun hm => hgLi (List.mem_append.2 (.inr (List.mem_append.2 (.inl (List.mem_append.2 (.inr hm))))))) o; have HU3 : Hid (Upd g (j * 6) 6 ([] ++ (((SL1 ++ (SL2 ++ [])) ++ SL4) ++ [])) wr w3) := Upd.mark (by repeat (first | (with_reducible exact HU2.out) | (with_reducible refine Upd.setCell ?_ _ (by omega) _))) hch (fun b hm => (List.mem_append.2 (.inr (List.mem_append.2 (.inl (List.mem_append.2 (.inr hm))))))) (fun hm => hgLi (List.mem_append.2 (.inr (List.mem_append.2 (.inl (List.mem_append.2 (.inr hm))))))) (by go_size); (try simp only [zSm] at hz); have HB3 := Lib.hid hch; clear hch; have HM3 := Lib.hid ho3; clear ho3))
      go_roundw
      case measure => simp [intOf]; omega
      case rel =>
        refine ⟨j + 1, by omega, by go_num, ?_, ?_, ?_⟩
        · show Value.int _ _ = _
          rw [HSP.out]
          show Value.int .i64 _ = .int .i64 (((markS v4 ((markS v2 ((markS v1 (kk + 1)).2)).2 + 1)).2 + 1 : Nat) : Int)
          first | go_num | (congr 1 <;> omega)
        · show own _ _ _ _
          rw [HSP.out]
          simp only [List.append_assoc, List.singleton_append]
          refine HSH.out _ [.int .i64 ((kk : Nat) : Int), .slice oa1 v1.length cp1, .slice oa2 v2.length cp2, .int .i64 (((markS v2 ((markS v1 (kk + 1)).2)).2 : Nat) : Int), .slice oa4 v4.length cp4, .int .i64 (((markS v4 ((markS v2 ((markS v1 (kk + 1)).2)).2 + 1)).2 : Nat) : Int)] _ (by repeat (first | (with_reducible exact HU3.out) | (with_reducible refine Upd.setCell ?_ _ (by omega) _))) (own_pair (own_i _ (i64_of (kk) (by omega))) (own_pair (own_pair (own_pair (show own SL1 _ [.slice oa1 v1.length cp1] (markS v1 (kk + 1)).1 by repeat (first | (with_reducible exact HM1.out) | (refine own_setCell ?_ (fun hm => hgLi (List.mem_append.2 (.inr (List.mem_append.2 (.inl (List.mem_append.2 (.inl (List.mem_append.2 (.inl hm)))))))))) | (refine own_chg ?_ HB3.out (fun b hb1 hb2 => (List.nodup_append.1 nd3).2.2 _ (List.mem_append.2 (.inl hb1)) _ hb2 rfl)) | (refine own_chg ?_ HB2.out (fun b hb1 hb2 => (List.nodup_append.1 nd2).2.2 _ hb1 _ (List.mem_append.2 (.inl hb2)) rfl)))) (own_pair (show own SL2 _ [.slice oa2 v2.length cp2] (markS v2 ((markS v1 (kk + 1)).2)).1 by repeat (first | (with_reducible exact HM2.out) | (refine own_setCell ?_ (fun hm => hgLi (List.mem_append.2 (.inr (List.mem_append.2 (.inl (List.mem_append.2 (.inl (List.mem_append.2 (.inr (List.mem_append.2 (.inl hm)))))))))))) | (refine own_chg ?_ HB3.out (fun b hb1 hb2 => (List.nodup_append.1 nd3).2.2 _ (List.mem_append.2 (.inr (List.mem_append.2 (.inl hb1)))) _ hb2 rfl)))) (own_i _ (i64_of ((markS v2 ((markS v1 (kk + 1)).2)).2) (by omega))) (fun x hx hy => (List.nodup_append.1 nd1).2.2 x hx x hy rfl)) (fun x hx hy => (List.nodup_append.1 nd2).2.2 x hx x hy rfl)) (show own SL4 _ [.slice oa4 v4.length cp4] (markS v4 ((markS v2 ((markS v1 (kk + 1)).2)).2 + 1)).1 by repeat (first | (with_reducible exact HM3.out) | (refine own_setCell ?_ (fun hm => hgLi (List.mem_append.2 (.inr (List.mem_append.2 (.inl (List.mem_append.2 (.inr hm)))))))) )) (fun x hx hy => (List.nodup_append.1 nd3).2.2 x hx x hy rfl)) (own_i _ (i64_of ((markS v4 ((markS v2 ((markS v1 (kk + 1)).2)).2 + 1)).2) (by omega))) (fun x hx hy => (List.nodup_append.1 nd4).2.2 x hx x hy rfl)) (fun x hx hy => (List.nodup_append.1 nd5).2.2 x hx x hy rfl)) ?_
          intro q u hq
          match q, hq with
          | 0, hq => obtain rfl := (Option.some.inj hq); simp [go_sem, *]
          | 1, hq => obtain rfl := (Option.some.inj hq); simp [go_sem, *]
          | 2, hq => obtain rfl := (Option.some.inj hq); simp [go_sem, *]
          | 3, hq => obtain rfl := (Option.some.inj hq); simp [go_sem, *]
          | 4, hq => obtain rfl := (Option.some.inj hq); simp [go_sem, *]
          | 5, hq => obtain rfl := (Option.some.inj hq); simp [go_sem, *]
          | q + 6, hq => simp at hq
        exact HC.out.trans (((by repeat (first | (with_reducible exact HU3.out) | (with_reducible refine Upd.setCell ?_ _ (by omega) _))) : Upd g (j * 6) 6 ([] ++ (((SL1 ++ (SL2 ++ [])) ++ SL4) ++ [])) wr _).chg.mono (fun b hb => (List.mem_cons.1 hb).elim (fun e => e ▸ hgL) (HSUB.out b)))
    obtain rfl : j = l.length := by omega
    have how := HW.out; have hch := HC.out
    rw [List.take_length, List.drop_length, List.append_nil] at how
    rw [List.take_length] at *
    have HW2 := Lib.hid how; have HC2 := Lib.hid hch; clear how hch
    go_wp2
    go_ret
    exact ⟨rfl, HW2.out, HC2.out⟩
end
section
open Go.RowKit
open GoD (rd own)
set_option maxRecDepth 100000
set_option maxHeartbeats 1000000
theorem cBh {w v : World} {a : Addr} {x : Value} (hB : Below w.heap.size w v) (h : w.cell? a = some x) : v.cell? a = some x := (hB.cell (World.block_lt_of_cell? w _ h)).trans h
theorem heldAttrS_c (w : World) (v : Value) (l l' : List AttrD) (K : Int) (k : Nat) (hK : K = k) (h1 : 1 ≤ k) (hk : (markS l k).2 ≤ 4611686018427387904) (hl' : l' = (markS l k).1) (ha : rd w [v] l') : Calls Tryz.prog 39 #[v, .int .i64 K] w (Ret w (.int .i64 ((markS l k).2 : Nat))) := by
  subst hK hl'
  obtain ⟨oa, cap, e1, hl, hm, hel⟩ := ha
  obtain rfl : v = _ := by simpa using e1
  clear e1
  have HE := Lib.hid hel; clear hel
  rw [markS_length] at hl ⊢
  unfold maxLen at hm
  have hlm : l.length ≤ 9223372036854775807 := by omega
  generalize hfin : (markS l k).2 = fin at *
  have HF := Lib.hid hfin; clear hfin
  go_enter Tryz.func39, Tryz.ntmps39
  go_wp2
  go_loopw [1, 5] (fun q i wr => ∃ j : Nat, j ≤ l.length ∧ i = .int .i64 j ∧ q = .int .i64 ((markS (l.take j) k).2 : Nat) ∧ Below w.heap.size w wr) (fun _ i _ => l.length - (intOf i).toNat)
  case atStart => exact ⟨0, Nat.zero_le _, rfl, rfl, Below.refl _ _⟩
  case round =>
    obtain ⟨j, hj, rfl, rfl, hB⟩ := hrel
    by_cases hjl : j < l.length
    · have hx := List.getElem?_eq_getElem hjl
      have hsp := mark_split l k j _ hx
      have hle := Nat.le_trans (mark_take_le l k j _ hx) (Nat.le_trans (Nat.le_of_eq HF.out) hk)
      have hkk : k ≤ (markS (l.take j) k).2 := markS_le _ _
      obtain ⟨eb, eo, ee, rfl, hcl, hcc, hxr⟩ := HE.out j _ (markS_get l k j _ hx)
      clear hx
      generalize (markS (l.take j) k).2 = kk at *
      generalize (markS (l.take j) k).1 = xs at *
      generalize l[j] = x at *
      obtain ⟨v0, ⟨v1, v2, v3⟩⟩ := x
      have HSP : Hid (_ = (xs ++ [(((markB (kk), (((kk + 1 : Nat) : Int), ((kk + 1 + 1 : Nat) : Int), markB (kk + 1 + 1 + 1))) : AttrD))], kk + 1 + 1 + 1 + 1)) := hsp
      clear hsp
      have hle : kk + 1 + 1 + 1 + 1 ≤ 4611686018427387904 := hle
      have hxr : rd w ee ((markB (kk), (((kk + 1 : Nat) : Int), ((kk + 1 + 1 : Nat) : Int), markB (kk + 1 + 1 + 1))) : AttrD) := hxr
      obtain ⟨_, _, rfl, ⟨rfl, _⟩, ⟨_, _, rfl, ⟨rfl, _⟩, ⟨_, _, rfl, ⟨rfl, _⟩, ⟨rfl, _⟩⟩⟩⟩ := hxr
      have q0 : w.cell? ⟨eb, eo + j * 4, none⟩ = some _ := hcc 0 _ rfl
      have q1 : w.cell? ⟨eb, eo + j * 4 + 1, none⟩ = some _ := hcc 1 _ rfl
      have q2 : w.cell? ⟨eb, eo + j * 4 + 2, none⟩ = some _ := hcc 2 _ rfl
      have q3 : w.cell? ⟨eb, eo + j * 4 + 3, none⟩ = some _ := hcc 3 _ rfl
      have HQ := Lib.hid (show True from trivial)
      have Q0 := Lib.hid q0; clear q0
      have Q1 := Lib.hid q1; clear q1
      have Q2 := Lib.hid q2; clear q2
      have Q3 := Lib.hid q3; clear q3
      have p0_0 := cBh hB Q0.out
      have p0_1 := cBh hB Q1.out
      have p0_2 := cBh hB Q2.out
      have p0_3 := cBh hB Q3.out
      have r0_0 := fun d os => cell_regrown p0_0 d os
      have r0_1 := fun d os => cell_regrown p0_1 d os
      have r0_2 := fun d os => cell_regrown p0_2 d os
      have r0_3 := fun d os => cell_regrown p0_3 d os
      clear hcc hcl
      have hz0 := hB.size
      have tok1 : True := trivial
      have tok2 : True := trivial
      go_wp2_with (first | (with_reducible refine wp_region_quiet_below (by kernel_rfl) (by kernel_rfl) ?_; have tk := tok1; clear tok1; (repeat (quiet_step (exact Calls.regrown_of (markText_c _ _ (kk) (by omega) (by omega) (by omega))))); refine wpQuiet_nil ?_; intro _ hw'; obtain ⟨⟨dq, osq⟩, hw''⟩ := hw'; subst hw''; have hbq := below_regrown wr dq osq; generalize Go.Sort.grow (redrawn wr dq) osq = w1 at hbq ⊢; have hB1 := below_via hB hbq; have hz1 := hB1.size; clear hbq; have p1_0 := cBh hB1 Q0.out; have p1_1 := cBh hB1 Q1.out; have p1_2 := cBh hB1 Q2.out; have p1_3 := cBh hB1 Q3.out; have r1_0 := fun d os => cell_regrown p1_0 d os; have r1_1 := fun d os => cell_regrown p1_1 d os; have r1_2 := fun d os => cell_regrown p1_2 d os; have r1_3 := fun d os => cell_regrown p1_3 d os) | (with_reducible refine wp_region_quiet_below (by kernel_rfl) (by kernel_rfl) ?_; have tk := tok2; clear tok2; (repeat (quiet_step (exact Calls.regrown_of (markText_c _ _ (kk + 1 + 1 + 1) (by omega) (by omega) (by omega))))); refine wpQuiet_nil ?_; intro _ hw'; obtain ⟨⟨dq, osq⟩, hw''⟩ := hw'; subst hw''; have hbq := below_regrown w1 dq osq; generalize Go.Sort.grow (redrawn w1 dq) osq = w2 at hbq ⊢; have hB2 := below_via hB1 hbq; have hz2 := hB2.size; clear hbq; have p2_0 := cBh hB2 Q0.out; have p2_1 := cBh hB2 Q1.out; have p2_2 := cBh hB2 Q2.out; have p2_3 := cBh hB2 Q3.out; have r2_0 := fun d os => cell_regrown p2_0 d os; have r2_1 := fun d os => cell_regrown p2_1 d os; have r2_2 := fun d os => cell_regrown p2_2 d os; have r2_3 := fun d os => cell_regrown p2_3 d os))
      first
      | exact ⟨⟨j + 1, by omega, by go_num, by (show Value.int _ _ = _; rw [HSP.out]; try (show Value.int .i64 _ = .int .i64 ((kk + 1 + 1 + 1 + 1 : Nat) : Int); first | go_num | (congr 1 <;> omega))), hB2⟩, by simp [intOf]; omega⟩
      | (go_roundw; (case measure => simp [intOf]; omega); (case rel => exact ⟨j + 1, by omega, by go_num, by (show Value.int _ _ = _; rw [HSP.out]; try (show Value.int .i64 _ = .int .i64 ((kk + 1 + 1 + 1 + 1 : Nat) : Int); first | go_num | (congr 1 <;> omega))), hB2⟩))
    obtain rfl : j = l.length := by omega
    have hf := HF.out
    rw [List.take_length] at *
    rw [hf] at *
    have HF2 := Lib.hid hf; clear hf
    go_wp2
    go_ret
    exact ⟨rfl, hB⟩
theorem heldFileS_c (w : World) (v : Value) (l l' : List FileD) (K : Int) (k : Nat) (hK : K = k) (h1 : 1 ≤ k) (hk : (markS l k).2 ≤ 4611686018427387904) (hl' : l' = (markS l k).1) (ha : rd w [v] l') : Calls Tryz.prog 24 #[v, .int .i64 K] w (Ret w (.int .i64 ((markS l k).2 : Nat))) := by
  subst hK hl'
  obtain ⟨oa, cap, e1, hl, hm, hel⟩ := ha
  obtain rfl : v = _ := by simpa using e1
  clear e1
  have HE := Lib.hid hel; clear hel
  rw [markS_length] at hl ⊢
  unfold maxLen at hm
  have hlm : l.length ≤ 9223372036854775807 := by omega
  generalize hfin : (markS l k).2 = fin at *
  have HF := Lib.hid hfin; clear hfin
  go_enter Tryz.func24, Tryz.ntmps24
  go_wp2
  go_loopw [1, 5] (fun q i wr => ∃ j : Nat, j ≤ l.length ∧ i = .int .i64 j ∧ q = .int .i64 ((markS (l.take j) k).2 : Nat) ∧ Below w.heap.size w wr) (fun _ i _ => l.length - (intOf i).toNat)
  case atStart => exact ⟨0, Nat.zero_le _, rfl, rfl, Below.refl _ _⟩
  case round =>
    obtain ⟨j, hj, rfl, rfl, hB⟩ := hrel
    by_cases hjl : j < l.length
    · have hx := List.getElem?_eq_getElem hjl
      have hsp := mark_split l k j _ hx
      have hle := Nat.le_trans (mark_take_le l k j _ hx) (Nat.le_trans (Nat.le_of_eq HF.out) hk)
      have hkk : k ≤ (markS (l.take j) k).2 := markS_le _ _
      obtain ⟨eb, eo, ee, rfl, hcl, hcc, hxr⟩ := HE.out j _ (markS_get l k j _ hx)
      clear hx
      generalize (markS (l.take j) k).2 = kk at *
      generalize (markS (l.take j) k).1 = xs at *
      generalize l[j] = x at *
      obtain ⟨v0, v1, v2, v3, v4⟩ := x
      have HSP : Hid (_ = (xs ++ [(((((kk : Nat) : Int), ((kk + 1 : Nat) : Int), ((kk + 1 + 1) % 3 == 0), ((kk + 1 + 1 + 1 : Nat) : Int), (markS v4 (kk + 1 + 1 + 1 + 1)).1) : FileD))], (markS v4 (kk + 1 + 1 + 1 + 1)).2)) := hsp
      clear hsp
      have hle : (markS v4 (kk + 1 + 1 + 1 + 1)).2 ≤ 4611686018427387904 := hle
      have hxr : rd w ee ((((kk : Nat) : Int), ((kk + 1 : Nat) : Int), ((kk + 1 + 1) % 3 == 0), ((kk + 1 + 1 + 1 : Nat) : Int), (markS v4 (kk + 1 + 1 + 1 + 1)).1) : FileD) := hxr
      obtain ⟨_, _, rfl, ⟨rfl, _⟩, ⟨_, _, rfl, ⟨rfl, _⟩, ⟨_, _, rfl, rfl, ⟨_, _, rfl, ⟨rfl, _⟩, rh4⟩⟩⟩⟩ := hxr
      obtain ⟨rv4, rfl⟩ := len1 (show _ = 1 from GoD.rd_len rh4)
      obtain ⟨oa4, cp4, rfl⟩ := slice_of_rd rh4
      simp only [markS_length] at hcc rh4
      have hb2 := mod3_eq (kk + 1 + 1) _ (show ((kk : Int) + 1 + 1 : Int) = ((kk + 1 + 1 : Nat) : Int) by omega)
      have hm4 : kk + 1 + 1 + 1 + 1 ≤ (markS v4 (kk + 1 + 1 + 1 + 1)).2 := markS_le _ _
      have HR4 := Lib.hid rh4; clear rh4
      have q0 : w.cell? ⟨eb, eo + j * 5, none⟩ = some _ := hcc 0 _ rfl
      have q1 : w.cell? ⟨eb, eo + j * 5 + 1, none⟩ = some _ := hcc 1 _ rfl
      have q2 : w.cell? ⟨eb, eo + j * 5 + 2, none⟩ = some _ := hcc 2 _ rfl
      have q3 : w.cell? ⟨eb, eo + j * 5 + 3, none⟩ = some _ := hcc 3 _ rfl
      have q4 : w.cell? ⟨eb, eo + j * 5 + 4, none⟩ = some _ := hcc 4 _ rfl
      have HQ := Lib.hid (show True from trivial)
      have Q0 := Lib.hid q0; clear q0
      have Q1 := Lib.hid q1; clear q1
      have Q2 := Lib.hid q2; clear q2
      have Q3 := Lib.hid q3; clear q3
      have Q4 := Lib.hid q4; clear q4
      have p0_0 := cBh hB Q0.out
      have p0_1 := cBh hB Q1.out
      have p0_2 := cBh hB Q2.out
      have p0_3 := cBh hB Q3.out
      have p0_4 := cBh hB Q4.out
      clear hcc hcl
      have hz0 := hB.size
      have tok1 : True := trivial
      go_wp2_with (first | (go_at_call 39; have tk := tok1; clear tok1; refine call_ret (w := w) (heldAttrS_c _ _ v4 _ _ (kk + 1 + 1 + 1 + 1) (by omega) (by omega) (by omega) rfl (rd_below HR4.out hB)) hB ?_; intro w1 hB1 hbq hz1 hz2; clear hbq hz2; have p1_0 := cBh hB1 Q0.out; have p1_1 := cBh hB1 Q1.out; have p1_2 := cBh hB1 Q2.out; have p1_3 := cBh hB1 Q3.out; have p1_4 := cBh hB1 Q4.out))
      first
      | exact ⟨⟨j + 1, by omega, by go_num, by (show Value.int _ _ = _; rw [HSP.out]; try (show Value.int .i64 _ = .int .i64 (((markS v4 (kk + 1 + 1 + 1 + 1)).2 : Nat) : Int); first | go_num | (congr 1 <;> omega))), hB1⟩, by simp [intOf]; omega⟩
      | (go_roundw; (case measure => simp [intOf]; omega); (case rel => exact ⟨j + 1, by omega, by go_num, by (show Value.int _ _ = _; rw [HSP.out]; try (show Value.int .i64 _ = .int .i64 (((markS v4 (kk + 1 + 1 + 1 + 1)).2 : Nat) : Int); first | go_num | (congr 1 <;> omega))), hB1⟩))
    obtain rfl : j = l.length := by omega
    have hf := HF.out
    rw [List.take_length] at *
    rw [hf] at *
    have HF2 := Lib.hid hf; clear hf
    go_wp2
    go_ret
    exact ⟨rfl, hB⟩
theorem heldFieldS_c (w : World) (v : Value) (l l' : List FieldD) (K : Int) (k : Nat) (hK : K = k) (h1 : 1 ≤ k) (hk : (markS l k).2 ≤ 4611686018427387904) (hl' : l' = (markS l k).1) (ha : rd w [v] l') : Calls Tryz.prog 23 #[v, .int .i64 K] w (Ret w (.int .i64 ((markS l k).2 : Nat))) := by
  subst hK hl'
  obtain ⟨oa, cap, e1, hl, hm, hel⟩ := ha
  obtain rfl : v = _ := by simpa using e1
  clear e1
  have HE := Lib.hid hel; clear hel
  rw [markS_length] at hl ⊢
  unfold maxLen at hm
  have hlm : l.length ≤ 9223372036854775807 := by omega
  generalize hfin : (markS l k).2 = fin at *
  have HF := Lib.hid hfin; clear hfin
  go_enter Tryz.func23, Tryz.ntmps23
  go_wp2
  go_loopw [1, 5] (fun q i wr => ∃ j : Nat, j ≤ l.length ∧ i = .int .i64 j ∧ q = .int .i64 ((markS (l.take j) k).2 : Nat) ∧ Below w.heap.size w wr) (fun _ i _ => l.length - (intOf i).toNat)
  case atStart => exact ⟨0, Nat.zero_le _, rfl, rfl, Below.refl _ _⟩
  case round =>
    obtain ⟨j, hj, rfl, rfl, hB⟩ := hrel
    by_cases hjl : j < l.length
    · have hx := List.getElem?_eq_getElem hjl
      have hsp := mark_split l k j _ hx
      have hle := Nat.le_trans (mark_take_le l k j _ hx) (Nat.le_trans (Nat.le_of_eq HF.out) hk)
      have hkk : k ≤ (markS (l.take j) k).2 := markS_le _ _
      obtain ⟨eb, eo, ee, rfl, hcl, hcc, hxr⟩ := HE.out j _ (markS_get l k j _ hx)
      clear hx
      generalize (markS (l.take j) k).2 = kk at *
      generalize (markS (l.take j) k).1 = xs at *
      generalize l[j] = x at *
      obtain ⟨v0, v1⟩ := x
      have HSP : Hid (_ = (xs ++ [(((markB (kk), ((kk + 1 : Nat) : Int)) : FieldD))], kk + 1 + 1)) := hsp
      clear hsp
      have hle : kk + 1 + 1 ≤ 4611686018427387904 := hle
      have hxr : rd w ee ((markB (kk), ((kk + 1 : Nat) : Int)) : FieldD) := hxr
      obtain ⟨_, _, rfl, ⟨rfl, _⟩, ⟨rfl, _⟩⟩ := hxr
      have q0 : w.cell? ⟨eb, eo + j * 2, none⟩ = some _ := hcc 0 _ rfl
      have q1 : w.cell? ⟨eb, eo + j * 2 + 1, none⟩ = some _ := hcc 1 _ rfl
      have HQ := Lib.hid (show True from trivial)
      have Q0 := Lib.hid q0; clear q0
      have Q1 := Lib.hid q1; clear q1
      have p0_0 := cBh hB Q0.out
      have p0_1 := cBh hB Q1.out
      have r0_0 := fun d os => cell_regrown p0_0 d os
      have r0_1 := fun d os => cell_regrown p0_1 d os
      clear hcc hcl
      have hz0 := hB.size
      have tok1 : True := trivial
      go_wp2_with (first | (with_reducible refine wp_region_quiet_below (by kernel_rfl) (by kernel_rfl) ?_; have tk := tok1; clear tok1; (repeat (quiet_step (exact Calls.regrown_of (markText_c _ _ (kk) (by omega) (by omega) (by omega))))); refine wpQuiet_nil ?_; intro _ hw'; obtain ⟨⟨dq, osq⟩, hw''⟩ := hw'; subst hw''; have hbq := below_regrown wr dq osq; generalize Go.Sort.grow (redrawn wr dq) osq = w1 at hbq ⊢; have hB1 := below_via hB hbq; have hz1 := hB1.size; clear hbq; have p1_0 := cBh hB1 Q0.out; have p1_1 := cBh hB1 Q1.out; have r1_0 := fun d os => cell_regrown p1_0 d os; have r1_1 := fun d os => cell_regrown p1_1 d os))
      first
      | exact ⟨⟨j + 1, by omega, by go_num, by (show Value.int _ _ = _; rw [HSP.out]; try (show Value.int .i64 _ = .int .i64 ((kk + 1 + 1 : Nat) : Int); first | go_num | (congr 1 <;> omega))), hB1⟩, by simp [intOf]; omega⟩
      | (go_roundw; (case measure => simp [intOf]; omega); (case rel => exact ⟨j + 1, by omega, by go_num, by (show Value.int _ _ = _; rw [HSP.out]; try (show Value.int .i64 _ = .int .i64 ((kk + 1 + 1 : Nat) : Int); first | go_num | (congr 1 <;> omega))), hB1⟩))
    obtain rfl : j = l.length := by omega
    have hf := HF.out
    rw [List.take_length] at *
    rw [hf] at *
    have HF2 := Lib.hid hf; clear hf
    go_wp2
    go_ret
    exact ⟨rfl, hB⟩
theorem heldNodeS_c (w : World) (v : Value) (l l' : List NodeD) (K : Int) (k : Nat) (hK : K = k) (h1 : 1 ≤ k) (hk : (markS l k).2 ≤ 4611686018427387904) (hl' : l' = (markS l k).1) (ha : rd w [v] l') : Calls Tryz.prog 40 #[v, .int .i64 K] w (Ret w (.int .i64 ((markS l k).2 : Nat))) := by
  subst hK hl'
  obtain ⟨oa, cap, e1, hl, hm, hel⟩ := ha
  obtain rfl : v = _ := by simpa using e1
  clear e1
  have HE := Lib.hid hel; clear hel
  rw [markS_length] at hl ⊢
  unfold maxLen at hm
  have hlm : l.length ≤ 9223372036854775807 := by omega
  generalize hfin : (markS l k).2 = fin at *
  have HF := Lib.hid hfin; clear hfin
  go_enter Tryz.func40, Tryz.ntmps40
  go_wp2
  go_loopw [1, 5] (fun q i wr => ∃ j : Nat, j ≤ l.length ∧ i = .int .i64 j ∧ q = .int .i64 ((markS (l.take j) k).2 : Nat) ∧ Below w.heap.size w wr) (fun _ i _ => l.length - (intOf i).toNat)
  case atStart => exact ⟨0, Nat.zero_le _, rfl, rfl, Below.refl _ _⟩
  case round =>
    obtain ⟨j, hj, rfl, rfl, hB⟩ := hrel
    by_cases hjl : j < l.length
    · have hx := List.getElem?_eq_getElem hjl
      have hsp := mark_split l k j _ hx
      have hle := Nat.le_trans (mark_take_le l k j _ hx) (Nat.le_trans (Nat.le_of_eq HF.out) hk)
      have hkk : k ≤ (markS (l.take j) k).2 := markS_le _ _
      obtain ⟨eb, eo, ee, rfl, hcl, hcc, hxr⟩ := HE.out j _ (markS_get l k j _ hx)
      clear hx
      generalize (markS (l.take j) k).2 = kk at *
      generalize (markS (l.take j) k).1 = xs at *
      generalize l[j] = x at *
      obtain ⟨v0, v1, v2, v3, ⟨v4, v5, v6⟩⟩ := x
      have HSP : Hid (_ = (xs ++ [(((((kk : Nat) : Int), ((kk + 1 : Nat) : Int), ((kk + 1 + 1 : Nat) : Int), markB (kk + 1 + 1 + 1), (((kk + 1 + 1 + 1 + 1 : Nat) : Int), ((kk + 1 + 1 + 1 + 1 + 1 : Nat) : Int), markB (kk + 1 + 1 + 1 + 1 + 1 + 1))) : NodeD))], kk + 1 + 1 + 1 + 1 + 1 + 1 + 1)) := hsp
      clear hsp
      have hle : kk + 1 + 1 + 1 + 1 + 1 + 1 + 1 ≤ 4611686018427387904 := hle
      have hxr : rd w ee ((((kk : Nat) : Int), ((kk + 1 : Nat) : Int), ((kk + 1 + 1 : Nat) : Int), markB (kk + 1 + 1 + 1), (((kk + 1 + 1 + 1 + 1 : Nat) : Int), ((kk + 1 + 1 + 1 + 1 + 1 : Nat) : Int), markB (kk + 1 + 1 + 1 + 1 + 1 + 1))) : NodeD) := hxr
      obtain ⟨_, _, rfl, ⟨rfl, _⟩, ⟨_, _, rfl, ⟨rfl, _⟩, ⟨_, _, rfl, ⟨rfl, _⟩, ⟨_, _, rfl, ⟨rfl, _⟩, ⟨_, _, rfl, ⟨rfl, _⟩, ⟨_, _, rfl, ⟨rfl, _⟩, ⟨rfl, _⟩⟩⟩⟩⟩⟩⟩ := hxr
      have q0 : w.cell? ⟨eb, eo + j * 7, none⟩ = some _ := hcc 0 _ rfl
      have q1 : w.cell? ⟨eb, eo + j * 7 + 1, none⟩ = some _ := hcc 1 _ rfl
      have q2 : w.cell? ⟨eb, eo + j * 7 + 2, none⟩ = some _ := hcc 2 _ rfl
      have q3 : w.cell? ⟨eb, eo + j * 7 + 3, none⟩ = some _ := hcc 3 _ rfl
      have q4 : w.cell? ⟨eb, eo + j * 7 + 4, none⟩ = some _ := hcc 4 _ rfl
      have q5 : w.cell? ⟨eb, eo + j * 7 + 5, none⟩ = some _ := hcc 5 _ rfl
      have q6 : w.cell? ⟨eb, eo + j * 7 + 6, none⟩ = some _ := hcc 6 _ rfl
      have HQ := Lib.hid (show True from trivial)
      have Q0 := Lib.hid q0; clear q0
      have Q1 := Lib.hid q1; clear q1
      have Q2 := Lib.hid q2; clear q2
      have Q3 := Lib.hid q3; clear q3
      have Q4 := Lib.hid q4; clear q4
      have Q5 := Lib.hid q5; clear q5
      have Q6 := Lib.hid q6; clear q6
      have p0_0 := cBh hB Q0.out
      have p0_1 := cBh hB Q1.out
      have p0_2 := cBh hB Q2.out
      have p0_3 := cBh hB Q3.out
      have p0_4 := cBh hB Q4.out
      have p0_5 := cBh hB Q5.out
      have p0_6 := cBh hB Q6.out
      have r0_0 := fun d os => cell_regrown p0_0 d os
      have r0_1 := fun d os => cell_regrown p0_1 d os
      have r0_2 := fun d os => cell_regrown p0_2 d os
      have r0_3 := fun d os => cell_regrown p0_3 d os
      have r0_4 := fun d os => cell_regrown p0_4 d os
      have r0_5 := fun d os => cell_regrown p0_5 d os
      have r0_6 := fun d os => cell_regrown p0_6 d os
      clear hcc hcl
      have hz0 := hB.size
      have tok1 : True := trivial
      have tok2 : True := trivial
      go_wp2_with (first | (with_reducible refine wp_region_quiet_below (by kernel_rfl) (by kernel_rfl) ?_; have tk := tok1; clear tok1; (repeat (quiet_step (exact Calls.regrown_of (markText_c _ _ (kk + 1 + 1 + 1) (by omega) (by omega) (by omega))))); refine wpQuiet_nil ?_; intro _ hw'; obtain ⟨⟨dq, osq⟩, hw''⟩ := hw'; subst hw''; have hbq := below_regrown wr dq osq; generalize Go.Sort.grow (redrawn wr dq) osq = w1 at hbq ⊢; have hB1 := below_via hB hbq; have hz1 := hB1.size; clear hbq; have p1_0 := cBh hB1 Q0.out; have p1_1 := cBh hB1 Q1.out; have p1_2 := cBh hB1 Q2.out; have p1_3 := cBh hB1 Q3.out; have p1_4 := cBh hB1 Q4.out; have p1_5 := cBh hB1 Q5.out; have p1_6 := cBh hB1 Q6.out; have r1_0 := fun d os => cell_regrown p1_0 d os; have r1_1 := fun d os => cell_regrown p1_1 d os; have r1_2 := fun d os => cell_regrown p1_2 d os; have r1_3 := fun d os => cell_regrown p1_3 d os; have r1_4 := fun d os => cell_regrown p1_4 d os; have r1_5 := fun d os => cell_regrown p1_5 d os; have r1_6 := fun d os => cell_regrown p1_6 d os) | (with_reducible refine wp_region_quiet_below (by kernel_rfl) (by kernel_rfl) ?_; have tk := tok2; clear tok2; (repeat (quiet_step (exact Calls.regrown_of (markText_c _ _ (kk + 1 + 1 + 1 + 1 + 1 + 1) (by omega) (by omega) (by omega))))); refine wpQuiet_nil ?_; intro _ hw'; obtain ⟨⟨dq, osq⟩, hw''⟩ := hw'; subst hw''; have hbq := below_regrown w1 dq osq; generalize Go.Sort.grow (redrawn w1 dq) osq = w2 at hbq ⊢; have hB2 := below_via hB1 hbq; have hz2 := hB2.size; clear hbq; have p2_0 := cBh hB2 Q0.out; have p2_1 := cBh hB2 Q1.out; have p2_2 := cBh hB2 Q2.out; have p2_3 := cBh hB2 Q3.out; have p2_4 := cBh hB2 Q4.out; have p2_5 := cBh hB2 Q5.out; have p2_6 := cBh hB2 Q6.out; have r2_0 := fun d os => cell_regrown p2_0 d os; have r2_1 := fun d os => cell_regrown p2_1 d os; have r2_2 := fun d os => cell_regrown p2_2 d os; have r2_3 := fun d os => cell_regrown p2_3 d os; have r2_4 := fun d os => cell_regrown p2_4 d os; have r2_5 := fun d os => cell_regrown p2_5 d os; have r2_6 := fun d os => cell_regrown p2_6 d os))
      first
      | exact ⟨⟨j + 1, by omega, by go_num, by (show Value.int _ _ = _; rw [HSP.out]; try (show Value.int .i64 _ = .int .i64 ((kk + 1 + 1 + 1 + 1 + 1 + 1 + 1 : Nat) : Int); first | go_num | (congr 1 <;> omega))), hB2⟩, by simp [intOf]; omega⟩
      | (go_roundw; (case measure => simp [intOf]; omega); (case rel => exact ⟨j + 1, by omega, by go_num, by (show Value.int _ _ = _; rw [HSP.out]; try (show Value.int .i64 _ = .int .i64 ((kk + 1 + 1 + 1 + 1 + 1 + 1 + 1 : Nat) : Int); first | go_num | (congr 1 <;> omega))), hB2⟩))
    obtain rfl : j = l.length := by omega
    have hf := HF.out
    rw [List.take_length] at *
    rw [hf] at *
    have HF2 := Lib.hid hf; clear hf
    go_wp2
    go_ret
    exact ⟨rfl, hB⟩
theorem heldDirS_c (w : World) (v : Value) (l l' : List DirD) (K : Int) (k : Nat) (hK : K = k) (h1 : 1 ≤ k) (hk : (markS l k).2 ≤ 4611686018427387904) (hl' : l' = (markS l k).1) (ha : rd w [v] l') : Calls Tryz.prog 25 #[v, .int .i64 K] w (Ret w (.int .i64 ((markS l k).2 : Nat))) := by
  subst hK hl'
  obtain ⟨oa, cap, e1, hl, hm, hel⟩ := ha
  obtain rfl : v = _ := by simpa using e1
  clear e1
  have HE := Lib.hid hel; clear hel
  rw [markS_length] at hl ⊢
  unfold maxLen at hm
  have hlm : l.length ≤ 9223372036854775807 := by omega
  generalize hfin : (markS l k).2 = fin at *
  have HF := Lib.hid hfin; clear hfin
  go_enter Tryz.func25, Tryz.ntmps25
  go_wp2
  go_loopw [1, 5] (fun q i wr => ∃ j : Nat, j ≤ l.length ∧ i = .int .i64 j ∧ q = .int .i64 ((markS (l.take j) k).2 : Nat) ∧ Below w.heap.size w wr) (fun _ i _ => l.length - (intOf i).toNat)
  case atStart => exact ⟨0, Nat.zero_le _, rfl, rfl, Below.refl _ _⟩
  case round =>
    obtain ⟨j, hj, rfl, rfl, hB⟩ := hrel
    by_cases hjl : j < l.length
    · have hx := List.getElem?_eq_getElem hjl
      have hsp := mark_split l k j _ hx
      have hle := Nat.le_trans (mark_take_le l k j _ hx) (Nat.le_trans (Nat.le_of_eq HF.out) hk)
      have hkk : k ≤ (markS (l.take j) k).2 := markS_le _ _
      obtain ⟨eb, eo, ee, rfl, hcl, hcc, hxr⟩ := HE.out j _ (markS_get l k j _ hx)
      clear hx
      generalize (markS (l.take j) k).2 = kk at *
      generalize (markS (l.take j) k).1 = xs at *
      generalize l[j] = x at *
      obtain ⟨v0, v1⟩ := x
      have HSP : Hid (_ = (xs ++ [(((markB (kk), (markS v1 (kk + 1)).1) : DirD))], (markS v1 (kk + 1)).2)) := hsp
      clear hsp
      have hle : (markS v1 (kk + 1)).2 ≤ 4611686018427387904 := hle
      have hxr : rd w ee ((markB (kk), (markS v1 (kk + 1)).1) : DirD) := hxr
      obtain ⟨_, _, rfl, ⟨rfl, _⟩, rh1⟩ := hxr
      obtain ⟨rv1, rfl⟩ := len1 (show _ = 1 from GoD.rd_len rh1)
      obtain ⟨oa1, cp1, rfl⟩ := slice_of_rd rh1
      simp only [markS_length] at hcc rh1
      have hm1 : kk + 1 ≤ (markS v1 (kk + 1)).2 := markS_le _ _
      have HR1 := Lib.hid rh1; clear rh1
      have q0 : w.cell? ⟨eb, eo + j * 2, none⟩ = some _ := hcc 0 _ rfl
      have q1 : w.cell? ⟨eb, eo + j * 2 + 1, none⟩ = some _ := hcc 1 _ rfl
      have HQ := Lib.hid (show True from trivial)
      have Q0 := Lib.hid q0; clear q0
      have Q1 := Lib.hid q1; clear q1
      have p0_0 := cBh hB Q0.out
      have p0_1 := cBh hB Q1.out
      have r0_0 := fun d os => cell_regrown p0_0 d os
      have r0_1 := fun d os => cell_regrown p0_1 d os
      clear hcc hcl
      have hz0 := hB.size
      have tok1 : True := trivial
      have tok2 : True := trivial
      go_wp2_with (first | (with_reducible refine wp_region_quiet_below (by kernel_rfl) (by kernel_rfl) ?_; have tk := tok1; clear tok1; (repeat (quiet_step (exact Calls.regrown_of (markText_c _ _ (kk) (by omega) (by omega) (by omega))))); refine wpQuiet_nil ?_; intro _ hw'; obtain ⟨⟨dq, osq⟩, hw''⟩ := hw'; subst hw''; have hbq := below_regrown wr dq osq; generalize Go.Sort.grow (redrawn wr dq) osq = w1 at hbq ⊢; have hB1 := below_via hB hbq; have hz1 := hB1.size; clear hbq; have p1_0 := cBh hB1 Q0.out; have p1_1 := cBh hB1 Q1.out; have r1_0 := fun d os => cell_regrown p1_0 d os; have r1_1 := fun d os => cell_regrown p1_1 d os) | (go_at_call 40; have tk := tok2; clear tok2; refine call_ret (w := w) (heldNodeS_c _ _ v1 _ _ (kk + 1) (by omega) (by omega) (by omega) rfl (rd_below HR1.out hB1)) hB1 ?_; intro w2 hB2 hbq hz2 hz2; clear hbq hz2; have p2_0 := cBh hB2 Q0.out; have p2_1 := cBh hB2 Q1.out; have r2_0 := fun d os => cell_regrown p2_0 d os; have r2_1 := fun d os => cell_regrown p2_1 d os))
      first
      | exact ⟨⟨j + 1, by omega, by go_num, by (show Value.int _ _ = _; rw [HSP.out]; try (show Value.int .i64 _ = .int .i64 (((markS v1 (kk + 1)).2 : Nat) : Int); first | go_num | (congr 1 <;> omega))), hB2⟩, by simp [intOf]; omega⟩
      | (go_roundw; (case measure => simp [intOf]; omega); (case rel => exact ⟨j + 1, by omega, by go_num, by (show Value.int _ _ = _; rw [HSP.out]; try (show Value.int .i64 _ = .int .i64 (((markS v1 (kk + 1)).2 : Nat) : Int); first | go_num | (congr 1 <;> omega))), hB2⟩))
    obtain rfl : j = l.length := by omega
    have hf := HF.out
    rw [List.take_length] at *
    rw [hf] at *
    have HF2 := Lib.hid hf; clear hf
    go_wp2
    go_ret
    exact ⟨rfl, hB⟩
theorem heldVersionS_c (w : World) (v : Value) (l l' : List VersionD) (K : Int) (k : Nat) (hK : K = k) (h1 : 1 ≤ k) (hk : (markS l k).2 ≤ 4611686018427387904) (hl' : l' = (markS l k).1) (ha : rd w [v] l') : Calls Tryz.prog 10 #[v, .int .i64 K] w (Ret w (.int .i64 ((markS l k).2 : Nat))) := by
  subst hK hl'
  obtain ⟨oa, cap, e1, hl, hm, hel⟩ := ha
  obtain rfl : v = _ := by simpa using e1
  clear e1
  have HE := Lib.hid hel; clear hel
  rw [markS_length] at hl ⊢
  unfold maxLen at hm
  have hlm : l.length ≤ 9223372036854775807 := by omega
  generalize hfin : (markS l k).2 = fin at *
  have HF := Lib.hid hfin; clear hfin
  go_enter Tryz.func10, Tryz.ntmps10
  go_wp2
  go_loopw [1, 5] (fun q i wr => ∃ j : Nat, j ≤ l.length ∧ i = .int .i64 j ∧ q = .int .i64 ((markS (l.take j) k).2 : Nat) ∧ Below w.heap.size w wr) (fun _ i _ => l.length - (intOf i).toNat)
  case atStart => exact ⟨0, Nat.zero_le _, rfl, rfl, Below.refl _ _⟩
  case round =>
    obtain ⟨j, hj, rfl, rfl, hB⟩ := hrel
    by_cases hjl : j < l.length
    · have hx := List.getElem?_eq_getElem hjl
      have hsp := mark_split l k j _ hx
      have hle := Nat.le_trans (mark_take_le l k j _ hx) (Nat.le_trans (Nat.le_of_eq HF.out) hk)
      have hkk : k ≤ (markS (l.take j) k).2 := markS_le _ _
      obtain ⟨eb, eo, ee, rfl, hcl, hcc, hxr⟩ := HE.out j _ (markS_get l k j _ hx)
      clear hx
      generalize (markS (l.take j) k).2 = kk at *
      generalize (markS (l.take j) k).1 = xs at *
      generalize l[j] = x at *
      obtain ⟨v0, ⟨⟨v1, v2, v3⟩, v4⟩, v5⟩ := x
      have HSP : Hid (_ = (xs ++ [(((((kk : Nat) : Int), (((markS v1 (kk + 1)).1, (markS v2 ((markS v1 (kk + 1)).2)).1, (((markS v2 ((markS v1 (kk + 1)).2)).2 : Nat) : Int)), (markS v4 ((markS v2 ((markS v1 (kk + 1)).2)).2 + 1)).1), (((markS v4 ((markS v2 ((markS v1 (kk + 1)).2)).2 + 1)).2 : Nat) : Int)) : VersionD))], (markS v4 ((markS v2 ((markS v1 (kk + 1)).2)).2 + 1)).2 + 1)) := hsp
      clear hsp
      have hle : (markS v4 ((markS v2 ((markS v1 (kk + 1)).2)).2 + 1)).2 + 1 ≤ 4611686018427387904 := hle
      have hxr : rd w ee ((((kk : Nat) : Int), (((markS v1 (kk + 1)).1, (markS v2 ((markS v1 (kk + 1)).2)).1, (((markS v2 ((markS v1 (kk + 1)).2)).2 : Nat) : Int)), (markS v4 ((markS v2 ((markS v1 (kk + 1)).2)).2 + 1)).1), (((markS v4 ((markS v2 ((markS v1 (kk + 1)).2)).2 + 1)).2 : Nat) : Int)) : VersionD) := hxr
      obtain ⟨_, _, rfl, ⟨rfl, _⟩, ⟨_, _, rfl, ⟨_, _, rfl, ⟨_, _, rfl, rh1, ⟨_, _, rfl, rh2, ⟨rfl, _⟩⟩⟩, rh4⟩, ⟨rfl, _⟩⟩⟩ := hxr
      obtain ⟨rv1, rfl⟩ := len1 (show _ = 1 from GoD.rd_len rh1)
      obtain ⟨oa1, cp1, rfl⟩ := slice_of_rd rh1
      obtain ⟨rv2, rfl⟩ := len1 (show _ = 1 from GoD.rd_len rh2)
      obtain ⟨oa2, cp2, rfl⟩ := slice_of_rd rh2
      obtain ⟨rv4, rfl⟩ := len1 (show _ = 1 from GoD.rd_len rh4)
      obtain ⟨oa4, cp4, rfl⟩ := slice_of_rd rh4
      simp only [markS_length] at hcc rh1 rh2 rh4
      have hm1 : kk + 1 ≤ (markS v1 (kk + 1)).2 := markS_le _ _
      have HR1 := Lib.hid rh1; clear rh1
      have hm2 : (markS v1 (kk + 1)).2 ≤ (markS v2 ((markS v1 (kk + 1)).2)).2 := markS_le _ _
      have HR2 := Lib.hid rh2; clear rh2
      have hm4 : (markS v2 ((markS v1 (kk + 1)).2)).2 + 1 ≤ (markS v4 ((markS v2 ((markS v1 (kk + 1)).2)).2 + 1)).2 := markS_le _ _
      have HR4 := Lib.hid rh4; clear rh4
      have q0 : w.cell? ⟨eb, eo + j * 6, none⟩ = some _ := hcc 0 _ rfl
      have q1 : w.cell? ⟨eb, eo + j * 6 + 1, none⟩ = some _ := hcc 1 _ rfl
      have q2 : w.cell? ⟨eb, eo + j * 6 + 2, none⟩ = some _ := hcc 2 _ rfl
      have q3 : w.cell? ⟨eb, eo + j * 6 + 3, none⟩ = some _ := hcc 3 _ rfl
      have q4 : w.cell? ⟨eb, eo + j * 6 + 4, none⟩ = some _ := hcc 4 _ rfl
      have q5 : w.cell? ⟨eb, eo + j * 6 + 5, none⟩ = some _ := hcc 5 _ rfl
      have HQ := Lib.hid (show True from trivial)
      have Q0 := Lib.hid q0; clear q0
      have Q1 := Lib.hid q1; clear q1
      have Q2 := Lib.hid q2; clear q2
      have Q3 := Lib.hid q3; clear q3
      have Q4 := Lib.hid q4; clear q4
      have Q5 := Lib.hid q5; clear q5
      have p0_0 := cBh hB Q0.out
      have p0_1 := cBh hB Q1.out
      have p0_2 := cBh hB Q2.out
      have p0_3 := cBh hB Q3.out
      have p0_4 := cBh hB Q4.out
      have p0_5 := cBh hB Q5.out
      clear hcc hcl
      have hz0 := hB.size
      have tok1 : True := trivial
      have tok2 : True := trivial
      have tok3 : True := trivial
      go_wp2_with (first | (go_at_call 23; have tk := tok1; clear tok1; refine call_ret (w := w) (heldFieldS_c _ _ v1 _ _ (kk + 1) (by omega) (by omega) (by omega) rfl (rd_below HR1.out hB)) hB ?_; intro w1 hB1 hbq hz1 hz2; clear hbq hz2; have p1_0 := cBh hB1 Q0.out; have p1_1 := cBh hB1 Q1.out; have p1_2 := cBh hB1 Q2.out; have p1_3 := cBh hB1 Q3.out; have p1_4 := cBh hB1 Q4.out; have p1_5 := cBh hB1 Q5.out) | (go_at_call 24; have tk := tok2; clear tok2; refine call_ret (w := w) (heldFileS_c _ _ v2 _ _ ((markS v1 (kk + 1)).2) (by omega) (by omega) (by omega) rfl (rd_below HR2.out hB1)) hB1 ?_; intro w2 hB2 hbq hz2 hz2; clear hbq hz2; have p2_0 := cBh hB2 Q0.out; have p2_1 := cBh hB2 Q1.out; have p2_2 := cBh hB2 Q2.out; have p2_3 := cBh hB2 Q3.out; have p2_4 := cBh hB2 Q4.out; have p2_5 := cBh hB2 Q5.out) | (go_at_call 25; have tk := tok3; clear tok3; refine call_ret (w := w) (heldDirS_c _ _ v4 _ _ ((markS v2 ((markS v1 (kk + 1)).2)).2 + 1) (by omega) (by omega) (by omega) rfl (rd_below HR4.out hB2)) hB2 ?_; intro w3 hB3 hbq hz3 hz2; clear hbq hz2; have p3_0 := cBh hB3 Q0.out; have p3_1 := cBh hB3 Q1.out; have p3_2 := cBh hB3 Q2.out; have p3_3 := cBh hB3 Q3.out; have p3_4 := cBh hB3 Q4.out; have p3_5 := cBh hB3 Q5.out))
      first
      | exact ⟨⟨j + 1, by omega, by go_num, by (show Value.int _ _ = _; rw [HSP.out]; try (show Value.int .i64 _ = .int .i64 (((markS v4 ((markS v2 ((markS v1 (kk + 1)).2)).2 + 1)).2 + 1 : Nat) : Int); first | go_num | (congr 1 <;> omega))), hB3⟩, by simp [intOf]; omega⟩
      | (go_roundw; (case measure => simp [intOf]; omega); (case rel => exact ⟨j + 1, by omega, by go_num, by (show Value.int _ _ = _; rw [HSP.out]; try (show Value.int .i64 _ = .int .i64 (((markS v4 ((markS v2 ((markS v1 (kk + 1)).2)).2 + 1)).2 + 1 : Nat) : Int); first | go_num | (congr 1 <;> omega))), hB3⟩))
    obtain rfl : j = l.length := by omega
    have hf := HF.out
    rw [List.take_length] at *
    rw [hf] at *
    have HF2 := Lib.hid hf; clear hf
    go_wp2
    go_ret
    exact ⟨rfl, hB⟩
end
section
open Go.RowKit
open GoD (rd own)
open GoE (enc wide)
def szI (t : Nat) (left : Int) : Int := bif decide ((t : Int) ≤ left) then left - t else -1
theorem szI_of {t : Nat} {left r : Int} (h : szq t left r) : r = szI t left := by
  unfold szq at h
  unfold szI
  by_cases hc : (t : Int) ≤ left
  · rw [decide_eq_true hc]; simp only [cond_true]; omega
  rw [decide_eq_false hc]; simp only [cond_false]; omega
theorem szI_bd (t : Nat) (left : Int) : szI t left < 0 ∨ (0 ≤ szI t left ∧ szI t left = left - t ∧ (t : Int) ≤ left) := by
  by_cases hc : (t : Int) ≤ left
  · have : szI t left = left - t := by unfold szI; rw [decide_eq_true hc]; rfl
    omega
  have : szI t left = -1 := by unfold szI; rw [decide_eq_false hc]; rfl
  omega
theorem szI_in (t : Nat) {left : Int} (h0 : 0 ≤ left) (h1 : left ≤ 1048576) : InR .i64 (szI t left) := by
  rw [inR_i64]; unfold I64
  by_cases hc : (t : Int) ≤ left
  · have : szI t left = left - t := by unfold szI; rw [decide_eq_true hc]; rfl
    omega
  have : szI t left = -1 := by unfold szI; rw [decide_eq_false hc]; rfl
  omega
section
variable {α : Type} [GoE α] {P : Program} {f : Nat}
theorem argS_rd {F : Nat → Prop} {w : World} {v : Value} {l : List α} (h : AR (argJ F) w v (argS l)) : rd w [v] l := vv_rdS h
theorem aret_pure {F : Nat → Prop} {w w' : World} {v : Value} {r : AV} (hb : Below w.heap.size w w') (hr : ∀ J, AR J w' v r) : ARet F w r (.returned v) w' :=
  ⟨v, fun _ => [], rfl, hb, fun _ => List.nodup_nil, (fun _ _ h => by simp at h), (fun _ _ _ h => by simp at h), hr _⟩
theorem acalls_szS (hok : FnOk P f) {l : List α} {left : Int} (h0 : 0 ≤ left) (h1 : left ≤ 1048576) (h : ∀ w (v : Value), rd w [v] l → Calls P f #[v, .int .i64 left] w (RetSz w (GoD.size l) left)) : ACalls P f [argS l, intA left] (intA (szI (GoD.size l) left)) := by
  refine ⟨hok, fun w _ F vals hF hall => ?_⟩
  cases hall with
  | cons h2 h3 => cases h3 with
    | cons h3 h4 =>
      cases h4
      obtain ⟨rfl, _⟩ := h3
      refine (h w _ (argS_rd h2)).mono ?_
      rintro e w' ⟨r, rfl, hq, hb⟩
      exact aret_pure hb fun J => ⟨by rw [szI_of hq], szI_in _ h0 h1⟩
theorem acalls_eqS (hok : FnOk P f) {a b : List α} (he : a = b) (h : ∀ w (u v : Value), rd w [u] a → rd w [v] b → Calls P f #[u, v] w (Ret w (.bool (eqb a b)))) : ACalls P f [argS a, argS b] (boolA true) := by
  refine ⟨hok, fun w _ F vals hF hall => ?_⟩
  cases hall with
  | cons h2 h3 => cases h3 with
    | cons h3 h4 =>
      cases h4
      refine (h w _ _ (argS_rd h2) (argS_rd h3)).mono ?_
      rintro e w' ⟨rfl, hb⟩
      subst he
      exact aret_pure hb fun J => by rw [eqb_refl]; rfl
theorem acalls_heS (hok : FnOk P f) {l : List α} {K R : Int} (hR : InR .i64 R) (h : ∀ w (v : Value), rd w [v] l → Calls P f #[v, .int .i64 K] w (Ret w (.int .i64 R))) : ACalls P f [argS l, intA K] (intA R) := by
  refine ⟨hok, fun w _ F vals hF hall => ?_⟩
  cases hall with
  | cons h2 h3 => cases h3 with
    | cons h3 h4 =>
      cases h4
      obtain ⟨rfl, _⟩ := h3
      refine (h w _ (argS_rd h2)).mono ?_
      rintro e w' ⟨rfl, hb⟩
      exact aret_pure hb fun J => ⟨rfl, hR⟩
end
/-! ### copies -/
section
variable {α : Type} [GoE α] {P : Program} {f : Nat}
theorem acalls_toS (hok : FnOk P f) {l : List α} (h : ∀ w (v : Value), rd w [v] l → Calls P f #[v] w (RetS w l)) : ACalls P f [argS l] (resS l) := acalls_retS hok (fun w v hr _ => h w v hr) id
end
/-! ### marks -/
def MarkS (P : Program) (f : Nat) {α : Type} [GoE α] (l : List α) (K : Int) (r : List α × Nat) : Prop := FnOk P f ∧ ∀ (w : World) (L : List Nat) (v : Value), own L w [v] l → Calls P f #[v, .int .i64 K] w (MarkR L w [v] r)
section
variable {P : Program} {N : Nat} {w0 : Base} {F0 : Nat → Prop} {J : Inj} {a : Act} {w w' : World} {s : St}
theorem Rel.mark (h : Rel N w0 F0 J a w s) (ks : List Nat) {L : List Nat} (hL : ∀ b, b ∈ L → ∃ k, k ∈ ks ∧ b ∈ J.L k) (hc : Chg L w w') (d : Nat) (hd : d < N) (n : Int) (hn : InR .i64 n) (bx : Option (Nat × List C))
    (hb : ∀ k c, bx = some (k, c) → ∃ c0, get s.bx k = some c0 ∧ ∃ arr e, w.heap[J.B k]? = some (.cells arr e (0, 0)) ∧ ∀ J' : Inj, (∀ b, J'.F b ↔ J.F b ∨ b ∈ L) → All2 (CR J' w') arr.toList c) :
    ∃ J', (∀ b, J'.F b ↔ J.F b ∨ b ∈ L) ∧ (∀ k, J'.B k = J.B k) ∧ Rel N w0 F0 J' (a.put (some d) (.int .i64 n)) w' (s.step (some d) ⟨.one (.int .i64 n), killAll ks, none, bx⟩) := by
  let J' : Inj := ⟨fun b => J.F b ∨ b ∈ L, fun k => if k ∈ ks then [] else J.L k, J.B⟩
  have hlo : ∀ b, b ∈ L → w0.lo (b) ∧ b < w.heap.size ∧ ¬ J.F b := fun b hb => by
    obtain ⟨k, _, hm⟩ := hL b hb
    exact h.lo k b hm
  have hun : ∀ b, b < w.heap.size → b ∉ L → w'.heap[b]? = w.heap[b]? := hc.block
  have hJL : ∀ k b, b ∈ J'.L k → k ∉ ks ∧ b ∈ J.L k := fun k b hm => by
    have hm : b ∈ (if k ∈ ks then [] else J.L k) := hm
    split at hm
    · simp at hm
    rename_i hk; exact ⟨hk, hm⟩
  have hout : ∀ k b, k ∉ ks → b ∈ J.L k → b ∉ L := fun k b hk hm hl => by
    obtain ⟨k', hk', hm'⟩ := hL b hl
    exact hk (h.dj k k' b hm hm' ▸ hk')
  have hboxL : ∀ k c, get s.bx k = some c → J.B k ∉ L := fun k c hk hl => by
    obtain ⟨k', _, hm⟩ := hL _ hl
    exact (h.bo k c hk).2.2.1 k' hm
  refine ⟨J', fun b => Iff.rfl, fun _ => rfl, ?_⟩
  refine h.upd (w' := w') (J' := J') (some d) (fun d' e => by cases e; exact hd) _ _ (h.below.step hc.os hc.tape hc.output hc.size fun b hb hnl => hun b hb fun hl => hnl (hlo b hl).1) ?_ ?_ (fun _ => ⟨rfl, hn⟩) ?_ ?_
  · constructor
    · exact fun b hb => ⟨.inl hb, hun b (h.fl b hb).1 fun hl => (hlo b hl).2.2 hb⟩
    · intro k hk
      rw [get_kill] at hk
      split at hk
      · cases hk
      rename_i hn
      exact ⟨if_neg hn, fun b hb => hun b (h.lo k b hb).2.1 (hout k b hn hb)⟩
    · intro k hk; rw [get_kill] at hk; split at hk <;> cases hk
    · intro k k' hk; rw [get_kill] at hk; split at hk <;> cases hk
    · intro k t hk; rw [get_kill] at hk; split at hk <;> cases hk
    · exact fun _ _ => rfl
    intro k d m i o cs hk; rw [get_kill] at hk; split at hk <;> cases hk
  · constructor
    · intro b hb
      rcases hb with hb | hb
      · exact ⟨Nat.lt_of_lt_of_le (h.fl b hb).1 hc.size, (h.fl b hb).2⟩
      exact ⟨Nat.lt_of_lt_of_le (hlo b hb).2.1 hc.size, .inr (hlo b hb).1⟩
    · exact fun b hb => .inl (h.f0 b hb)
    · intro k
      show (if _ then _ else _ : List Nat).Nodup
      split
      · exact List.nodup_nil
      exact h.nd k
    · intro k b hm
      obtain ⟨hk, hm⟩ := hJL k b hm
      obtain ⟨h1, h2, h3⟩ := h.lo k b hm
      exact ⟨h1, Nat.lt_of_lt_of_le h2 hc.size, fun hF => hF.elim h3 (hout k b hk hm)⟩
    intro k k' b hm hm'
    exact h.dj k k' b (hJL k b hm).2 (hJL k' b hm').2
  · intro k c hk _
    obtain ⟨h1, h2, h3, arr, e, h4, _⟩ := h.bo k c hk
    refine ⟨by simp, fun hF => hF.elim h2 (hboxL k c hk), fun k' hm => h3 k' (hJL k' _ hm).2, hun _ ?_ (hboxL k c hk)⟩
    exact block_lt_of_heap h4
  intro k c hk
  obtain ⟨c0, hg, arr, e, hh, hall⟩ := hb k c hk
  obtain ⟨h1, h2, h3, arr', e', h4, _⟩ := h.bo k c0 hg
  have hlt : J.B k < w.heap.size := block_lt_of_heap h4
  exact ⟨h1, fun hF => hF.elim h2 (hboxL k c0 hg), fun k' hm => h3 k' (hJL k' _ hm).2, ⟨arr, e, (hun _ hlt (hboxL k c0 hg)).trans hh, hall J' fun _ => Iff.rfl⟩, fun k' c' hk' hne e => hne (h.bi k' k c' c0 hk' hg e)⟩
theorem Rel.settm (h : Rel N w0 F0 J a w s) (t : Nat) (av : AV) (hv : AR J w (a.tmps.getD t undef) av) : Rel N w0 F0 J a w ⟨ins t av s.tm, s.bx⟩ := by
  refine { h with tm := fun u v hu => ?_ }
  simp only [get_ins] at hu
  split at hu
  · rename_i e; subst e; cases hu; exact hv
  exact h.tm u v hu
theorem getD_put {a : Act} {t u : Nat} {v : Value} (ht : t < a.tmps.size) : (a.put (some t) v).tmps.getD u undef = if u = t then v else a.tmps.getD u undef := by
  simp only [Act.put, Array.getD_eq_getD_getElem?, Array.getElem?_setIfInBounds]
  by_cases h : u = t
  · subst h; simp [ht]
  simp [h, Ne.symm h]
end
class GoM (α : Type) [GoE α] : Prop where
  mkw : ∀ {a : α} {k : Nat}, wide a → wide (GoD.mark a k).1
  mkT : ∀ {a : α} {k : Nat}, wide a → wide (GoD.markT a k).1
instance : GoM Int := ⟨fun _ => trivial, fun _ => trivial⟩
instance : GoM Bool := ⟨fun _ => trivial, fun _ => trivial⟩
instance : GoM ByteArray := ⟨fun _ => trivial, fun _ => trivial⟩
instance {α β : Type} [GoE α] [GoE β] [GoM α] [GoM β] : GoM (α × β) := ⟨fun h => ⟨GoM.mkw h.1, GoM.mkw h.2⟩, fun h => ⟨GoM.mkT h.1, GoM.mkT h.2⟩⟩
theorem markS_wide {α : Type} [GoE α] [GoM α] : ∀ {l : List α} {k : Nat}, (∀ a, a ∈ l → wide a) → ∀ a, a ∈ (markS l k).1 → wide a
  | [], k, _, a, ha => by simp [markS] at ha
  | x :: l, k, h, a, ha => by
    simp only [markS, List.mem_cons] at ha
    rcases ha with rfl | ha
    · exact GoM.mkw (h x List.mem_cons_self)
    exact markS_wide (fun a ha => h a (List.mem_cons_of_mem _ ha)) a ha
instance {α : Type} [GoE α] [GoM α] : GoM (List α) := ⟨fun {l k} h => ⟨by rw [show (GoD.mark l k).1 = (markS l k).1 from rfl, markS_length']; exact h.1, markS_wide h.2⟩, fun {l k} h => ⟨by rw [show (GoD.markT l k).1 = (markS l k).1 from rfl, markS_length']; exact h.1, markS_wide h.2⟩⟩
section
variable {P : Program} {N : Nat} {w0 : Base} {F0 : Nat → Prop} {s s' : St} {Q : Exit → St → Prop}
theorem wpOps_one {ops : Array Oper} {Q : Exit → Act → World → Prop} {i : Nat} {rest : List Nat} {o : Oper} {a : Act} {w : World} (hi : ops[i]? = some o) (hg : o.guard = none) (h : o.wp P a w (wpOps P ops Q rest) Q) : wpOps P ops Q (i :: rest) a w := by
  rw [wpOps_cons]
  unfold wpOp
  simp only [hi]
  rw [if_pos (by simp [Region.wanted, hg])]
  exact .inl h
theorem sizePut {a : Act} {t : Nat} {v : Value} : (a.put (some t) v).tmps.size = a.tmps.size := by simp [Act.put]
def distinct4 (N x y d z p kv : Nat) : Bool := Nat.blt x N && Nat.blt y N && Nat.blt d N && Nat.blt z N && !Nat.beq kv x && !Nat.beq x y && !Nat.beq p x
theorem ne_of_nbeq {a b : Nat} (h : (!Nat.beq a b) = true) : a ≠ b := fun e => by subst e; simp at h
theorem awp_markS {α : Type} [GoE α] [GoM α] {l : List α} {K : Int} {r : List α × Nat} {f : Nat} (hm : MarkS P f l K r) (hr : InR .i64 (r.2 : Int)) (hrw : wide l → wide r.1) (k0 : Nat) {id x y d z p kv : Nat} {o0 o1 o2 o3 : Oper} {tys : Array TypeId} (ts bs : List Nat)
    (p0 : o0.op = .move (.tmp p)) (d0 : o0.dst = some x) (g0 : o0.guard = none) (p1 : o1.op = .move (.tmp kv)) (d1 : o1.dst = some y) (g1 : o1.guard = none)
    (p2 : o2.op = .call ⟨.value (.func f), #[.tmp x, .tmp y], tys⟩) (d2 : o2.dst = some d) (g2 : o2.guard = none) (p3 : o3.op = .assign (.tmp d)) (d3 : o3.dst = some z) (g3 : o3.guard = none) (hN : distinct4 N x y d z p kv = true) (hN2 : (!Nat.beq p y && !Nat.beq p d && !Nat.beq p z) = true)
    (hp : get s.tm p = some (.one (.slc (.own true k0) (GoD.n α) (eL l)))) (hk : get s.tm kv = some (.one (.int .i64 K)))
    (hs : (St.mk (ins p (.one (.slc .sh (GoD.n α) (eL r.1))) ((((s.step (some x) ⟨.one .dead, [], none, none⟩).step (some y) ⟨.one .dead, [], none, none⟩).step (some d) ⟨.one (.int .i64 (r.2 : Int)), killAll [k0], none, none⟩).step (some z) ⟨.one (.int .i64 (r.2 : Int)), [], none, none⟩).tm) ((((s.step (some x) ⟨.one .dead, [], none, none⟩).step (some y) ⟨.one .dead, [], none, none⟩).step (some d) ⟨.one (.int .i64 (r.2 : Int)), killAll [k0], none, none⟩).step (some z) ⟨.one (.int .i64 (r.2 : Int)), [], none, none⟩).bx).keep ts bs = s')
    (hQ : Q .normal s') : AWP P N w0 F0 (.region id #[o0, o1, o2, o3] false) Q s := fun J ac w hr0 => by
  simp only [distinct4, Bool.and_eq_true, Nat.blt_eq] at hN hN2
  obtain ⟨⟨⟨⟨⟨⟨n1, n2⟩, n3⟩, n4⟩, n5⟩, n6⟩, n7⟩ := hN
  have n5 := ne_of_nbeq n5
  have n6 := ne_of_nbeq n6
  have n7 := ne_of_nbeq n7
  have m1 := ne_of_nbeq hN2.1.1
  have m2 := ne_of_nbeq hN2.1.2
  have m3 := ne_of_nbeq hN2.2
  have hpv : CR J w (ac.tmps.getD p undef) (.slc (.own true k0) (GoD.n α) (eL l)) := hr0.tm p _ hp
  generalize hv : ac.tmps.getD p undef = v at hpv
  obtain ⟨hkv, hKr⟩ : ac.tmps.getD kv undef = .int .i64 K ∧ InR .i64 K := hr0.tm kv _ hk
  obtain ⟨L, hov, hnd, hsub, _⟩ := hpv
  have hown : own L w [v] l := ov_ownS hov hnd
  have hwl : wide l := vv_wide (hov.vv (X := fun b => b ∈ L) fun _ h => h)
  have hsx : x < ac.tmps.size := by rw [hr0.size]; exact n1
  have hsy : y < (ac.put (some x) v).tmps.size := by rw [sizePut, hr0.size]; exact n2
  have R1 := hr0.pure (some x) (fun d' e => by cases e; exact n1) (.one .dead) v (fun _ => trivial)
  have R2 := R1.pure (some y) (fun d' e => by cases e; exact n2) (.one .dead) (.int .i64 K) (fun _ => trivial)
  refine wp_region ?_
  show wpOps P _ _ [0, 1, 2, 3] ac w
  refine wpOps_one (o := o0) rfl g0 (wp_of_run (v := v) (w' := w) ?_ ?_)
  · have e1 : ac.eval (.tmp p) = v := hv
    simp [execOp, p0, e1]
  rw [d0]
  refine wpOps_one (o := o1) rfl g1 (wp_of_run (v := .int .i64 K) (w' := w) ?_ ?_)
  · have e1 : (ac.put (some x) v).eval (.tmp kv) = .int .i64 K := (getD_put hsx).trans ((if_neg n5).trans hkv)
    simp [execOp, p1, e1]
  rw [d1]
  refine wpOps_one (o := o2) rfl g2 (wp_callV (caps := #[]) p2 rfl hm.1 ?_)
  have ex : ((ac.put (some x) v).put (some y) (.int .i64 K)).eval (.tmp x) = v := (getD_put hsy).trans ((if_neg n6).trans ((getD_put hsx).trans (if_pos rfl)))
  have ey : ((ac.put (some x) v).put (some y) (.int .i64 K)).eval (.tmp y) = .int .i64 K := (getD_put hsy).trans (if_pos rfl)
  have hargs : (#[Operand.tmp x, Operand.tmp y].map ((ac.put (some x) v).put (some y) (.int .i64 K)).eval ++ #[]) = #[v, .int .i64 K] := by simp [ex, ey]
  rw [hargs]
  refine (hm.2 w L v hown).mono ?_
  rintro en w' ⟨rfl, ho, hc⟩
  have hwr := hrw hwl
  obtain ⟨J', hF, hB, R3⟩ := R2.mark [k0] (fun b hb => ⟨k0, by simp, hsub b hb⟩) hc d n3 (r.2 : Int) hr none (fun k c hk => by cases hk)
  have R4 := R3.pure (some z) (fun d' e => by cases e; exact n4) (.one (.int .i64 (r.2 : Int))) (.int .i64 (r.2 : Int)) (fun _ => ⟨rfl, hr⟩)
  have hsd : d < ((ac.put (some x) v).put (some y) (.int .i64 K)).tmps.size := by rw [sizePut, sizePut, hr0.size]; exact n3
  rw [d2]
  refine wpOps_one (o := o3) rfl g3 (wp_of_run (v := .int .i64 (r.2 : Int)) (w' := w') ?_ ?_)
  · have e1 : (((ac.put (some x) v).put (some y) (.int .i64 K)).put (some d) (.int .i64 (r.2 : Int))).eval (.tmp d) = .int .i64 (r.2 : Int) := (getD_put hsd).trans (if_pos rfl)
    simp [execOp, p3, e1]
  rw [d3]
  have hsz' : z < (((ac.put (some x) v).put (some y) (.int .i64 K)).put (some d) (.int .i64 (r.2 : Int))).tmps.size := by rw [sizePut, sizePut, sizePut, hr0.size]; exact n4
  have ep : ((((ac.put (some x) v).put (some y) (.int .i64 K)).put (some d) (.int .i64 (r.2 : Int))).put (some z) (.int .i64 (r.2 : Int))).tmps.getD p undef = v := by
    rw [getD_put hsz', if_neg m3, getD_put hsd, if_neg m2, getD_put hsy, if_neg m1, getD_put hsx, if_neg n7, hv]
  have hvv : VV J'.F w' v (.slc (GoD.n α) (eL r.1)) := by
    have := (GoE.own_oc ho hwr).vc (X := J'.F) fun b hb => (hF b).2 (.inr hb)
    exact VC.one this
  have R5 := R4.settm p (.one (.slc .sh (GoD.n α) (eL r.1))) (by rw [ep]; exact hvv)
  subst hs
  exact ⟨J', _, R5.less (fun t v hv => get_keep hv) (fun k c hc => get_keep hc), hQ⟩
end
end
end Go.Proofs.YtkadekboakhhiaaGreat
