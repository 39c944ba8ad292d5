/- What functions compute, and that they do (printed by am2.py): each function as a Lean function, then its contract. -/
import Derived.Test.YtiafgmepdgfpbaaIxg
import Derived.Test.YtiafgmepdgfpbaaZc
import Derived.KernelRfl
set_option linter.unusedVariables false
set_option linter.unusedSimpArgs false
namespace Go.Proofs.Ytiafgmepdgfpbaa
open Go.RowKit
open GoE (enc wide)
def lawsbig (code : (List UInt8)) : Bool := decide ((code.length : Int) > (1048576 : Int))
theorem lawsbig_a (code : (List UInt8)) : ACalls Try.prog 5 [.h code] (.b (lawsbig code)) := by
  refine en tt_ok Try.func5 fun w0 F0 hG => ?_
  refine sn tt_ok [0, 2] [] (p0) ?_
  refine tn tt_ok [2] [] (pl 1 code p0) ?_
  refine awp_ret ?_
  exact pb [] (show lawsbig code = decide ((code.length : Int) > (1048576 : Int)) from rfl)
def lawsFnIndexLookup_f1 (code : (List UInt8)) (a0 : FileD) (_ : Nat) (a1 : ByteArray) (_ : Unit) : Rd (Rd (Bool) (Unit) (Unit)) (Unit) (Unit) := (bif (!(specContainsID (implLookupIndex (implBuildIndex (specDrawBuildIndex code)) a1 (specGetAttr a0 a1)) a0.1)) then (.ret (.ret false)) else (.next ()))
def lawsFnIndexLookup_e1 (_ : Nat) (_ : Unit) : Unit := ()
def lawsFnIndexLookup_f0 (code : (List UInt8)) (_ : Nat) (a0 : FileD) (_ : Unit) : Rd (Bool) (Unit) (Unit) := (Out.on (forL (lawsFnIndexLookup_f1 code a0) lawsFnIndexLookup_e1 (implAttrNames a0) 0 ()) (fun _ => (.next ())))
def lawsFnIndexLookup_e0 (_ : Nat) (_ : Unit) : Unit := ()
def lawsFnIndexLookup_f2 (code : (List UInt8)) (_ : Nat) (a2 : Int) (_ : Unit) : Rd (Bool) (Unit) (Unit) := (bif (((((specDrawLookupIndex code)).2.2).1 == (0 : Int)) || (!(((specGetAttr (lawsfileOf (specDrawBuildIndex code) a2) (((specDrawLookupIndex code)).2.1)).1 == (((specDrawLookupIndex code)).2.2).1) && (((specGetAttr (lawsfileOf (specDrawBuildIndex code) a2) (((specDrawLookupIndex code)).2.1)).2.1 == (((specDrawLookupIndex code)).2.2).2.1) && ((((specGetAttr (lawsfileOf (specDrawBuildIndex code) a2) (((specDrawLookupIndex code)).2.1)).2.2).toList == ((((specDrawLookupIndex code)).2.2).2.2).toList) && true))))) then (.ret false) else (.next ()))
def lawsFnIndexLookup_e2 (_ : Nat) (_ : Unit) : Unit := ()
def lawsFnIndexLookup (code : (List UInt8)) : Bool := (bif (lawsbig code) then true else (bif (!(lawssamePostings (implBuildIndex (specDrawBuildIndex code)) (specBuildIndex (specDrawBuildIndex code)))) then false else (bif (!(lawssameInts (implLookupIndex (((specDrawLookupIndex code)).1) (((specDrawLookupIndex code)).2.1) (((specDrawLookupIndex code)).2.2)) (specLookupIndex (((specDrawLookupIndex code)).1) (((specDrawLookupIndex code)).2.1) (((specDrawLookupIndex code)).2.2)))) then false else (Out.on (forL (lawsFnIndexLookup_f0 code) lawsFnIndexLookup_e0 ((specDrawBuildIndex code).2.1) 0 ()) (fun _ => (Out.on (forL (lawsFnIndexLookup_f2 code) lawsFnIndexLookup_e2 (implLookupIndex (implBuildIndex (specDrawBuildIndex code)) (((specDrawLookupIndex code)).2.1) (((specDrawLookupIndex code)).2.2)) 0 ()) (fun _ => (((implLookupIndex (implBuildIndex (lawssampleStore 5)) ⟨#[97]⟩ (1, 5, ⟨#[]⟩)).length : Int) == (1 : Int)))))))))
theorem lawsFnIndexLookup_a (code : (List UInt8)) : ACalls Try.prog 3 [.h code] (.b (lawsFnIndexLookup code)) := by
  refine en tt_ok Try.func3 fun w0 F0 hG => ?_
  refine sn tt_ok [0, 2] [] (p0) ?_
  refine awp_seq ?_
  refine tn tt_ok [0, 2, 14] [] (pc 1 (lawsbig_a code) p0) ?_
  refine ck (lawsbig code) (fun h1 => ?_) (fun h1 => ?_)
  ·
    refine tu tt_ok [(2, .b true)] [] [] [] (p0) ?_
    refine awp_ret ?_
    exact pb [] (bif_t h1 (rfl))
  ·
    refine awp_skip ?_
    refine tu tt_ok [(2, .b false), (3, .p 3 0)] [] [(3, [.o 1024 ((specDrawBuildIndex code).1), .q 1025 ((specDrawBuildIndex code).2.1), .i ((specDrawBuildIndex code).2.2)])] [] (pc 1 (specDrawBuildIndex_a code) p0) ?_
    refine sn tt_ok [0, 2, 3, 4] [3] (pc 1 (implBuildIndex_a (specDrawBuildIndex code) (Nat.le_trans (drawIx_attrs code) (by decide))) p0) ?_
    refine awp_seq ?_
    refine tn tt_ok [0, 2, 3, 4, 23] [3] (pc 2 (specBuildIndex_a (specDrawBuildIndex code) (Nat.le_trans (drawIx_attrs code) (by decide))) (pc 3 (lawssamePostings_a (implBuildIndex (specDrawBuildIndex code)) (specBuildIndex (specDrawBuildIndex code))) p0)) ?_
    refine ck (!(lawssamePostings (implBuildIndex (specDrawBuildIndex code)) (specBuildIndex (specDrawBuildIndex code)))) (fun h2 => ?_) (fun h2 => ?_)
    ·
      have h2n : (lawssamePostings (implBuildIndex (specDrawBuildIndex code)) (specBuildIndex (specDrawBuildIndex code))) = false := bnot_t h2
      refine tu tt_ok [(4, .o 1152 (implBuildIndex (specDrawBuildIndex code)))] [] [(3, [.h ((specDrawBuildIndex code).1), .h ((specDrawBuildIndex code).2.1), .i ((specDrawBuildIndex code).2.2)])] [3] (p0) ?_
      refine awp_ret ?_
      exact pb [] (bif_f h1 (bif_t h2 (rfl)))
    ·
      have h2n : (lawssamePostings (implBuildIndex (specDrawBuildIndex code)) (specBuildIndex (specDrawBuildIndex code))) = true := bnot_f h2
      refine awp_skip ?_
      refine tu tt_ok [(4, .o 1152 (implBuildIndex (specDrawBuildIndex code))), (5, .q 1664 (((specDrawLookupIndex code)).1)), (6, .s (((specDrawLookupIndex code)).2.1)), (7, .p 7 0)] [0] [(3, [.h ((specDrawBuildIndex code).1), .h ((specDrawBuildIndex code).2.1), .i ((specDrawBuildIndex code).2.2)]), (7, [.i ((((specDrawLookupIndex code)).2.2).1), .i ((((specDrawLookupIndex code)).2.2).2.1), .s ((((specDrawLookupIndex code)).2.2).2.2)])] [3] (pc 1 (specDrawLookupIndex_a code) p0) ?_
      refine awp_seq ?_
      refine sN tt_ok tt_mx [2, 3, 4, 6, 7, 39] [3, 7] (pc 3 (implLookupIndex_a (((specDrawLookupIndex code)).1) (((specDrawLookupIndex code)).2.1) (((specDrawLookupIndex code)).2.2)) (pc 7 (specLookupIndex_a (((specDrawLookupIndex code)).1) (((specDrawLookupIndex code)).2.1) (((specDrawLookupIndex code)).2.2)) (pc 8 (lawssameInts_a (implLookupIndex (((specDrawLookupIndex code)).1) (((specDrawLookupIndex code)).2.1) (((specDrawLookupIndex code)).2.2)) (specLookupIndex (((specDrawLookupIndex code)).1) (((specDrawLookupIndex code)).2.1) (((specDrawLookupIndex code)).2.2))) p0))) ?_
      refine ck (!(lawssameInts (implLookupIndex (((specDrawLookupIndex code)).1) (((specDrawLookupIndex code)).2.1) (((specDrawLookupIndex code)).2.2)) (specLookupIndex (((specDrawLookupIndex code)).1) (((specDrawLookupIndex code)).2.1) (((specDrawLookupIndex code)).2.2)))) (fun h3 => ?_) (fun h3 => ?_)
      ·
        have h3n : (lawssameInts (implLookupIndex (((specDrawLookupIndex code)).1) (((specDrawLookupIndex code)).2.1) (((specDrawLookupIndex code)).2.2)) (specLookupIndex (((specDrawLookupIndex code)).1) (((specDrawLookupIndex code)).2.1) (((specDrawLookupIndex code)).2.2))) = false := bnot_t h3
        refine tu tt_ok [] [5] [] [] (p0) ?_
        refine awp_ret ?_
        exact pb [] (bif_f h1 (bif_f h2 (bif_t h3 (rfl))))
      ·
        have h3n : (lawssameInts (implLookupIndex (((specDrawLookupIndex code)).1) (((specDrawLookupIndex code)).2.1) (((specDrawLookupIndex code)).2.2)) (specLookupIndex (((specDrawLookupIndex code)).1) (((specDrawLookupIndex code)).2.1) (((specDrawLookupIndex code)).2.2))) = true := bnot_f h3
        refine awp_skip ?_
        refine awp_seq ?_
        refine tu tt_ok [(8, .i 0)] [5] [] [] (p0) ?_
        refine wB 3 1 .sh ((specDrawBuildIndex code).2.1) (fun hw4 hl5 => ?_)
        refine blL0 (lawsFnIndexLookup_f0 code) lawsFnIndexLookup_e0 ((specDrawBuildIndex code).2.1) () (fun k0 _ => [(8, .i ((k0 : Nat) : Int))]) [8] (fun _ => []) [8] (weak_fit (by kernel_rfl)) (fun k0 s0 hk0 hI0 => ?_) (fun k0 s0 hk0 hI0 => ?_) (fun y0 hD0 => ?_)
        ·
          obtain ⟨a0, hx0⟩ := get_some (l := (specDrawBuildIndex code).2.1) (i := k0) hk0
          refine awp_seq ?_
          refine su tt_ok [(44, .b true)] [] [] [] (pl 3 ((specDrawBuildIndex code).2.1) (pe 4 (av_bool (decide_eq_true (p := ((k0 : Nat) : Int) < (((specDrawBuildIndex code).2.1).length : Int)) (by omega))) p0)) ?_
          refine ckT ?_
          refine awp_skip ?_
          refine awp_seq ?_
          refine awp_block ?_
          refine sn tt_ok [2, 3, 4, 6, 7, 8, 9] [3, 7] (pn 3 hx0 (pc 5 (implAttrNames_a a0) p0)) ?_
          refine tn tt_ok [2, 3, 4, 6, 7, 8, 9, 10] [3, 7] (p0) ?_
          refine mz [(9, .o 3328 (implAttrNames a0)), (10, .i 0)] [44] [] [] ?_
          refine wT 9 0 (.own true 3328) (implAttrNames a0) (fun hw6 hl7 => ?_)
          refine blL0 (lawsFnIndexLookup_f1 code a0) lawsFnIndexLookup_e1 (implAttrNames a0) () (fun k1 _ => [(10, .i ((k1 : Nat) : Int))]) [10] (fun _ => []) [9, 10] (weak_fit (by kernel_rfl)) (fun k1 s1 hk1 hI1 => ?_) (fun k1 s1 hk1 hI1 => ?_) (fun y1 hD1 => ?_)
          ·
            obtain ⟨a1, hx1⟩ := get_some (l := implAttrNames a0) (i := k1) hk1
            refine awp_seq ?_
            refine su tt_ok [(56, .b true)] [] [] [] (pl 2 (implAttrNames a0) (pe 3 (av_bool (decide_eq_true (p := ((k1 : Nat) : Int) < ((implAttrNames a0).length : Int)) (by omega))) p0)) ?_
            refine ckT ?_
            refine awp_skip ?_
            refine awp_seq ?_
            refine awp_block ?_
            refine sN tt_ok tt_mx [2, 3, 4, 6, 7, 8, 9, 10, 82] [3, 7] (pN 3 hx1 (pn 8 hx0 (pN 12 hx1 (pc 14 (specGetAttr_a a0 a1) (pc 15 (implLookupIndex_a (implBuildIndex (specDrawBuildIndex code)) a1 (specGetAttr a0 a1)) (pn 19 hx0 (pc 22 (specContainsID_a (implLookupIndex (implBuildIndex (specDrawBuildIndex code)) a1 (specGetAttr a0 a1)) a0.1) p0))))))) ?_
            refine ck (!(specContainsID (implLookupIndex (implBuildIndex (specDrawBuildIndex code)) a1 (specGetAttr a0 a1)) a0.1)) (fun h8 => ?_) (fun h8 => ?_)
            ·
              have h8n : (specContainsID (implLookupIndex (implBuildIndex (specDrawBuildIndex code)) a1 (specGetAttr a0 a1)) a0.1) = false := bnot_t h8
              refine tu tt_ok [] [56] [] [] (p0) ?_
              refine awp_ret ?_
              have hr9 : (forL (lawsFnIndexLookup_f1 code a0) lawsFnIndexLookup_e1 (implAttrNames a0) 0 ()) = .ret (.ret false) := forL_ret hx1 (bif_t h8 (rfl)) hI1
              have hr10 : (forL (lawsFnIndexLookup_f0 code) lawsFnIndexLookup_e0 ((specDrawBuildIndex code).2.1) 0 ()) = .ret false := forL_ret hx0 (on_r hr9) hI0
              exact pb [] (bif_f h1 (bif_f h2 (bif_f h3 (on_r hr10))))
            ·
              have h8n : (specContainsID (implLookupIndex (implBuildIndex (specDrawBuildIndex code)) a1 (specGetAttr a0 a1)) a0.1) = true := bnot_f h8
              refine awp_skip ?_
              refine qn tt_ok [2, 3, 4, 6, 7, 8, 9, 10] [3, 7] (pe 1 (av_i (wrap_succ k1 (by omega))) p0) ?_
              exact Exists.intro _ (And.intro (weak_fit (by kernel_rfl)) (forL_next hx1 (bif_f h8 (rfl)) hI1))
          ·
            refine awp_seq ?_
            refine su tt_ok [(56, .b false)] [] [] [] (pl 2 (implAttrNames a0) (pe 3 (av_bool (decide_eq_false (p := ((k1 : Nat) : Int) < ((implAttrNames a0).length : Int)) (by omega))) p0)) ?_
            refine ckF ?_
            refine awp_exit ?_
            exact Exists.intro _ (And.intro (weak_fit (by kernel_rfl)) (forL_end hk1 (rfl) hI1))
          ·
            refine rn tt_ok [2, 3, 4, 6, 7, 8] [3, 7] (pe 1 (av_i (wrap_succ k0 (by omega))) p0) ?_
            exact Exists.intro _ (And.intro (weak_fit (by kernel_rfl)) (forL_next hx0 (on_b hD1 (rfl)) hI0))
        ·
          refine awp_seq ?_
          refine su tt_ok [(44, .b false)] [] [] [] (pl 3 ((specDrawBuildIndex code).2.1) (pe 4 (av_bool (decide_eq_false (p := ((k0 : Nat) : Int) < (((specDrawBuildIndex code).2.1).length : Int)) (by omega))) p0)) ?_
          refine ckF ?_
          refine awp_exit ?_
          exact Exists.intro _ (And.intro (weak_fit (by kernel_rfl)) (forL_end hk0 (rfl) hI0))
        ·
          refine sn tt_ok [2, 3, 6, 7, 11] [3, 7] (pc 3 (implLookupIndex_a (implBuildIndex (specDrawBuildIndex code)) (((specDrawLookupIndex code)).2.1) (((specDrawLookupIndex code)).2.2)) p0) ?_
          refine awp_seq ?_
          refine tn tt_ok [2, 3, 6, 7, 11, 12] [3, 7] (p0) ?_
          refine mz [(11, .o 5504 (implLookupIndex (implBuildIndex (specDrawBuildIndex code)) (((specDrawLookupIndex code)).2.1) (((specDrawLookupIndex code)).2.2))), (12, .i 0)] [4] [] [] ?_
          refine wT 11 0 (.own true 5504) (implLookupIndex (implBuildIndex (specDrawBuildIndex code)) (((specDrawLookupIndex code)).2.1) (((specDrawLookupIndex code)).2.2)) (fun hw11 hl12 => ?_)
          refine blL0b (lawsFnIndexLookup_f2 code) lawsFnIndexLookup_e2 (implLookupIndex (implBuildIndex (specDrawBuildIndex code)) (((specDrawLookupIndex code)).2.1) (((specDrawLookupIndex code)).2.2)) () (fun k2 _ => [(12, .i ((k2 : Nat) : Int))]) [12] (fun _ _ => []) [] (fun _ => []) [3, 6, 7, 11, 12] (fun _ => []) [3, 7] (weak_fit (by kernel_rfl)) (fun k2 s2 hk2 hI2 => ?_) (fun k2 s2 hk2 hI2 => ?_) (fun y2 hD2 => ?_)
          ·
            obtain ⟨a2, hx2⟩ := get_some (l := implLookupIndex (implBuildIndex (specDrawBuildIndex code)) (((specDrawLookupIndex code)).2.1) (((specDrawLookupIndex code)).2.2)) (i := k2) hk2
            refine awp_seq ?_
            refine su tt_ok [(90, .b true)] [] [] [] (pl 2 (implLookupIndex (implBuildIndex (specDrawBuildIndex code)) (((specDrawLookupIndex code)).2.1) (((specDrawLookupIndex code)).2.2)) (pe 3 (av_bool (decide_eq_true (p := ((k2 : Nat) : Int) < ((implLookupIndex (implBuildIndex (specDrawBuildIndex code)) (((specDrawLookupIndex code)).2.1) (((specDrawLookupIndex code)).2.2)).length : Int)) (by omega))) p0)) ?_
            refine ckT ?_
            refine awp_skip ?_
            refine awp_seq ?_
            refine awp_block ?_
            refine awp_seq ?_
            refine jn [(107, .b (((((specDrawLookupIndex code)).2.2).1 == (0 : Int)) || (!(((specGetAttr (lawsfileOf (specDrawBuildIndex code) a2) (((specDrawLookupIndex code)).2.1)).1 == (((specDrawLookupIndex code)).2.2).1) && (((specGetAttr (lawsfileOf (specDrawBuildIndex code) a2) (((specDrawLookupIndex code)).2.1)).2.1 == (((specDrawLookupIndex code)).2.2).2.1) && ((((specGetAttr (lawsfileOf (specDrawBuildIndex code) a2) (((specDrawLookupIndex code)).2.1)).2.2).toList == ((((specDrawLookupIndex code)).2.2).2.2).toList) && true))))))] [90] [] [] ((((specDrawLookupIndex code)).2.2).1 == (0 : Int)) (fun h13 => ?_) (fun h13 => ?_) ?_
            ·
              have h13d := eq_of_beq h13
              refine rU tt_ok tt_mx [(107, .b true)] [90] [] [] (pt 2 h13 p0) ?_
              exact ⟨rfl, weak_fit (by rw [h13]; first | done | kernel_rfl)⟩
            ·
              have h13d := ne_of_beq h13
              refine rN tt_ok tt_mx [2, 3, 6, 7, 11, 12, 107] [3, 7] (pf 2 h13 (pN 7 hx2 (pc 9 (lawsfileOf_a (specDrawBuildIndex code) a2) (pc 11 (specGetAttr_a (lawsfileOf (specDrawBuildIndex code) a2) (((specDrawLookupIndex code)).2.1)) p0)))) ?_
              exact ⟨rfl, weak_fit (by rw [h13]; first | done | kernel_rfl)⟩
            refine ck (((((specDrawLookupIndex code)).2.2).1 == (0 : Int)) || (!(((specGetAttr (lawsfileOf (specDrawBuildIndex code) a2) (((specDrawLookupIndex code)).2.1)).1 == (((specDrawLookupIndex code)).2.2).1) && (((specGetAttr (lawsfileOf (specDrawBuildIndex code) a2) (((specDrawLookupIndex code)).2.1)).2.1 == (((specDrawLookupIndex code)).2.2).2.1) && ((((specGetAttr (lawsfileOf (specDrawBuildIndex code) a2) (((specDrawLookupIndex code)).2.1)).2.2).toList == ((((specDrawLookupIndex code)).2.2).2.2).toList) && true))))) (fun h14 => ?_) (fun h14 => ?_)
            ·
              refine su tt_ok [] [107] [] [] (p0) ?_
              refine awp_ret ?_
              have hr15 : (forL (lawsFnIndexLookup_f2 code) lawsFnIndexLookup_e2 (implLookupIndex (implBuildIndex (specDrawBuildIndex code)) (((specDrawLookupIndex code)).2.1) (((specDrawLookupIndex code)).2.2)) 0 ()) = .ret false := forL_ret hx2 (bif_t h14 (rfl)) hI2
              exact pb [] (bif_f h1 (bif_f h2 (bif_f h3 (on_b hD0 (on_r hr15)))))
            ·
              have h14l : (((((specDrawLookupIndex code)).2.2).1 == (0 : Int))) = false := or_l h14
              have h14ld := ne_of_beq h14l
              have h14r : ((!(((specGetAttr (lawsfileOf (specDrawBuildIndex code) a2) (((specDrawLookupIndex code)).2.1)).1 == (((specDrawLookupIndex code)).2.2).1) && (((specGetAttr (lawsfileOf (specDrawBuildIndex code) a2) (((specDrawLookupIndex code)).2.1)).2.1 == (((specDrawLookupIndex code)).2.2).2.1) && ((((specGetAttr (lawsfileOf (specDrawBuildIndex code) a2) (((specDrawLookupIndex code)).2.1)).2.2).toList == ((((specDrawLookupIndex code)).2.2).2.2).toList) && true))))) = false := or_r h14
              have h14rn : (((specGetAttr (lawsfileOf (specDrawBuildIndex code) a2) (((specDrawLookupIndex code)).2.1)).1 == (((specDrawLookupIndex code)).2.2).1) && (((specGetAttr (lawsfileOf (specDrawBuildIndex code) a2) (((specDrawLookupIndex code)).2.1)).2.1 == (((specDrawLookupIndex code)).2.2).2.1) && ((((specGetAttr (lawsfileOf (specDrawBuildIndex code) a2) (((specDrawLookupIndex code)).2.1)).2.2).toList == ((((specDrawLookupIndex code)).2.2).2.2).toList) && true))) = true := bnot_f h14r
              have h14rnl : (((specGetAttr (lawsfileOf (specDrawBuildIndex code) a2) (((specDrawLookupIndex code)).2.1)).1 == (((specDrawLookupIndex code)).2.2).1)) = true := and_l h14rn
              have h14rnld := eq_of_beq h14rnl
              have h14rnr : ((((specGetAttr (lawsfileOf (specDrawBuildIndex code) a2) (((specDrawLookupIndex code)).2.1)).2.1 == (((specDrawLookupIndex code)).2.2).2.1) && ((((specGetAttr (lawsfileOf (specDrawBuildIndex code) a2) (((specDrawLookupIndex code)).2.1)).2.2).toList == ((((specDrawLookupIndex code)).2.2).2.2).toList) && true))) = true := and_r h14rn
              have h14rnrl : (((specGetAttr (lawsfileOf (specDrawBuildIndex code) a2) (((specDrawLookupIndex code)).2.1)).2.1 == (((specDrawLookupIndex code)).2.2).2.1)) = true := and_l h14rnr
              have h14rnrld := eq_of_beq h14rnrl
              have h14rnrr : (((((specGetAttr (lawsfileOf (specDrawBuildIndex code) a2) (((specDrawLookupIndex code)).2.1)).2.2).toList == ((((specDrawLookupIndex code)).2.2).2.2).toList) && true)) = true := and_r h14rnr
              have h14rnrrl : ((((specGetAttr (lawsfileOf (specDrawBuildIndex code) a2) (((specDrawLookupIndex code)).2.1)).2.2).toList == ((((specDrawLookupIndex code)).2.2).2.2).toList)) = true := and_l h14rnrr
              have h14rnrrr : (true) = true := and_r h14rnrr
              refine awp_skip ?_
              refine rn tt_ok [2, 3, 6, 7, 11, 12] [3, 7] (pe 1 (av_i (wrap_succ k2 (by omega))) p0) ?_
              exact Exists.intro _ (And.intro (weak_fit (by kernel_rfl)) (forL_next hx2 (bif_f h14 (rfl)) hI2))
          ·
            refine awp_seq ?_
            refine su tt_ok [(90, .b false)] [] [] [] (pl 2 (implLookupIndex (implBuildIndex (specDrawBuildIndex code)) (((specDrawLookupIndex code)).2.1) (((specDrawLookupIndex code)).2.2)) (pe 3 (av_bool (decide_eq_false (p := ((k2 : Nat) : Int) < ((implLookupIndex (implBuildIndex (specDrawBuildIndex code)) (((specDrawLookupIndex code)).2.1) (((specDrawLookupIndex code)).2.2)).length : Int)) (by omega))) p0)) ?_
            refine ckF ?_
            refine awp_exit ?_
            exact Exists.intro _ (And.intro (weak_fit (by kernel_rfl)) (forL_end hk2 (rfl) hI2))
          ·
            refine sn tt_ok [2] [] (pc 0 (lawssampleStore_a 5) (pc 1 (implBuildIndex_a (lawssampleStore 5) sample_attrs) (pc 3 (implLookupIndex_a (implBuildIndex (lawssampleStore 5)) ⟨#[97]⟩ (1, 5, ⟨#[]⟩)) (pl 4 (implLookupIndex (implBuildIndex (lawssampleStore 5)) ⟨#[97]⟩ (1, 5, ⟨#[]⟩)) p0)))) ?_
            refine awp_ret ?_
            exact pb [] (bif_f h1 (bif_f h2 (bif_f h3 (on_b hD0 (on_b hD2 (rfl))))))
end Go.Proofs.Ytiafgmepdgfpbaa
