/- What functions compute, and that they do (printed by am2.py): each function as a Lean function, then its contract. -/
import Derived.Test.YtcnkkobgogmakaaQua
import Derived.Test.YtcnkkobgogmakaaZc
import Derived.KernelRfl
set_option linter.unusedVariables false
set_option linter.unusedSimpArgs false
namespace Go.Proofs.Ytcnkkobgogmakaa
open Go.RowKit
open GoE (enc wide)
def lawsbig (code : (List UInt8)) : Bool := decide ((code.length : Int) > (1048576 : Int))
theorem lawsbig_a (code : (List UInt8)) : ACalls Try.prog 6 [.h code] (.b (lawsbig code)) := by
  refine en tt_ok Try.func6 fun w0 F0 hG => ?_
  refine sn tt_ok [0, 2] [] (p0) ?_
  refine tn tt_ok [2] [] (pl 1 code p0) ?_
  refine awp_ret ?_
  exact pb [] (show lawsbig code = decide ((code.length : Int) > (1048576 : Int)) from rfl)
def lawssampleStore (n : Int) : StoreD := (((specCreateFile (specNewStore specDefaultSchema) (specSetAttr (0, 0, false, 0, []) ⟨#[97]⟩ (specIntValue n)))).1)
theorem lawssampleStore_a (n : Int) : ACalls Try.prog 25 [.i n] (.a [.o 0 ((lawssampleStore n).1), .o 1 ((lawssampleStore n).2.1), .i ((lawssampleStore n).2.2)]) := by
  refine en tt_ok Try.func25 fun w0 F0 hG => ?_
  refine sn tt_ok [0, 2] [2] (p0) ?_
  refine tn tt_ok [2, 3] [2, 3] (pc 0 (specDefaultSchema_a) (pc 1 (specNewStore_a specDefaultSchema) (pc 4 (specIntValue_a n) (pc 5 (specSetAttr_a (0, 0, false, 0, []) ⟨#[97]⟩ (specIntValue n) (by first | omega | (simp; done) | (simp; omega))) (pc 6 (specCreateFile_a (specNewStore specDefaultSchema) (specSetAttr (0, 0, false, 0, []) ⟨#[97]⟩ (specIntValue n))) p0))))) ?_
  refine tu tt_ok [(2, .p 2 0)] [0] [(2, [.o 832 ((((specCreateFile (specNewStore specDefaultSchema) (specSetAttr (0, 0, false, 0, []) ⟨#[97]⟩ (specIntValue n)))).1).1), .o 833 ((((specCreateFile (specNewStore specDefaultSchema) (specSetAttr (0, 0, false, 0, []) ⟨#[97]⟩ (specIntValue n)))).1).2.1), .i ((((specCreateFile (specNewStore specDefaultSchema) (specSetAttr (0, 0, false, 0, []) ⟨#[97]⟩ (specIntValue n)))).1).2.2)])] [] (p0) ?_
  refine awp_ret ?_
  exact pz [] (show lawssampleStore n = (((specCreateFile (specNewStore specDefaultSchema) (specSetAttr (0, 0, false, 0, []) ⟨#[97]⟩ (specIntValue n)))).1) from rfl) (fun z => .a [.o 0 z.1, .o 1 z.2.1, .i z.2.2])
def lawsFnQuotas_f0 (code : (List UInt8)) (_ : Nat) (a0 : Int) (s0 : Int) : Rd (Bool) (Int) (Int) := (.next (IntKind.i64.wrap (s0 + (implFileCost (lawsfileOf (((specDrawQuotaUsed code)).1) a0)))))
def lawsFnQuotas_e0 (_ : Nat) (s0 : Int) : Int := s0
def lawsFnQuotas (code : (List UInt8)) : Bool := (bif (lawsbig code) then true else (Out.on (forL (lawsFnQuotas_f0 code) lawsFnQuotas_e0 (specFilesOwnedBy (((specDrawQuotaUsed code)).1) (((specDrawQuotaUsed code)).2)) 0 0) (fun y0 => (((implQuotaUsed (((specDrawQuotaUsed code)).1) (((specDrawQuotaUsed code)).2)) == (specQuotaUsed (((specDrawQuotaUsed code)).1) (((specDrawQuotaUsed code)).2))) && (bif (!(specIsValidStore (((specDrawQuotaUsed code)).1))) then (((implIsWithinQuota (((specDrawIsWithinQuota code)).1) (((specDrawIsWithinQuota code)).2)) == (specIsWithinQuota (((specDrawIsWithinQuota code)).1) (((specDrawIsWithinQuota code)).2))) && (((implQuotaLeft (((specDrawQuotaLeft code)).1) (((specDrawQuotaLeft code)).2.1) (((specDrawQuotaLeft code)).2.2)) == (specQuotaLeft (((specDrawQuotaLeft code)).1) (((specDrawQuotaLeft code)).2.1) (((specDrawQuotaLeft code)).2.2))) && (((implFileCost (specDrawFileCost code)) == (specFileCost (specDrawFileCost code))) && (((implIsValidQuota (specDrawIsValidQuota code)) == (specIsValidQuota (specDrawIsValidQuota code))) && ((implQuotaLeft (lawssampleStore 1) [5] 0) == (3 : Int)))))) else (((implQuotaUsed (((specDrawQuotaUsed code)).1) (((specDrawQuotaUsed code)).2)) == y0) && (((implIsWithinQuota (((specDrawIsWithinQuota code)).1) (((specDrawIsWithinQuota code)).2)) == (specIsWithinQuota (((specDrawIsWithinQuota code)).1) (((specDrawIsWithinQuota code)).2))) && (((implQuotaLeft (((specDrawQuotaLeft code)).1) (((specDrawQuotaLeft code)).2.1) (((specDrawQuotaLeft code)).2.2)) == (specQuotaLeft (((specDrawQuotaLeft code)).1) (((specDrawQuotaLeft code)).2.1) (((specDrawQuotaLeft code)).2.2))) && (((implFileCost (specDrawFileCost code)) == (specFileCost (specDrawFileCost code))) && (((implIsValidQuota (specDrawIsValidQuota code)) == (specIsValidQuota (specDrawIsValidQuota code))) && ((implQuotaLeft (lawssampleStore 1) [5] 0) == (3 : Int))))))))))))
theorem lawsFnQuotas_a (code : (List UInt8)) : ACalls Try.prog 3 [.h code] (.b (lawsFnQuotas code)) := by
  refine en tt_ok Try.func3 fun w0 F0 hG => ?_
  refine sn tt_ok [0, 2] [] (p0) ?_
  refine awp_seq ?_
  refine tn tt_ok [0, 2, 17] [] (pc 1 (lawsbig_a code) p0) ?_
  refine ck (lawsbig code) (fun h1 => ?_) (fun h1 => ?_)
  ·
    refine tu tt_ok [(2, .b true)] [] [] [] (p0) ?_
    refine awp_ret ?_
    exact pb [] (bif_t h1 (rfl))
  ·
    refine awp_skip ?_
    refine tu tt_ok [(2, .b false), (3, .p 3 0), (4, .i (((specDrawQuotaUsed code)).2))] [] [(3, [.h ((((specDrawQuotaUsed code)).1).1), .q 1280 ((((specDrawQuotaUsed code)).1).2.1), .i ((((specDrawQuotaUsed code)).1).2.2)])] [] (pc 1 (specDrawQuotaUsed_a code) p0) ?_
    refine sn tt_ok [0, 2, 3, 4, 5, 6] [3, 5] (pc 1 (specDrawIsWithinQuota_a code) p0) ?_
    refine tn tt_ok [0, 2, 3, 4, 5, 6, 7, 8, 9] [3, 5, 7] (pc 1 (specDrawQuotaLeft_a code) p0) ?_
    refine tu tt_ok [(5, .p 5 0), (6, .h (((specDrawIsWithinQuota code)).2)), (7, .p 7 0), (8, .h (((specDrawQuotaLeft code)).2.1)), (9, .i (((specDrawQuotaLeft code)).2.2)), (10, .p 10 0)] [] [(5, [.o 1600 ((((specDrawIsWithinQuota code)).1).1), .q 1601 ((((specDrawIsWithinQuota code)).1).2.1), .i ((((specDrawIsWithinQuota code)).1).2.2)]), (7, [.o 1920 ((((specDrawQuotaLeft code)).1).1), .q 1921 ((((specDrawQuotaLeft code)).1).2.1), .i ((((specDrawQuotaLeft code)).1).2.2)]), (10, [.i ((specDrawFileCost code).1), .i ((specDrawFileCost code).2.1), .b ((specDrawFileCost code).2.2.1), .i ((specDrawFileCost code).2.2.2.1), .o 2240 ((specDrawFileCost code).2.2.2.2)])] [] (pc 1 (specDrawFileCost_a code) p0) ?_
    refine sn tt_ok [0, 2, 3, 4, 5, 6, 7, 8, 9, 10, 11] [3, 5, 7, 10] (pc 2 (implQuotaUsed_a (((specDrawQuotaUsed code)).1) (((specDrawQuotaUsed code)).2)) p0) ?_
    refine tn tt_ok [0, 2, 3, 4, 5, 6, 7, 8, 9, 10, 11, 12] [3, 5, 7, 10] (pc 2 (specFilesOwnedBy_a (((specDrawQuotaUsed code)).1) (((specDrawQuotaUsed code)).2)) p0) ?_
    refine tu tt_ok [(11, .i (implQuotaUsed (((specDrawQuotaUsed code)).1) (((specDrawQuotaUsed code)).2))), (12, .o 2624 (specFilesOwnedBy (((specDrawQuotaUsed code)).1) (((specDrawQuotaUsed code)).2))), (13, .i 0)] [] [] [] (p0) ?_
    refine awp_seq ?_
    refine su tt_ok [(14, .i 0)] [] [] [] (p0) ?_
    refine wT 12 0 (.own true 2624) (specFilesOwnedBy (((specDrawQuotaUsed code)).1) (((specDrawQuotaUsed code)).2)) (fun hw2 hl3 => ?_)
    refine blL0 (lawsFnQuotas_f0 code) lawsFnQuotas_e0 (specFilesOwnedBy (((specDrawQuotaUsed code)).1) (((specDrawQuotaUsed code)).2)) 0 (fun k0 s0 => [(13, .i s0), (14, .i ((k0 : Nat) : Int))]) [13, 14] (fun y0 => [(13, .i y0)]) [12, 13, 14] (weak_fit (by kernel_rfl)) (fun k0 s0 hk0 hI0 => ?_) (fun k0 s0 hk0 hI0 => ?_) (fun y0 hD0 => ?_)
    ·
      obtain ⟨a0, hx0⟩ := get_some (l := specFilesOwnedBy (((specDrawQuotaUsed code)).1) (((specDrawQuotaUsed code)).2)) (i := k0) hk0
      refine awp_seq ?_
      refine su tt_ok [(45, .b true)] [] [] [] (pl 2 (specFilesOwnedBy (((specDrawQuotaUsed code)).1) (((specDrawQuotaUsed code)).2)) (pe 3 (av_bool (decide_eq_true (p := ((k0 : Nat) : Int) < ((specFilesOwnedBy (((specDrawQuotaUsed code)).1) (((specDrawQuotaUsed code)).2)).length : Int)) (by omega))) p0)) ?_
      refine ckT ?_
      refine awp_skip ?_
      refine awp_seq ?_
      refine awp_block ?_
      refine rN tt_ok tt_mx [0, 2, 3, 4, 5, 6, 7, 8, 9, 10, 11, 12, 13, 14] [3, 5, 7, 10] (pN 4 hx0 (pc 6 (lawsfileOf_a (((specDrawQuotaUsed code)).1) a0) (pc 7 (implFileCost_a (lawsfileOf (((specDrawQuotaUsed code)).1) a0)) p0))) ?_
      refine qn tt_ok [0, 2, 3, 4, 5, 6, 7, 8, 9, 10, 11, 12, 13, 14] [3, 5, 7, 10] (pe 1 (av_i (wrap_succ k0 (by omega))) p0) ?_
      exact Exists.intro _ (And.intro (weak_fit (by kernel_rfl)) (forL_next hx0 (rfl) hI0))
    ·
      refine awp_seq ?_
      refine su tt_ok [(45, .b false)] [] [] [] (pl 2 (specFilesOwnedBy (((specDrawQuotaUsed code)).1) (((specDrawQuotaUsed code)).2)) (pe 3 (av_bool (decide_eq_false (p := ((k0 : Nat) : Int) < ((specFilesOwnedBy (((specDrawQuotaUsed code)).1) (((specDrawQuotaUsed code)).2)).length : Int)) (by omega))) p0)) ?_
      refine ckF ?_
      refine awp_exit ?_
      exact Exists.intro _ (And.intro (weak_fit (by kernel_rfl)) (forL_end hk0 (rfl) hI0))
    ·
      refine su tt_ok [(15, .h (specDrawIsValidQuota code))] [0] [] [] (pc 1 (specDrawIsValidQuota_a code) p0) ?_
      refine awp_seq ?_
      refine jn [(2, .b (((implQuotaUsed (((specDrawQuotaUsed code)).1) (((specDrawQuotaUsed code)).2)) == (specQuotaUsed (((specDrawQuotaUsed code)).1) (((specDrawQuotaUsed code)).2))) && (bif (!(specIsValidStore (((specDrawQuotaUsed code)).1))) then (((implIsWithinQuota (((specDrawIsWithinQuota code)).1) (((specDrawIsWithinQuota code)).2)) == (specIsWithinQuota (((specDrawIsWithinQuota code)).1) (((specDrawIsWithinQuota code)).2))) && (((implQuotaLeft (((specDrawQuotaLeft code)).1) (((specDrawQuotaLeft code)).2.1) (((specDrawQuotaLeft code)).2.2)) == (specQuotaLeft (((specDrawQuotaLeft code)).1) (((specDrawQuotaLeft code)).2.1) (((specDrawQuotaLeft code)).2.2))) && (((implFileCost (specDrawFileCost code)) == (specFileCost (specDrawFileCost code))) && (((implIsValidQuota (specDrawIsValidQuota code)) == (specIsValidQuota (specDrawIsValidQuota code))) && ((implQuotaLeft (lawssampleStore 1) [5] 0) == (3 : Int)))))) else (((implQuotaUsed (((specDrawQuotaUsed code)).1) (((specDrawQuotaUsed code)).2)) == y0) && (((implIsWithinQuota (((specDrawIsWithinQuota code)).1) (((specDrawIsWithinQuota code)).2)) == (specIsWithinQuota (((specDrawIsWithinQuota code)).1) (((specDrawIsWithinQuota code)).2))) && (((implQuotaLeft (((specDrawQuotaLeft code)).1) (((specDrawQuotaLeft code)).2.1) (((specDrawQuotaLeft code)).2.2)) == (specQuotaLeft (((specDrawQuotaLeft code)).1) (((specDrawQuotaLeft code)).2.1) (((specDrawQuotaLeft code)).2.2))) && (((implFileCost (specDrawFileCost code)) == (specFileCost (specDrawFileCost code))) && (((implIsValidQuota (specDrawIsValidQuota code)) == (specIsValidQuota (specDrawIsValidQuota code))) && ((implQuotaLeft (lawssampleStore 1) [5] 0) == (3 : Int))))))))))] [2, 3, 4, 5, 6, 7, 8, 9, 10, 11, 13, 15] [] [3, 5, 7, 10] ((implQuotaUsed (((specDrawQuotaUsed code)).1) (((specDrawQuotaUsed code)).2)) == (specQuotaUsed (((specDrawQuotaUsed code)).1) (((specDrawQuotaUsed code)).2))) (fun h4 => ?_) (fun h4 => ?_) ?_
      ·
        have h4d := eq_of_beq h4
        refine awp_split (!(specIsValidStore (((specDrawQuotaUsed code)).1))) (fun h5 => ?_) (fun h5 => ?_)
        ·
          have h5n : (specIsValidStore (((specDrawQuotaUsed code)).1)) = false := bnot_t h5
          refine awp_split ((implIsWithinQuota (((specDrawIsWithinQuota code)).1) (((specDrawIsWithinQuota code)).2)) == (specIsWithinQuota (((specDrawIsWithinQuota code)).1) (((specDrawIsWithinQuota code)).2))) (fun h6 => ?_) (fun h6 => ?_)
          ·
            have h6d := eq_of_beq h6
            refine awp_split ((implQuotaLeft (((specDrawQuotaLeft code)).1) (((specDrawQuotaLeft code)).2.1) (((specDrawQuotaLeft code)).2.2)) == (specQuotaLeft (((specDrawQuotaLeft code)).1) (((specDrawQuotaLeft code)).2.1) (((specDrawQuotaLeft code)).2.2))) (fun h7 => ?_) (fun h7 => ?_)
            ·
              have h7d := eq_of_beq h7
              refine awp_split ((implFileCost (specDrawFileCost code)) == (specFileCost (specDrawFileCost code))) (fun h8 => ?_) (fun h8 => ?_)
              ·
                have h8d := eq_of_beq h8
                refine awp_split ((implIsValidQuota (specDrawIsValidQuota code)) == (specIsValidQuota (specDrawIsValidQuota code))) (fun h9 => ?_) (fun h9 => ?_)
                ·
                  have h9d := eq_of_beq h9
                  refine rN tt_ok tt_mx [2] [] (pc 3 (specQuotaUsed_a (((specDrawQuotaUsed code)).1) (((specDrawQuotaUsed code)).2)) (pt 4 h4 (pc 7 (cb h5n (specIsValidStore_a (((specDrawQuotaUsed code)).1))) (pe 8 (show .b (!false) = .b true from rfl) (pc 18 (implIsWithinQuota_a (((specDrawIsWithinQuota code)).1) (((specDrawIsWithinQuota code)).2)) (pc 21 (specIsWithinQuota_a (((specDrawIsWithinQuota code)).1) (((specDrawIsWithinQuota code)).2)) (pt 22 h6 (pc 28 (implQuotaLeft_a (((specDrawQuotaLeft code)).1) (((specDrawQuotaLeft code)).2.1) (((specDrawQuotaLeft code)).2.2)) (pc 32 (specQuotaLeft_a (((specDrawQuotaLeft code)).1) (((specDrawQuotaLeft code)).2.1) (((specDrawQuotaLeft code)).2.2)) (pt 33 h7 (pc 37 (implFileCost_a (specDrawFileCost code)) (pc 39 (specFileCost_a (specDrawFileCost code)) (pt 40 h8 (pc 44 (implIsValidQuota_a (specDrawIsValidQuota code)) (pc 46 (specIsValidQuota_a (specDrawIsValidQuota code)) (pt 47 h9 (pc 50 (lawssampleStore_a 1) (pc 52 (implQuotaLeft_a (lawssampleStore 1) [5] 0) p0)))))))))))))))))) ?_
                  exact ⟨rfl, weak_fit (by rw [h4, h5, h6, h7, h8, h9]; first | done | kernel_rfl)⟩
                ·
                  have h9d := ne_of_beq h9
                  refine rN tt_ok tt_mx [2] [] (pc 3 (specQuotaUsed_a (((specDrawQuotaUsed code)).1) (((specDrawQuotaUsed code)).2)) (pt 4 h4 (pc 7 (cb h5n (specIsValidStore_a (((specDrawQuotaUsed code)).1))) (pe 8 (show .b (!false) = .b true from rfl) (pc 18 (implIsWithinQuota_a (((specDrawIsWithinQuota code)).1) (((specDrawIsWithinQuota code)).2)) (pc 21 (specIsWithinQuota_a (((specDrawIsWithinQuota code)).1) (((specDrawIsWithinQuota code)).2)) (pt 22 h6 (pc 28 (implQuotaLeft_a (((specDrawQuotaLeft code)).1) (((specDrawQuotaLeft code)).2.1) (((specDrawQuotaLeft code)).2.2)) (pc 32 (specQuotaLeft_a (((specDrawQuotaLeft code)).1) (((specDrawQuotaLeft code)).2.1) (((specDrawQuotaLeft code)).2.2)) (pt 33 h7 (pc 37 (implFileCost_a (specDrawFileCost code)) (pc 39 (specFileCost_a (specDrawFileCost code)) (pt 40 h8 (pc 44 (implIsValidQuota_a (specDrawIsValidQuota code)) (pc 46 (specIsValidQuota_a (specDrawIsValidQuota code)) (pf 47 h9 p0)))))))))))))))) ?_
                  exact ⟨rfl, weak_fit (by rw [h4, h5, h6, h7, h8, h9]; first | done | kernel_rfl)⟩
              ·
                have h8d := ne_of_beq h8
                refine rN tt_ok tt_mx [2] [] (pc 3 (specQuotaUsed_a (((specDrawQuotaUsed code)).1) (((specDrawQuotaUsed code)).2)) (pt 4 h4 (pc 7 (cb h5n (specIsValidStore_a (((specDrawQuotaUsed code)).1))) (pe 8 (show .b (!false) = .b true from rfl) (pc 18 (implIsWithinQuota_a (((specDrawIsWithinQuota code)).1) (((specDrawIsWithinQuota code)).2)) (pc 21 (specIsWithinQuota_a (((specDrawIsWithinQuota code)).1) (((specDrawIsWithinQuota code)).2)) (pt 22 h6 (pc 28 (implQuotaLeft_a (((specDrawQuotaLeft code)).1) (((specDrawQuotaLeft code)).2.1) (((specDrawQuotaLeft code)).2.2)) (pc 32 (specQuotaLeft_a (((specDrawQuotaLeft code)).1) (((specDrawQuotaLeft code)).2.1) (((specDrawQuotaLeft code)).2.2)) (pt 33 h7 (pc 37 (implFileCost_a (specDrawFileCost code)) (pc 39 (specFileCost_a (specDrawFileCost code)) (pf 40 h8 p0))))))))))))) ?_
                exact ⟨rfl, weak_fit (by rw [h4, h5, h6, h7, h8]; first | done | kernel_rfl)⟩
            ·
              have h7d := ne_of_beq h7
              refine rN tt_ok tt_mx [2] [] (pc 3 (specQuotaUsed_a (((specDrawQuotaUsed code)).1) (((specDrawQuotaUsed code)).2)) (pt 4 h4 (pc 7 (cb h5n (specIsValidStore_a (((specDrawQuotaUsed code)).1))) (pe 8 (show .b (!false) = .b true from rfl) (pc 18 (implIsWithinQuota_a (((specDrawIsWithinQuota code)).1) (((specDrawIsWithinQuota code)).2)) (pc 21 (specIsWithinQuota_a (((specDrawIsWithinQuota code)).1) (((specDrawIsWithinQuota code)).2)) (pt 22 h6 (pc 28 (implQuotaLeft_a (((specDrawQuotaLeft code)).1) (((specDrawQuotaLeft code)).2.1) (((specDrawQuotaLeft code)).2.2)) (pc 32 (specQuotaLeft_a (((specDrawQuotaLeft code)).1) (((specDrawQuotaLeft code)).2.1) (((specDrawQuotaLeft code)).2.2)) (pf 33 h7 p0)))))))))) ?_
              exact ⟨rfl, weak_fit (by rw [h4, h5, h6, h7]; first | done | kernel_rfl)⟩
          ·
            have h6d := ne_of_beq h6
            refine rN tt_ok tt_mx [2] [] (pc 3 (specQuotaUsed_a (((specDrawQuotaUsed code)).1) (((specDrawQuotaUsed code)).2)) (pt 4 h4 (pc 7 (cb h5n (specIsValidStore_a (((specDrawQuotaUsed code)).1))) (pe 8 (show .b (!false) = .b true from rfl) (pc 18 (implIsWithinQuota_a (((specDrawIsWithinQuota code)).1) (((specDrawIsWithinQuota code)).2)) (pc 21 (specIsWithinQuota_a (((specDrawIsWithinQuota code)).1) (((specDrawIsWithinQuota code)).2)) (pf 22 h6 p0))))))) ?_
            exact ⟨rfl, weak_fit (by rw [h4, h5, h6]; first | done | kernel_rfl)⟩
        ·
          have h5n : (specIsValidStore (((specDrawQuotaUsed code)).1)) = true := bnot_f h5
          refine awp_split ((implQuotaUsed (((specDrawQuotaUsed code)).1) (((specDrawQuotaUsed code)).2)) == y0) (fun h10 => ?_) (fun h10 => ?_)
          ·
            have h10d := eq_of_beq h10
            refine awp_split ((implIsWithinQuota (((specDrawIsWithinQuota code)).1) (((specDrawIsWithinQuota code)).2)) == (specIsWithinQuota (((specDrawIsWithinQuota code)).1) (((specDrawIsWithinQuota code)).2))) (fun h11 => ?_) (fun h11 => ?_)
            ·
              have h11d := eq_of_beq h11
              refine awp_split ((implQuotaLeft (((specDrawQuotaLeft code)).1) (((specDrawQuotaLeft code)).2.1) (((specDrawQuotaLeft code)).2.2)) == (specQuotaLeft (((specDrawQuotaLeft code)).1) (((specDrawQuotaLeft code)).2.1) (((specDrawQuotaLeft code)).2.2))) (fun h12 => ?_) (fun h12 => ?_)
              ·
                have h12d := eq_of_beq h12
                refine awp_split ((implFileCost (specDrawFileCost code)) == (specFileCost (specDrawFileCost code))) (fun h13 => ?_) (fun h13 => ?_)
                ·
                  have h13d := eq_of_beq h13
                  refine awp_split ((implIsValidQuota (specDrawIsValidQuota code)) == (specIsValidQuota (specDrawIsValidQuota code))) (fun h14 => ?_) (fun h14 => ?_)
                  ·
                    have h14d := eq_of_beq h14
                    refine rN tt_ok tt_mx [2] [] (pc 3 (specQuotaUsed_a (((specDrawQuotaUsed code)).1) (((specDrawQuotaUsed code)).2)) (pt 4 h4 (pc 7 (cb h5n (specIsValidStore_a (((specDrawQuotaUsed code)).1))) (pe 8 (show .b (!true) = .b false from rfl) (pt 12 h10 (pc 18 (implIsWithinQuota_a (((specDrawIsWithinQuota code)).1) (((specDrawIsWithinQuota code)).2)) (pc 21 (specIsWithinQuota_a (((specDrawIsWithinQuota code)).1) (((specDrawIsWithinQuota code)).2)) (pt 22 h11 (pc 28 (implQuotaLeft_a (((specDrawQuotaLeft code)).1) (((specDrawQuotaLeft code)).2.1) (((specDrawQuotaLeft code)).2.2)) (pc 32 (specQuotaLeft_a (((specDrawQuotaLeft code)).1) (((specDrawQuotaLeft code)).2.1) (((specDrawQuotaLeft code)).2.2)) (pt 33 h12 (pc 37 (implFileCost_a (specDrawFileCost code)) (pc 39 (specFileCost_a (specDrawFileCost code)) (pt 40 h13 (pc 44 (implIsValidQuota_a (specDrawIsValidQuota code)) (pc 46 (specIsValidQuota_a (specDrawIsValidQuota code)) (pt 47 h14 (pc 50 (lawssampleStore_a 1) (pc 52 (implQuotaLeft_a (lawssampleStore 1) [5] 0) p0))))))))))))))))))) ?_
                    exact ⟨rfl, weak_fit (by rw [h4, h5, h10, h11, h12, h13, h14]; first | done | kernel_rfl)⟩
                  ·
                    have h14d := ne_of_beq h14
                    refine rN tt_ok tt_mx [2] [] (pc 3 (specQuotaUsed_a (((specDrawQuotaUsed code)).1) (((specDrawQuotaUsed code)).2)) (pt 4 h4 (pc 7 (cb h5n (specIsValidStore_a (((specDrawQuotaUsed code)).1))) (pe 8 (show .b (!true) = .b false from rfl) (pt 12 h10 (pc 18 (implIsWithinQuota_a (((specDrawIsWithinQuota code)).1) (((specDrawIsWithinQuota code)).2)) (pc 21 (specIsWithinQuota_a (((specDrawIsWithinQuota code)).1) (((specDrawIsWithinQuota code)).2)) (pt 22 h11 (pc 28 (implQuotaLeft_a (((specDrawQuotaLeft code)).1) (((specDrawQuotaLeft code)).2.1) (((specDrawQuotaLeft code)).2.2)) (pc 32 (specQuotaLeft_a (((specDrawQuotaLeft code)).1) (((specDrawQuotaLeft code)).2.1) (((specDrawQuotaLeft code)).2.2)) (pt 33 h12 (pc 37 (implFileCost_a (specDrawFileCost code)) (pc 39 (specFileCost_a (specDrawFileCost code)) (pt 40 h13 (pc 44 (implIsValidQuota_a (specDrawIsValidQuota code)) (pc 46 (specIsValidQuota_a (specDrawIsValidQuota code)) (pf 47 h14 p0))))))))))))))))) ?_
                    exact ⟨rfl, weak_fit (by rw [h4, h5, h10, h11, h12, h13, h14]; first | done | kernel_rfl)⟩
                ·
                  have h13d := ne_of_beq h13
                  refine rN tt_ok tt_mx [2] [] (pc 3 (specQuotaUsed_a (((specDrawQuotaUsed code)).1) (((specDrawQuotaUsed code)).2)) (pt 4 h4 (pc 7 (cb h5n (specIsValidStore_a (((specDrawQuotaUsed code)).1))) (pe 8 (show .b (!true) = .b false from rfl) (pt 12 h10 (pc 18 (implIsWithinQuota_a (((specDrawIsWithinQuota code)).1) (((specDrawIsWithinQuota code)).2)) (pc 21 (specIsWithinQuota_a (((specDrawIsWithinQuota code)).1) (((specDrawIsWithinQuota code)).2)) (pt 22 h11 (pc 28 (implQuotaLeft_a (((specDrawQuotaLeft code)).1) (((specDrawQuotaLeft code)).2.1) (((specDrawQuotaLeft code)).2.2)) (pc 32 (specQuotaLeft_a (((specDrawQuotaLeft code)).1) (((specDrawQuotaLeft code)).2.1) (((specDrawQuotaLeft code)).2.2)) (pt 33 h12 (pc 37 (implFileCost_a (specDrawFileCost code)) (pc 39 (specFileCost_a (specDrawFileCost code)) (pf 40 h13 p0)))))))))))))) ?_
                  exact ⟨rfl, weak_fit (by rw [h4, h5, h10, h11, h12, h13]; first | done | kernel_rfl)⟩
              ·
                have h12d := ne_of_beq h12
                refine rN tt_ok tt_mx [2] [] (pc 3 (specQuotaUsed_a (((specDrawQuotaUsed code)).1) (((specDrawQuotaUsed code)).2)) (pt 4 h4 (pc 7 (cb h5n (specIsValidStore_a (((specDrawQuotaUsed code)).1))) (pe 8 (show .b (!true) = .b false from rfl) (pt 12 h10 (pc 18 (implIsWithinQuota_a (((specDrawIsWithinQuota code)).1) (((specDrawIsWithinQuota code)).2)) (pc 21 (specIsWithinQuota_a (((specDrawIsWithinQuota code)).1) (((specDrawIsWithinQuota code)).2)) (pt 22 h11 (pc 28 (implQuotaLeft_a (((specDrawQuotaLeft code)).1) (((specDrawQuotaLeft code)).2.1) (((specDrawQuotaLeft code)).2.2)) (pc 32 (specQuotaLeft_a (((specDrawQuotaLeft code)).1) (((specDrawQuotaLeft code)).2.1) (((specDrawQuotaLeft code)).2.2)) (pf 33 h12 p0))))))))))) ?_
                exact ⟨rfl, weak_fit (by rw [h4, h5, h10, h11, h12]; first | done | kernel_rfl)⟩
            ·
              have h11d := ne_of_beq h11
              refine rN tt_ok tt_mx [2] [] (pc 3 (specQuotaUsed_a (((specDrawQuotaUsed code)).1) (((specDrawQuotaUsed code)).2)) (pt 4 h4 (pc 7 (cb h5n (specIsValidStore_a (((specDrawQuotaUsed code)).1))) (pe 8 (show .b (!true) = .b false from rfl) (pt 12 h10 (pc 18 (implIsWithinQuota_a (((specDrawIsWithinQuota code)).1) (((specDrawIsWithinQuota code)).2)) (pc 21 (specIsWithinQuota_a (((specDrawIsWithinQuota code)).1) (((specDrawIsWithinQuota code)).2)) (pf 22 h11 p0)))))))) ?_
              exact ⟨rfl, weak_fit (by rw [h4, h5, h10, h11]; first | done | kernel_rfl)⟩
          ·
            have h10d := ne_of_beq h10
            refine rN tt_ok tt_mx [2] [] (pc 3 (specQuotaUsed_a (((specDrawQuotaUsed code)).1) (((specDrawQuotaUsed code)).2)) (pt 4 h4 (pc 7 (cb h5n (specIsValidStore_a (((specDrawQuotaUsed code)).1))) (pe 8 (show .b (!true) = .b false from rfl) (pf 12 h10 p0))))) ?_
            exact ⟨rfl, weak_fit (by rw [h4, h5, h10]; first | done | kernel_rfl)⟩
      ·
        have h4d := ne_of_beq h4
        refine rN tt_ok tt_mx [2] [] (pc 3 (specQuotaUsed_a (((specDrawQuotaUsed code)).1) (((specDrawQuotaUsed code)).2)) (pf 4 h4 p0)) ?_
        exact ⟨rfl, weak_fit (by rw [h4]; first | done | kernel_rfl)⟩
      refine awp_ret ?_
      exact pb [] (bif_f h1 (on_b hD0 (rfl)))
end Go.Proofs.Ytcnkkobgogmakaa
