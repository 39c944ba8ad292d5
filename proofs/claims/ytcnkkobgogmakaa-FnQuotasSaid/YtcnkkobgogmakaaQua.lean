/- What functions compute, and that they do (printed by am2.py): each function as a Lean function, then its contract. -/
import Derived.Test.YtcnkkobgogmakaaQub
import Derived.Test.YtcnkkobgogmakaaZc
import Derived.KernelRfl
set_option linter.unusedVariables false
set_option linter.unusedSimpArgs false
namespace Go.Proofs.Ytcnkkobgogmakaa
open Go.RowKit
open GoE (enc wide)
def specDrawVisibleStore (code : (List UInt8)) : StoreD × Int := (lt (α := Nat × Int) (specl01New code) (fun x1 => (lt (α := StoreD × Nat × Int) (specl05Any code x1.1 x1.2) (fun x2 => (lt (α := Int × Nat × Int) (specl06User code x2.2.1 x2.2.2) (fun x3 => (x2.1, x3.1)))))))
theorem specDrawVisibleStore_a (code : (List UInt8)) : ACalls Try.prog 42 [.h code] (.tup [(true, [.h ((((specDrawVisibleStore code)).1).1), .q 0 ((((specDrawVisibleStore code)).1).2.1), .i ((((specDrawVisibleStore code)).1).2.2)]), (false, [.i (((specDrawVisibleStore code)).2)])]) := by
  refine en tt_ok Try.func42 fun w0 F0 hG => ?_
  refine sn tt_ok [0, 2, 3] [2] (p0) ?_
  obtain ⟨x1, hx1⟩ : ∃ z : Nat × Int, specl01New code = z := ⟨_, rfl⟩
  refine tn tt_ok [2, 3, 4] [2, 6] (po 1 (.new [.h code, .i ((x1.1 : Nat) : Int), .i x1.2]) (px (ob_new (hx1 ▸ specl01New_a code)) p0)) ?_
  obtain ⟨x2, hx2⟩ : ∃ z : StoreD × Nat × Int, specl05Any code x1.1 x1.2 = z := ⟨_, rfl⟩
  obtain ⟨x3, hx3⟩ : ∃ z : Int × Nat × Int, specl06User code x2.2.1 x2.2.2 = z := ⟨_, rfl⟩
  refine tu tt_ok [(2, .p 2 0), (3, .i x3.1)] [0] [(2, [.h x2.1.1, .q 512 x2.1.2.1, .i x2.1.2.2])] [] (po 1 (.give none (.a [.h x2.1.1, .q 0 x2.1.2.1, .i x2.1.2.2]) [.h code, .i ((x2.2.1 : Nat) : Int), .i x2.2.2]) (px (ob_give (hx2 ▸ specl05Any_a code x1.1 x1.2)) (po 3 (.give none (.i x3.1) [.h code, .i ((x3.2.1 : Nat) : Int), .i x3.2.2]) (px (ob_give (hx3 ▸ specl06User_a code x2.2.1 x2.2.2)) p0)))) ?_
  refine awp_ret ?_
  exact pz [] (show specDrawVisibleStore code = _ from lt_b hx1 (lt_b hx2 (lt_b hx3 (rfl)))) (fun z => .tup [(true, [.h z.1.1, .q 0 z.1.2.1, .i z.1.2.2]), (false, [.i z.2])])
def specDrawQuotaUsed (code : (List UInt8)) : StoreD × Int := ((((specDrawVisibleStore code)).1), ((specDrawVisibleStore code)).2)
theorem specDrawQuotaUsed_a (code : (List UInt8)) : ACalls Try.prog 7 [.h code] (.tup [(true, [.h ((((specDrawQuotaUsed code)).1).1), .q 0 ((((specDrawQuotaUsed code)).1).2.1), .i ((((specDrawQuotaUsed code)).1).2.2)]), (false, [.i (((specDrawQuotaUsed code)).2)])]) := by
  refine en tt_ok Try.func7 fun w0 F0 hG => ?_
  refine sn tt_ok [0, 2, 3] [2] (p0) ?_
  refine tn tt_ok [2, 3] [2] (pc 1 (specDrawVisibleStore_a code) p0) ?_
  refine awp_ret ?_
  exact pz [] (show specDrawQuotaUsed code = ((((specDrawVisibleStore code)).1), ((specDrawVisibleStore code)).2) from rfl) (fun z => .tup [(true, [.h z.1.1, .q 0 z.1.2.1, .i z.1.2.2]), (false, [.i z.2])])
def specl24Quota_f0 (code : (List UInt8)) (_ : Nat) (s0 : (List Int) × Nat × Int) : Rd ((List Int) × Nat × Int) ((List Int) × Nat × Int) ((List Int) × Nat × Int) := (lt (α := Int × Nat × Int) (specl01PickInt code s0.2.1 s0.2.2 [0, 3, 8, 20, 60, 999, 20, 60]) (fun x1 => (.next (s0.1 ++ [x1.1], x1.2.1, x1.2.2))))
def specl24Quota_e0 (_ : Nat) (s0 : (List Int) × Nat × Int) : (List Int) × Nat × Int := (s0.1, s0.2.1, s0.2.2)
def specl24Quota (code : (List UInt8)) (ci : Nat) (ch : Int) : (List Int) × Nat × Int := (Out.on (forN (specl24Quota_f0 code) specl24Quota_e0 (Int.toNat (3 : Int)) 0 ([], ci, ch)) (fun y0 => (lt (α := Int × Nat × Int) (specl01Below code y0.2.1 y0.2.2 8) (fun x4 => (bif (x4.1 == (0 : Int)) then (lt (α := Int × Nat × Int) (specl01Below code x4.2.1 x4.2.2 3) (fun x6 => (List.take (Int.toNat x6.1) y0.1, x6.2.1, x6.2.2))) else (bif (x4.1 == (1 : Int)) then (lt (α := Int × Nat × Int) (specl01Below code x4.2.1 x4.2.2 3) (fun x11 => (lt (α := Int × Nat × Int) (specl01PickInt code x11.2.1 x11.2.2 [-1, 1000, 9223372036854775807, -9223372036854775808]) (fun x12 => (List.set y0.1 (Int.toNat x11.1) x12.1, x12.2.1, x12.2.2))))) else (y0.1, x4.2.1, x4.2.2)))))))
theorem specl24Quota_a (code : (List UInt8)) (ci : Nat) (ch : Int) : AGive Try.prog 45 [.h code, .i ((ci : Nat) : Int), .i ch] [] (.h (((specl24Quota code ci ch)).1)) [.h code, .i ((((specl24Quota code ci ch)).2.1 : Nat) : Int), .i (((specl24Quota code ci ch)).2.2)] := by
  refine agive_of (tt := tt) tt_ok Try.func45 (fn := Try.f45) rfl (by unfold FnOk; kernel_rfl) (Nat.le_of_ble_eq_true rfl) (Nat.le_of_ble_eq_true rfl) rfl rfl fun w0 F0 hG => ?_
  refine sn tt_ok [0, 2] [60000] (p0) ?_
  refine tn tt_ok [0, 2, 3] [60000] (p0) ?_
  refine awp_seq ?_
  refine tu tt_ok [(2, .e 0), (3, .one (.slc (.own true 320) 1 [])), (4, .i 0)] [] [] [] (p0) ?_
  refine blN3b (specl24Quota_f0 code) specl24Quota_e0 (Int.toNat (3 : Int)) ([], ci, ch) (fun k0 s0 => [(3, .o 147202 s0.1), (4, .i ((k0 : Nat) : Int))]) [3, 4] (fun _ s0 => [(60000, [.h code, .i ((s0.2.1 : Nat) : Int), .i s0.2.2])]) [60000] (fun y0 => [(3, .o 147352 y0.1)]) [3, 4] (fun y0 => [(60000, [.h code, .i ((y0.2.1 : Nat) : Int), .i y0.2.2])]) [60000] (fun k0 s0 => List.length s0.1 ≤ k0 ∧ List.length s0.1 = k0) (fun y0 => List.length y0.1 = 3) (weak_sf [(320, 147202)] (by kernel_rfl)) ⟨(by simp), (by rfl)⟩ (fun k0 s0 hk0 hI0 => ?_) (fun k0 s0 hk0 hI0 => ?_) (fun y0 hD0 => ?_)
  ·
    have hA0_0 := hI0.2.1
    have hA0_1 := hI0.2.2
    refine awp_seq ?_
    refine su tt_ok [(7, .b true)] [] [] [] (pe 1 (av_bool (decide_eq_true (p := ((k0 : Nat) : Int) < (3 : Int)) (by omega))) p0) ?_
    refine ckT ?_
    refine awp_skip ?_
    refine awp_seq ?_
    refine awp_block ?_
    obtain ⟨x1, hx1⟩ : ∃ z : Int × Nat × Int, specl01PickInt code s0.2.1 s0.2.2 [0, 3, 8, 20, 60, 999, 20, 60] = z := ⟨_, rfl⟩
    refine wT 3 0 (.own true 147202) s0.1 (fun hw2 hl3 => ?_)
    refine ru tt_ok [(3, .one (.slc (.own true 960) 1 ((eL s0.1) ++ [[.i x1.1]])))] [3, 7] [(60000, [.h code, .i ((x1.2.1 : Nat) : Int), .i x1.2.2])] [60000] (po 3 (.give none (.i x1.1) [.h code, .i ((x1.2.1 : Nat) : Int), .i x1.2.2]) (px (ob_give (hx1 ▸ specl01PickInt_a code s0.2.1 s0.2.2 [0, 3, 8, 20, 60, 999, 20, 60] (Nat.zero_lt_succ _))) (pa s0.1 [x1.1] p0))) ?_
    refine eqn [(3, .o 960 (s0.1 ++ [x1.1]))] [3] [] [] (by rw [show ((eL s0.1) ++ [[.i x1.1]]) = (eL (s0.1 ++ [x1.1])) from app_eL (rfl) (rfl)]; first | done | kernel_rfl) ?_
    refine rn tt_ok [0, 2, 3, 4] [60000] (pe 1 (av_i (wrap_succ k0 (by omega))) p0) ?_
    exact Exists.intro (s0.1 ++ [x1.1], x1.2.1, x1.2.2) (And.intro (weak_sf [(960, 147202)] (by kernel_rfl)) ⟨forN_next hk0 (lt_b hx1 (rfl)) hI0.1, by first | omega | (simp; omega) | simp, (by first | omega | (simp; omega))⟩)
  ·
    have hA0_0 := hI0.2.1
    have hA0_1 := hI0.2.2
    refine awp_seq ?_
    refine sn tt_ok [0, 2, 3, 4, 7] [60000] (pe 1 (av_bool (decide_eq_false (p := ((k0 : Nat) : Int) < (3 : Int)) (by omega))) p0) ?_
    refine ckF ?_
    refine awp_exit ?_
    exact Exists.intro (s0.1, s0.2.1, s0.2.2) (And.intro (weak_sf [(147202, 147352)] (by kernel_rfl)) ⟨forN_end hk0 (rfl) hI0.1, by first | omega | (simp only [List.length_set]; omega)⟩)
  ·
    have hD0_0 := hD0.2
    refine awp_seq ?_
    obtain ⟨x4, hx4⟩ : ∃ z : Int × Nat × Int, specl01Below code y0.2.1 y0.2.2 8 = z := ⟨_, rfl⟩
    have hbx4 := hx4 ▸ specl01Below_bd code y0.2.1 y0.2.2 8
    refine sn tt_ok [0, 2, 3, 17] [60000] (po 1 (.give none (.i x4.1) [.h code, .i ((x4.2.1 : Nat) : Int), .i x4.2.2]) (px (ob_give (hx4 ▸ specl01Below_a code y0.2.1 y0.2.2 8)) p0)) ?_
    refine awp_block ?_
    refine tn tt_ok [0, 2, 3, 17, 18] [60000] (p0) ?_
    refine ck (x4.1 == (0 : Int)) (fun h5 => ?_) (fun h5 => ?_)
    ·
      have h5d := eq_of_beq h5
      obtain ⟨x6, hx6⟩ : ∃ z : Int × Nat × Int, specl01Below code x4.2.1 x4.2.2 3 = z := ⟨_, rfl⟩
      have hbx6 := hx6 ▸ specl01Below_bd code x4.2.1 x4.2.2 3
      refine wT 3 0 (.own true 147352) y0.1 (fun hw7 hl8 => ?_)
      refine qu tt_ok [(3, .v 147352 (List.take (Int.toNat x6.1) y0.1))] [3] [(60000, [.h code, .i ((x6.2.1 : Nat) : Int), .i x6.2.2])] [60000] (po 2 (.give none (.i x6.1) [.h code, .i ((x6.2.1 : Nat) : Int), .i x6.2.2]) (px (ob_give (hx6 ▸ specl01Below_a code x4.2.1 x4.2.2 3)) (pe 3 (av_take (.vw 147352) 1 (Int.toNat x6.1) x6.1 y0.1 rfl) (px (ob_rng (lo := 0) (hi := x6.1) (n := (List.length (eL y0.1))) (rng_of (by omega) (by omega) (by omega))) p0)))) ?_
      refine sn tt_ok [0, 2] [60000] (p0) ?_
      refine awp_ret ?_
      have hE9 : specl24Quota code ci ch = (List.take (Int.toNat x6.1) y0.1, x6.2.1, x6.2.2) := on_b hD0.1 (lt_b hx4 (bif_t h5 (lt_b hx6 (rfl))))
      exact gret [147352] (congrArg (fun z => (.h z.1 : AV)) hE9.symm) (congrArg (fun z => ([.h code, .i ((z.2.1 : Nat) : Int), .i z.2.2] : List C)) hE9.symm)
    ·
      have h5d := ne_of_beq h5
      refine tu tt_ok [(24, .b (x4.1 == (1 : Int)))] [] [(60000, [.h code, .i ((x4.2.1 : Nat) : Int), .i x4.2.2])] [60000] (p0) ?_
      refine ck (x4.1 == (1 : Int)) (fun h10 => ?_) (fun h10 => ?_)
      ·
        have h10d := eq_of_beq h10
        obtain ⟨x11, hx11⟩ : ∃ z : Int × Nat × Int, specl01Below code x4.2.1 x4.2.2 3 = z := ⟨_, rfl⟩
        have hbx11 := hx11 ▸ specl01Below_bd code x4.2.1 x4.2.2 3
        obtain ⟨x12, hx12⟩ : ∃ z : Int × Nat × Int, specl01PickInt code x11.2.1 x11.2.2 [-1, 1000, 9223372036854775807, -9223372036854775808] = z := ⟨_, rfl⟩
        refine wT 3 0 (.own true 147352) y0.1 (fun hw14 hl15 => ?_)
        have hx13 := ng y0.1 (Int.toNat x11.1)
        refine ru tt_ok [(3, .one (.slc (.own true 147352) 1 (setRow (eL y0.1) (Int.toNat x11.1) 0 [.i x12.1])))] [3, 24] [(60000, [.h code, .i ((x12.2.1 : Nat) : Int), .i x12.2.2])] [60000] (po 2 (.give none (.i x11.1) [.h code, .i ((x11.2.1 : Nat) : Int), .i x11.2.2]) (px (ob_give (hx11 ▸ specl01Below_a code x4.2.1 x4.2.2 3)) (po 5 (.give none (.i x12.1) [.h code, .i ((x12.2.1 : Nat) : Int), .i x12.2.2]) (px (ob_give (hx12 ▸ specl01PickInt_a code x11.2.1 x11.2.2 [-1, 1000, 9223372036854775807, -9223372036854775808] (Nat.zero_lt_succ _))) (pG 6 x11.1 hx13 p0))))) ?_
        refine eqn [(3, .o 147352 (List.set y0.1 (Int.toNat x11.1) x12.1))] [3] [] [] (by rw [setRow_eL (y := x12.1) hx13 rfl]; first | done | kernel_rfl) ?_
        refine sn tt_ok [0, 2] [60000] (p0) ?_
        refine awp_ret ?_
        have hE16 : specl24Quota code ci ch = (List.set y0.1 (Int.toNat x11.1) x12.1, x12.2.1, x12.2.2) := on_b hD0.1 (lt_b hx4 (bif_f h5 (bif_t h10 (lt_b hx11 (lt_b hx12 (rfl))))))
        exact gret [147352] (congrArg (fun z => (.h z.1 : AV)) hE16.symm) (congrArg (fun z => ([.h code, .i ((z.2.1 : Nat) : Int), .i z.2.2] : List C)) hE16.symm)
      ·
        have h10d := ne_of_beq h10
        refine awp_skip ?_
        refine sn tt_ok [0, 2] [60000] (p0) ?_
        refine awp_ret ?_
        have hE17 : specl24Quota code ci ch = (y0.1, x4.2.1, x4.2.2) := on_b hD0.1 (lt_b hx4 (bif_f h5 (bif_f h10 (rfl))))
        exact gret [147352] (congrArg (fun z => (.h z.1 : AV)) hE17.symm) (congrArg (fun z => ([.h code, .i ((z.2.1 : Nat) : Int), .i z.2.2] : List C)) hE17.symm)
def specDrawIsWithinQuota (code : (List UInt8)) : StoreD × (List Int) := (lt (α := Nat × Int) (specl01New code) (fun x1 => (lt (α := StoreD × Nat × Int) (specl05Store code x1.1 x1.2) (fun x2 => (lt (α := (List Int) × Nat × Int) (specl24Quota code x2.2.1 x2.2.2) (fun x3 => (x2.1, x3.1)))))))
theorem specDrawIsWithinQuota_a (code : (List UInt8)) : ACalls Try.prog 8 [.h code] (.tup [(true, [.o 0 ((((specDrawIsWithinQuota code)).1).1), .q 1 ((((specDrawIsWithinQuota code)).1).2.1), .i ((((specDrawIsWithinQuota code)).1).2.2)]), (false, [.h (((specDrawIsWithinQuota code)).2)])]) := by
  refine en tt_ok Try.func8 fun w0 F0 hG => ?_
  refine sn tt_ok [0, 2, 3] [2] (p0) ?_
  obtain ⟨x1, hx1⟩ : ∃ z : Nat × Int, specl01New code = z := ⟨_, rfl⟩
  refine tn tt_ok [2, 3, 4] [2, 6] (po 1 (.new [.h code, .i ((x1.1 : Nat) : Int), .i x1.2]) (px (ob_new (hx1 ▸ specl01New_a code)) p0)) ?_
  obtain ⟨x2, hx2⟩ : ∃ z : StoreD × Nat × Int, specl05Store code x1.1 x1.2 = z := ⟨_, rfl⟩
  obtain ⟨x3, hx3⟩ : ∃ z : (List Int) × Nat × Int, specl24Quota code x2.2.1 x2.2.2 = z := ⟨_, rfl⟩
  refine tu tt_ok [(2, .p 2 0), (3, .h x3.1)] [0] [(2, [.o 512 x2.1.1, .q 513 x2.1.2.1, .i x2.1.2.2])] [] (po 1 (.give none (.a [.o 0 x2.1.1, .q 1 x2.1.2.1, .i x2.1.2.2]) [.h code, .i ((x2.2.1 : Nat) : Int), .i x2.2.2]) (px (ob_give (hx2 ▸ specl05Store_a code x1.1 x1.2)) (po 3 (.give none (.h x3.1) [.h code, .i ((x3.2.1 : Nat) : Int), .i x3.2.2]) (px (ob_give (hx3 ▸ specl24Quota_a code x2.2.1 x2.2.2)) p0)))) ?_
  refine awp_ret ?_
  exact pz [] (show specDrawIsWithinQuota code = _ from lt_b hx1 (lt_b hx2 (lt_b hx3 (rfl)))) (fun z => .tup [(true, [.o 0 z.1.1, .q 1 z.1.2.1, .i z.1.2.2]), (false, [.h z.2])])
def specDrawQuotaLeft (code : (List UInt8)) : StoreD × (List Int) × Int := (lt (α := Nat × Int) (specl01New code) (fun x1 => (lt (α := Int × Nat × Int) (specl06User code x1.1 x1.2) (fun x2 => ((((specDrawIsWithinQuota code)).1), ((specDrawIsWithinQuota code)).2, x2.1)))))
theorem specDrawQuotaLeft_a (code : (List UInt8)) : ACalls Try.prog 9 [.h code] (.tup [(true, [.o 0 ((((specDrawQuotaLeft code)).1).1), .q 1 ((((specDrawQuotaLeft code)).1).2.1), .i ((((specDrawQuotaLeft code)).1).2.2)]), (false, [.h (((specDrawQuotaLeft code)).2.1)]), (false, [.i (((specDrawQuotaLeft code)).2.2)])]) := by
  refine en tt_ok Try.func9 fun w0 F0 hG => ?_
  refine sn tt_ok [0, 2, 3, 4] [2] (p0) ?_
  refine tn tt_ok [0, 2, 3, 4, 5, 6] [2, 5] (pc 1 (specDrawIsWithinQuota_a code) p0) ?_
  obtain ⟨x1, hx1⟩ : ∃ z : Nat × Int, specl01New code = z := ⟨_, rfl⟩
  obtain ⟨x2, hx2⟩ : ∃ z : Int × Nat × Int, specl06User code x1.1 x1.2 = z := ⟨_, rfl⟩
  refine tU tt_ok tt_mx [(2, .p 2 0), (3, .h (((specDrawIsWithinQuota code)).2)), (4, .i x2.1)] [0] [(2, [.o 576 ((((specDrawIsWithinQuota code)).1).1), .q 577 ((((specDrawIsWithinQuota code)).1).2.1), .i ((((specDrawIsWithinQuota code)).1).2.2)])] [] (po 3 (.new [.h code, .i ((x1.1 : Nat) : Int), .i x1.2]) (px (ob_new (hx1 ▸ specl01New_a code)) (po 4 (.give none (.i x2.1) [.h code, .i ((x2.2.1 : Nat) : Int), .i x2.2.2]) (px (ob_give (hx2 ▸ specl06User_a code x1.1 x1.2)) p0)))) ?_
  refine awp_ret ?_
  exact pz [] (show specDrawQuotaLeft code = _ from lt_b hx1 (lt_b hx2 (rfl))) (fun z => .tup [(true, [.o 0 z.1.1, .q 1 z.1.2.1, .i z.1.2.2]), (false, [.h z.2.1]), (false, [.i z.2.2])])
def specDrawFileCost (code : (List UInt8)) : FileD := (lt (α := Nat × Int) (specl01New code) (fun x1 => (lt (α := FileD × Nat × Int) (specl04Any code x1.1 x1.2) (fun x2 => x2.1))))
theorem specDrawFileCost_a (code : (List UInt8)) : ACalls Try.prog 10 [.h code] (.a [.i ((specDrawFileCost code).1), .i ((specDrawFileCost code).2.1), .b ((specDrawFileCost code).2.2.1), .i ((specDrawFileCost code).2.2.2.1), .o 0 ((specDrawFileCost code).2.2.2.2)]) := by
  refine en tt_ok Try.func10 fun w0 F0 hG => ?_
  refine sn tt_ok [0, 2] [2] (p0) ?_
  obtain ⟨x1, hx1⟩ : ∃ z : Nat × Int, specl01New code = z := ⟨_, rfl⟩
  obtain ⟨x2, hx2⟩ : ∃ z : FileD × Nat × Int, specl04Any code x1.1 x1.2 = z := ⟨_, rfl⟩
  refine tn tt_ok [2] [2] (po 1 (.new [.h code, .i ((x1.1 : Nat) : Int), .i x1.2]) (px (ob_new (hx1 ▸ specl01New_a code)) (po 2 (.give none (.a [.i x2.1.1, .i x2.1.2.1, .b x2.1.2.2.1, .i x2.1.2.2.2.1, .o 0 x2.1.2.2.2.2]) [.h code, .i ((x2.2.1 : Nat) : Int), .i x2.2.2]) (px (ob_give (hx2 ▸ specl04Any_a code x1.1 x1.2)) p0)))) ?_
  refine awp_ret ?_
  exact pz [] (show specDrawFileCost code = _ from lt_b hx1 (lt_b hx2 (rfl))) (fun z => .a [.i z.1, .i z.2.1, .b z.2.2.1, .i z.2.2.2.1, .o 0 z.2.2.2.2])
def specDrawIsValidQuota (code : (List UInt8)) : (List Int) := (lt (α := Nat × Int) (specl01New code) (fun x1 => (lt (α := (List Int) × Nat × Int) (specl24Quota code x1.1 x1.2) (fun x2 => x2.1))))
theorem specDrawIsValidQuota_a (code : (List UInt8)) : ACalls Try.prog 15 [.h code] (.h (specDrawIsValidQuota code)) := by
  refine en tt_ok Try.func15 fun w0 F0 hG => ?_
  refine sn tt_ok [0, 2] [] (p0) ?_
  obtain ⟨x1, hx1⟩ : ∃ z : Nat × Int, specl01New code = z := ⟨_, rfl⟩
  obtain ⟨x2, hx2⟩ : ∃ z : (List Int) × Nat × Int, specl24Quota code x1.1 x1.2 = z := ⟨_, rfl⟩
  refine tn tt_ok [2] [] (po 1 (.new [.h code, .i ((x1.1 : Nat) : Int), .i x1.2]) (px (ob_new (hx1 ▸ specl01New_a code)) (po 2 (.give none (.h x2.1) [.h code, .i ((x2.2.1 : Nat) : Int), .i x2.2.2]) (px (ob_give (hx2 ▸ specl24Quota_a code x1.1 x1.2)) p0)))) ?_
  refine awp_ret ?_
  exact ph0 [] (lt_b hx1 (lt_b hx2 (rfl)))
def implFileCost (f : FileD) : Int := IntKind.i64.wrap (1 + (f.2.2.2.2.length : Int))
theorem implFileCost_a (f : FileD) : ACalls Try.prog 13 [.a [.i f.1, .i f.2.1, .b f.2.2.1, .i f.2.2.2.1, .h f.2.2.2.2]] (.i (implFileCost f)) := by
  refine en tt_ok Try.func13 fun w0 F0 hG => ?_
  refine sn tt_ok [1, 2] [1] (p0) ?_
  refine tn tt_ok [2] [] (pl 2 f.2.2.2.2 p0) ?_
  refine awp_ret ?_
  exact pi [] (show implFileCost f = IntKind.i64.wrap (1 + (f.2.2.2.2.length : Int)) from rfl)
def implQuotaUsed_f0 (user : Int) (_ : Nat) (a0 : FileD) (s0 : Int) : Rd (Int) (Int) (Int) := (bif (a0.2.1 == user) then (.next (IntKind.i64.wrap (s0 + (implFileCost a0)))) else (.next s0))
def implQuotaUsed_e0 (_ : Nat) (s0 : Int) : Int := s0
def implQuotaUsed (s_ : StoreD) (user : Int) : Int := (Out.on (forL (implQuotaUsed_f0 user) implQuotaUsed_e0 s_.2.1 0 0) (fun y0 => y0))
theorem implQuotaUsed_a (s_ : StoreD) (user : Int) : ACalls Try.prog 11 [.a [.h s_.1, .h s_.2.1, .i s_.2.2], .i user] (.i (implQuotaUsed s_ user)) := by
  refine en tt_ok Try.func11 fun w0 F0 hG => ?_
  refine sn tt_ok [1, 2, 4] [2] (p0) ?_
  refine tn tt_ok [1, 2, 4, 5] [2] (p0) ?_
  refine awp_seq ?_
  refine tu tt_ok [(4, .i 0), (5, .i 0), (9, .h s_.2.1), (10, .i (s_.2.1.length : Int)), (11, .i 0)] [0] [] [] (pl 2 s_.2.1 p0) ?_
  refine wT 9 0 .sh s_.2.1 (fun hw1 hl2 => ?_)
  refine blL0 (implQuotaUsed_f0 user) implQuotaUsed_e0 s_.2.1 0 (fun k0 s0 => [(5, .i s0), (11, .i ((k0 : Nat) : Int))]) [5, 11] (fun y0 => [(5, .i y0)]) [1, 5, 9, 10, 11] (weak_fit (by kernel_rfl)) (fun k0 s0 hk0 hI0 => ?_) (fun k0 s0 hk0 hI0 => ?_) (fun y0 hD0 => ?_)
  ·
    obtain ⟨a0, hx0⟩ := get_some (l := s_.2.1) (i := k0) hk0
    refine su tt_ok [(12, .b true)] [] [] [] (pe 0 (av_bool (decide_eq_true (p := ((k0 : Nat) : Int) < (s_.2.1.length : Int)) (by omega))) p0) ?_
    refine awp_seq ?_
    refine ckT ?_
    refine awp_skip ?_
    refine awp_seq ?_
    refine awp_block ?_
    refine sn tt_ok [1, 4, 5, 7, 9, 10, 11] [7] (pn 0 hx0 p0) ?_
    refine tn tt_ok [1, 4, 5, 7, 9, 10, 11, 18] [7] (p0) ?_
    refine ck (a0.2.1 == user) (fun h3 => ?_) (fun h3 => ?_)
    ·
      have h3d := eq_of_beq h3
      refine qu tt_ok [(5, .i (IntKind.i64.wrap (s0 + (implFileCost a0))))] [5, 12] [] [] (pc 2 (implFileCost_a a0) p0) ?_
      refine rn tt_ok [1, 4, 5, 9, 10, 11] [] (pe 0 (av_i (wrap_succ k0 (by omega))) p0) ?_
      exact Exists.intro _ (And.intro (weak_fit (by kernel_rfl)) (forL_next hx0 (bif_t h3 (rfl)) hI0))
    ·
      have h3d := ne_of_beq h3
      refine awp_skip ?_
      refine qu tt_ok [(11, .i ((k0 + 1 : Nat) : Int))] [11, 12] [] [] (pe 0 (av_i (wrap_succ k0 (by omega))) p0) ?_
      exact Exists.intro _ (And.intro (weak_fit (by kernel_rfl)) (forL_next hx0 (bif_f h3 (rfl)) hI0))
  ·
    refine su tt_ok [(12, .b false)] [] [] [] (pe 0 (av_bool (decide_eq_false (p := ((k0 : Nat) : Int) < (s_.2.1.length : Int)) (by omega))) p0) ?_
    refine awp_seq ?_
    refine ckF ?_
    refine awp_exit ?_
    exact Exists.intro _ (And.intro (weak_fit (by kernel_rfl)) (forL_end hk0 (rfl) hI0))
  ·
    refine sn tt_ok [4] [] (p0) ?_
    refine awp_ret ?_
    exact pi [] (on_b hD0 (rfl))
def specFileCost (f : FileD) : Int := IntKind.i64.wrap (1 + (f.2.2.2.2.length : Int))
theorem specFileCost_a (f : FileD) : ACalls Try.prog 22 [.a [.i f.1, .i f.2.1, .b f.2.2.1, .i f.2.2.2.1, .h f.2.2.2.2]] (.i (specFileCost f)) := by
  refine en tt_ok Try.func22 fun w0 F0 hG => ?_
  refine sn tt_ok [1, 2] [1] (p0) ?_
  refine tn tt_ok [2] [] (pl 2 f.2.2.2.2 p0) ?_
  refine awp_ret ?_
  exact pi [] (show specFileCost f = IntKind.i64.wrap (1 + (f.2.2.2.2.length : Int)) from rfl)
def specQuotaUsed_f0 (u : Int) (_ : Nat) (a0 : FileD) (s0 : Int) : Rd (Int) (Int) (Int) := (bif (a0.2.1 == u) then (.next (IntKind.i64.wrap (s0 + (specFileCost a0)))) else (.next s0))
def specQuotaUsed_e0 (_ : Nat) (s0 : Int) : Int := s0
def specQuotaUsed (s_ : StoreD) (u : Int) : Int := (Out.on (forL (specQuotaUsed_f0 u) specQuotaUsed_e0 s_.2.1 0 0) (fun y0 => y0))
theorem specQuotaUsed_a (s_ : StoreD) (u : Int) : ACalls Try.prog 16 [.a [.h s_.1, .h s_.2.1, .i s_.2.2], .i u] (.i (specQuotaUsed s_ u)) := by
  refine en tt_ok Try.func16 fun w0 F0 hG => ?_
  refine sn tt_ok [1, 2, 4] [2] (p0) ?_
  refine tn tt_ok [1, 2, 4, 5] [2] (p0) ?_
  refine awp_seq ?_
  refine tu tt_ok [(2, .p 2 0), (4, .i 0), (5, .i 0), (6, .i 0)] [0] [(2, [.h s_.1, .h s_.2.1, .i s_.2.2])] [] (p0) ?_
  refine wB 2 1 .sh s_.2.1 (fun hw1 hl2 => ?_)
  refine blL0b (specQuotaUsed_f0 u) specQuotaUsed_e0 s_.2.1 0 (fun k0 s0 => [(5, .i s0), (6, .i ((k0 : Nat) : Int))]) [5, 6] (fun _ _ => []) [] (fun y0 => [(5, .i y0)]) [1, 2, 5, 6] (fun _ => []) [2] (weak_fit (by kernel_rfl)) (fun k0 s0 hk0 hI0 => ?_) (fun k0 s0 hk0 hI0 => ?_) (fun y0 hD0 => ?_)
  ·
    obtain ⟨a0, hx0⟩ := get_some (l := s_.2.1) (i := k0) hk0
    refine awp_seq ?_
    refine sn tt_ok [1, 2, 4, 5, 6, 11] [2] (pl 3 s_.2.1 (pe 4 (av_bool (decide_eq_true (p := ((k0 : Nat) : Int) < (s_.2.1.length : Int)) (by omega))) p0)) ?_
    refine ckT ?_
    refine awp_skip ?_
    refine awp_seq ?_
    refine awp_block ?_
    refine tn tt_ok [1, 2, 4, 5, 6, 21] [2] (pn 3 hx0 p0) ?_
    refine ck (a0.2.1 == u) (fun h3 => ?_) (fun h3 => ?_)
    ·
      have h3d := eq_of_beq h3
      refine qu tt_ok [(5, .i (IntKind.i64.wrap (s0 + (specFileCost a0))))] [5] [] [] (pn 4 hx0 (pc 6 (specFileCost_a a0) p0)) ?_
      refine rn tt_ok [1, 2, 4, 5, 6] [2] (pe 1 (av_i (wrap_succ k0 (by omega))) p0) ?_
      exact Exists.intro _ (And.intro (weak_fit (by kernel_rfl)) (forL_next hx0 (bif_t h3 (rfl)) hI0))
    ·
      have h3d := ne_of_beq h3
      refine awp_skip ?_
      refine qu tt_ok [(6, .i ((k0 + 1 : Nat) : Int))] [6] [] [] (pe 1 (av_i (wrap_succ k0 (by omega))) p0) ?_
      exact Exists.intro _ (And.intro (weak_fit (by kernel_rfl)) (forL_next hx0 (bif_f h3 (rfl)) hI0))
  ·
    refine awp_seq ?_
    refine sn tt_ok [1, 2, 4, 5, 6, 11] [2] (pl 3 s_.2.1 (pe 4 (av_bool (decide_eq_false (p := ((k0 : Nat) : Int) < (s_.2.1.length : Int)) (by omega))) p0)) ?_
    refine ckF ?_
    refine awp_exit ?_
    exact Exists.intro _ (And.intro (weak_fit (by kernel_rfl)) (forL_end hk0 (rfl) hI0))
  ·
    refine sn tt_ok [4] [] (p0) ?_
    refine awp_ret ?_
    exact pi [] (on_b hD0 (rfl))
def specFilesOwnedBy_f0 (u : Int) (_ : Nat) (a0 : FileD) (s0 : (List Int)) : Rd ((List Int)) ((List Int)) ((List Int)) := (bif (a0.2.1 == u) then (.next (s0 ++ [a0.1])) else (.next s0))
def specFilesOwnedBy_e0 (_ : Nat) (s0 : (List Int)) : (List Int) := s0
def specFilesOwnedBy (s_ : StoreD) (u : Int) : (List Int) := (Out.on (forL (specFilesOwnedBy_f0 u) specFilesOwnedBy_e0 s_.2.1 0 []) (fun y0 => y0))
theorem specFilesOwnedBy_a (s_ : StoreD) (u : Int) : ACalls Try.prog 12 [.a [.h s_.1, .h s_.2.1, .i s_.2.2], .i u] (.o 0 (specFilesOwnedBy s_ u)) := by
  refine en tt_ok Try.func12 fun w0 F0 hG => ?_
  refine sn tt_ok [1, 2, 4] [2] (p0) ?_
  refine tn tt_ok [1, 2, 4, 5] [2] (p0) ?_
  refine awp_seq ?_
  refine tu tt_ok [(2, .p 2 0), (4, .e 0), (5, .one (.slc (.own true 448) 1 [])), (6, .i 0)] [0] [(2, [.h s_.1, .h s_.2.1, .i s_.2.2])] [] (p0) ?_
  refine wB 2 1 .sh s_.2.1 (fun hw1 hl2 => ?_)
  refine blL1b (specFilesOwnedBy_f0 u) specFilesOwnedBy_e0 s_.2.1 [] (fun k0 s0 => [(5, .o 147203 s0), (6, .i ((k0 : Nat) : Int))]) [5, 6] (fun _ _ => []) [] (fun y0 => [(5, .o 147353 y0)]) [1, 2, 5, 6] (fun _ => []) [2] (fun k0 s0 => List.length s0 ≤ k0) (weak_sf [(448, 147203)] (by kernel_rfl)) (by simp) (fun k0 s0 hk0 hI0 => ?_) (fun k0 s0 hk0 hI0 => ?_) (fun y0 hD0 => ?_)
  ·
    have hA0_0 := hI0.2
    obtain ⟨a0, hx0⟩ := get_some (l := s_.2.1) (i := k0) hk0
    refine awp_seq ?_
    refine sn tt_ok [1, 2, 4, 5, 6, 12] [2] (pl 3 s_.2.1 (pe 4 (av_bool (decide_eq_true (p := ((k0 : Nat) : Int) < (s_.2.1.length : Int)) (by omega))) p0)) ?_
    refine ckT ?_
    refine awp_skip ?_
    refine awp_seq ?_
    refine awp_block ?_
    refine tn tt_ok [1, 2, 4, 5, 6, 22] [2] (pn 3 hx0 p0) ?_
    refine ck (a0.2.1 == u) (fun h3 => ?_) (fun h3 => ?_)
    ·
      have h3d := eq_of_beq h3
      refine wT 5 0 (.own true 147203) s0 (fun hw4 hl5 => ?_)
      refine qu tt_ok [(5, .one (.slc (.own true 1984) 1 ((eL s0) ++ [[.i a0.1]])))] [5] [] [] (pn 4 hx0 (pa s0 [a0.1] p0)) ?_
      refine eqn [(5, .o 1984 (s0 ++ [a0.1]))] [5] [] [] (by rw [show ((eL s0) ++ [[.i a0.1]]) = (eL (s0 ++ [a0.1])) from app_eL (rfl) (rfl)]; first | done | kernel_rfl) ?_
      refine rn tt_ok [1, 2, 4, 5, 6] [2] (pe 1 (av_i (wrap_succ k0 (by omega))) p0) ?_
      exact Exists.intro (s0 ++ [a0.1]) (And.intro (weak_sf [(1984, 147203)] (by kernel_rfl)) ⟨forL_next hx0 (bif_t h3 (rfl)) hI0.1, by first | omega | (simp; omega) | simp⟩)
    ·
      have h3d := ne_of_beq h3
      refine awp_skip ?_
      refine qu tt_ok [(6, .i ((k0 + 1 : Nat) : Int))] [6] [] [] (pe 1 (av_i (wrap_succ k0 (by omega))) p0) ?_
      exact Exists.intro s0 (And.intro (weak_fit (by kernel_rfl)) ⟨forL_next hx0 (bif_f h3 (rfl)) hI0.1, by first | omega | (simp; omega) | simp⟩)
  ·
    have hA0_0 := hI0.2
    refine awp_seq ?_
    refine sn tt_ok [1, 2, 4, 5, 6, 12] [2] (pl 3 s_.2.1 (pe 4 (av_bool (decide_eq_false (p := ((k0 : Nat) : Int) < (s_.2.1.length : Int)) (by omega))) p0)) ?_
    refine ckF ?_
    refine awp_exit ?_
    exact Exists.intro _ (And.intro (weak_sf [(147203, 147353)] (by kernel_rfl)) (forL_end hk0 (rfl) hI0.1))
  ·
    refine sn tt_ok [4] [] (p0) ?_
    refine awp_ret ?_
    exact po0 [] (on_b hD0 (rfl))
def implquotaOf (quota : (List Int)) (user : Int) : Int := (bif (!(implwithin user 0 ((quota.length : Int) - 1))) then 0 else (nth quota (Int.toNat user)))
theorem implquotaOf_a (quota : (List Int)) (user : Int) : ACalls Try.prog 52 [.h quota, .i user] (.i (implquotaOf quota user)) := by
  refine en tt_ok Try.func52 fun w0 F0 hG => ?_
  refine sn tt_ok [0, 1, 4] [] (p0) ?_
  refine awp_seq ?_
  refine wT 0 0 .sh quota (fun hw1 hl2 => ?_)
  refine tn tt_ok [0, 1, 4, 10] [] (pl 2 quota (pe 3 (av_i (IntWalk.i64_in ((quota.length : Int) - 1) (by omega))) (pc 4 (implwithin_a user 0 ((quota.length : Int) - 1)) p0))) ?_
  refine ck (!(implwithin user 0 ((quota.length : Int) - 1))) (fun h3 => ?_) (fun h3 => ?_)
  ·
    have h3n : (implwithin user 0 ((quota.length : Int) - 1)) = false := bnot_t h3
    refine tu tt_ok [(4, .i 0)] [] [] [] (p0) ?_
    refine awp_ret ?_
    exact pi [] (bif_t h3 (rfl))
  ·
    have h3n : (implwithin user 0 ((quota.length : Int) - 1)) = true := bnot_f h3
    have h3nw := within_iff.1 h3n
    refine awp_skip ?_
    have hx4 := ng quota (Int.toNat user)
    refine tu tt_ok [(4, .i (nth quota (Int.toNat user)))] [0, 1] [] [] (pg 2 user hx4 p0) ?_
    refine awp_ret ?_
    exact pi [] (bif_f h3 (rfl))
def implIsWithinQuota_f0 (s_ : StoreD) (quota : (List Int)) (k0 : Nat) (_ : Unit) : Rd (Bool) (Unit) (Unit) := (bif decide ((implQuotaUsed s_ ((k0 : Nat) : Int)) > (implquotaOf quota ((k0 : Nat) : Int))) then (.ret false) else (.next ()))
def implIsWithinQuota_e0 (_ : Nat) (_ : Unit) : Unit := ()
def implIsWithinQuota (s_ : StoreD) (quota : (List Int)) : Bool := (Out.on (forN (implIsWithinQuota_f0 s_ quota) implIsWithinQuota_e0 (Int.toNat (3 : Int)) 0 ()) (fun _ => true))
theorem implIsWithinQuota_a (s_ : StoreD) (quota : (List Int)) : ACalls Try.prog 18 [.a [.h s_.1, .h s_.2.1, .i s_.2.2], .h quota] (.b (implIsWithinQuota s_ quota)) := by
  refine en tt_ok Try.func18 fun w0 F0 hG => ?_
  refine sn tt_ok [1, 2, 4] [2] (p0) ?_
  refine awp_seq ?_
  refine tn tt_ok [1, 2, 4, 6] [2] (p0) ?_
  refine mz [(2, .p 2 0), (4, .b false), (6, .i 0)] [0] [(2, [.h s_.1, .h s_.2.1, .i s_.2.2])] [] ?_
  refine blN0b (implIsWithinQuota_f0 s_ quota) implIsWithinQuota_e0 (Int.toNat (3 : Int)) () (fun k0 _ => [(6, .i ((k0 : Nat) : Int))]) [6] (fun _ _ => []) [] (fun _ => []) [1, 2, 6] (fun _ => []) [2] (weak_fit (by kernel_rfl)) (fun k0 s0 hk0 hI0 => ?_) (fun k0 s0 hk0 hI0 => ?_) (fun y0 hD0 => ?_)
  ·
    refine sn tt_ok [1, 2, 4, 6, 7] [2] (pe 0 (av_bool (decide_eq_true (p := ((k0 : Nat) : Int) < (3 : Int)) (by omega))) p0) ?_
    refine awp_seq ?_
    refine ckT ?_
    refine awp_skip ?_
    refine awp_seq ?_
    refine awp_block ?_
    refine tn tt_ok [1, 2, 4, 5, 6] [2] (p0) ?_
    refine tu tt_ok [(15, .b (decide ((implQuotaUsed s_ ((k0 : Nat) : Int)) > (implquotaOf quota ((k0 : Nat) : Int)))))] [] [] [] (pc 2 (implQuotaUsed_a s_ ((k0 : Nat) : Int)) (pc 5 (implquotaOf_a quota ((k0 : Nat) : Int)) p0)) ?_
    refine ck (decide ((implQuotaUsed s_ ((k0 : Nat) : Int)) > (implquotaOf quota ((k0 : Nat) : Int)))) (fun h1 => ?_) (fun h1 => ?_)
    ·
      have h1d := of_decide_eq_true h1
      refine su tt_ok [] [15] [] [] (p0) ?_
      refine awp_ret ?_
      have hr2 : (forN (implIsWithinQuota_f0 s_ quota) implIsWithinQuota_e0 (Int.toNat (3 : Int)) 0 ()) = .ret false := forN_ret hk0 (bif_t h1 (rfl)) hI0
      exact pb [] (on_r hr2)
    ·
      have h1d := of_decide_eq_false h1
      refine awp_skip ?_
      refine rn tt_ok [1, 2, 4, 6] [2] (pe 0 (av_i (wrap_succ k0 (by omega))) p0) ?_
      exact Exists.intro _ (And.intro (weak_fit (by kernel_rfl)) (forN_next hk0 (bif_f h1 (rfl)) hI0))
  ·
    refine sn tt_ok [1, 2, 4, 6, 7] [2] (pe 0 (av_bool (decide_eq_false (p := ((k0 : Nat) : Int) < (3 : Int)) (by omega))) p0) ?_
    refine awp_seq ?_
    refine ckF ?_
    refine awp_exit ?_
    exact Exists.intro _ (And.intro (weak_fit (by kernel_rfl)) (forN_end hk0 (rfl) hI0))
  ·
    refine sn tt_ok [4] [] (p0) ?_
    refine awp_ret ?_
    exact pb [] (on_b hD0 (rfl))
def specl24At (quota : (List Int)) (u : Int) : Int := (bif (!(specl01In u 0 ((quota.length : Int) - 1))) then 0 else (nth quota (Int.toNat u)))
theorem specl24At_a (quota : (List Int)) (u : Int) : ACalls Try.prog 53 [.h quota, .i u] (.i (specl24At quota u)) := by
  refine en tt_ok Try.func53 fun w0 F0 hG => ?_
  refine sn tt_ok [0, 1, 4] [] (p0) ?_
  refine awp_seq ?_
  refine wT 0 0 .sh quota (fun hw1 hl2 => ?_)
  refine tn tt_ok [0, 1, 4, 10] [] (pl 2 quota (pe 3 (av_i (IntWalk.i64_in ((quota.length : Int) - 1) (by omega))) (pc 4 (specl01In_a u 0 ((quota.length : Int) - 1)) p0))) ?_
  refine ck (!(specl01In u 0 ((quota.length : Int) - 1))) (fun h3 => ?_) (fun h3 => ?_)
  ·
    have h3n : (specl01In u 0 ((quota.length : Int) - 1)) = false := bnot_t h3
    refine tu tt_ok [(4, .i 0)] [] [] [] (p0) ?_
    refine awp_ret ?_
    exact pi [] (bif_t h3 (rfl))
  ·
    have h3n : (specl01In u 0 ((quota.length : Int) - 1)) = true := bnot_f h3
    have h3nw := l01In_iff.1 h3n
    refine awp_skip ?_
    have hx4 := ng quota (Int.toNat u)
    refine tu tt_ok [(4, .i (nth quota (Int.toNat u)))] [0, 1] [] [] (pg 2 u hx4 p0) ?_
    refine awp_ret ?_
    exact pi [] (bif_f h3 (rfl))
def specIsWithinQuota_f0 (s_ : StoreD) (quota : (List Int)) (k0 : Nat) (_ : Unit) : Rd (Bool) (Unit) (Unit) := (bif decide ((specQuotaUsed s_ ((k0 : Nat) : Int)) > (specl24At quota ((k0 : Nat) : Int))) then (.ret false) else (.next ()))
def specIsWithinQuota_e0 (_ : Nat) (_ : Unit) : Unit := ()
def specIsWithinQuota (s_ : StoreD) (quota : (List Int)) : Bool := (Out.on (forN (specIsWithinQuota_f0 s_ quota) specIsWithinQuota_e0 (Int.toNat (3 : Int)) 0 ()) (fun _ => true))
theorem specIsWithinQuota_a (s_ : StoreD) (quota : (List Int)) : ACalls Try.prog 19 [.a [.h s_.1, .h s_.2.1, .i s_.2.2], .h quota] (.b (specIsWithinQuota s_ quota)) := by
  refine en tt_ok Try.func19 fun w0 F0 hG => ?_
  refine sn tt_ok [1, 2, 4] [2] (p0) ?_
  refine awp_seq ?_
  refine tn tt_ok [1, 2, 4, 5] [2] (p0) ?_
  refine mz [(2, .p 2 0), (4, .b false), (5, .i 0)] [0] [(2, [.h s_.1, .h s_.2.1, .i s_.2.2])] [] ?_
  refine blN0b (specIsWithinQuota_f0 s_ quota) specIsWithinQuota_e0 (Int.toNat (3 : Int)) () (fun k0 _ => [(5, .i ((k0 : Nat) : Int))]) [5] (fun _ _ => []) [] (fun _ => []) [1, 2, 5] (fun _ => []) [2] (weak_fit (by kernel_rfl)) (fun k0 s0 hk0 hI0 => ?_) (fun k0 s0 hk0 hI0 => ?_) (fun y0 hD0 => ?_)
  ·
    refine awp_seq ?_
    refine sn tt_ok [1, 2, 4, 5, 7] [2] (pe 1 (av_bool (decide_eq_true (p := ((k0 : Nat) : Int) < (3 : Int)) (by omega))) p0) ?_
    refine ckT ?_
    refine awp_skip ?_
    refine awp_seq ?_
    refine awp_block ?_
    refine tn tt_ok [1, 2, 4, 5, 16] [2] (pc 2 (specQuotaUsed_a s_ ((k0 : Nat) : Int)) (pc 5 (specl24At_a quota ((k0 : Nat) : Int)) p0)) ?_
    refine ck (decide ((specQuotaUsed s_ ((k0 : Nat) : Int)) > (specl24At quota ((k0 : Nat) : Int)))) (fun h1 => ?_) (fun h1 => ?_)
    ·
      have h1d := of_decide_eq_true h1
      refine tu tt_ok [] [] [] [] (p0) ?_
      refine awp_ret ?_
      have hr2 : (forN (specIsWithinQuota_f0 s_ quota) specIsWithinQuota_e0 (Int.toNat (3 : Int)) 0 ()) = .ret false := forN_ret hk0 (bif_t h1 (rfl)) hI0
      exact pb [] (on_r hr2)
    ·
      have h1d := of_decide_eq_false h1
      refine awp_skip ?_
      refine qu tt_ok [(5, .i ((k0 + 1 : Nat) : Int))] [5] [] [] (pe 1 (av_i (wrap_succ k0 (by omega))) p0) ?_
      exact Exists.intro _ (And.intro (weak_fit (by kernel_rfl)) (forN_next hk0 (bif_f h1 (rfl)) hI0))
  ·
    refine awp_seq ?_
    refine sn tt_ok [1, 2, 4, 5, 7] [2] (pe 1 (av_bool (decide_eq_false (p := ((k0 : Nat) : Int) < (3 : Int)) (by omega))) p0) ?_
    refine ckF ?_
    refine awp_exit ?_
    exact Exists.intro _ (And.intro (weak_fit (by kernel_rfl)) (forN_end hk0 (rfl) hI0))
  ·
    refine sn tt_ok [4] [] (p0) ?_
    refine awp_ret ?_
    exact pb [] (on_b hD0 (rfl))
def implQuotaLeft (s_ : StoreD) (quota : (List Int)) (user : Int) : Int := (bif decide ((implquotaOf quota user) ≤ (implQuotaUsed s_ user)) then 0 else IntKind.i64.wrap ((implquotaOf quota user) - (implQuotaUsed s_ user)))
theorem implQuotaLeft_a (s_ : StoreD) (quota : (List Int)) (user : Int) : ACalls Try.prog 20 [.a [.h s_.1, .h s_.2.1, .i s_.2.2], .h quota, .i user] (.i (implQuotaLeft s_ quota user)) := by
  refine en tt_ok Try.func20 fun w0 F0 hG => ?_
  refine sn tt_ok [1, 2, 3, 6] [3] (p0) ?_
  refine awp_seq ?_
  refine tN tt_ok tt_mx [1, 2, 3, 6, 13] [3] (pc 2 (implquotaOf_a quota user) (pc 5 (implQuotaUsed_a s_ user) p0)) ?_
  refine ck (decide ((implquotaOf quota user) ≤ (implQuotaUsed s_ user))) (fun h1 => ?_) (fun h1 => ?_)
  ·
    have h1d := of_decide_eq_true h1
    refine tu tt_ok [(3, .p 3 0), (6, .i 0)] [0] [(3, [.h s_.1, .h s_.2.1, .i s_.2.2])] [] (p0) ?_
    refine awp_ret ?_
    exact pi [] (bif_t h1 (rfl))
  ·
    have h1d := of_decide_eq_false h1
    refine awp_skip ?_
    refine tU tt_ok tt_mx [(6, .i (IntKind.i64.wrap ((implquotaOf quota user) - (implQuotaUsed s_ user))))] [0, 1, 2] [] [] (pc 2 (implquotaOf_a quota user) (pc 5 (implQuotaUsed_a s_ user) p0)) ?_
    refine awp_ret ?_
    exact pi [] (bif_f h1 (rfl))
def specQuotaLeft (s_ : StoreD) (quota : (List Int)) (u : Int) : Int := (bif decide ((specQuotaUsed s_ u) ≥ (specl24At quota u)) then 0 else IntKind.i64.wrap ((specl24At quota u) - (specQuotaUsed s_ u)))
theorem specQuotaLeft_a (s_ : StoreD) (quota : (List Int)) (u : Int) : ACalls Try.prog 21 [.a [.h s_.1, .h s_.2.1, .i s_.2.2], .h quota, .i u] (.i (specQuotaLeft s_ quota u)) := by
  refine en tt_ok Try.func21 fun w0 F0 hG => ?_
  refine sn tt_ok [1, 2, 3, 6] [3] (p0) ?_
  refine awp_seq ?_
  refine tn tt_ok [1, 2, 3, 6, 13] [3] (pc 2 (specQuotaUsed_a s_ u) (pc 5 (specl24At_a quota u) p0)) ?_
  refine ck (decide ((specQuotaUsed s_ u) ≥ (specl24At quota u))) (fun h1 => ?_) (fun h1 => ?_)
  ·
    have h1d := of_decide_eq_true h1
    refine tu tt_ok [(3, .p 3 0), (6, .i 0)] [0] [(3, [.h s_.1, .h s_.2.1, .i s_.2.2])] [] (p0) ?_
    refine awp_ret ?_
    exact pi [] (bif_t h1 (rfl))
  ·
    have h1d := of_decide_eq_false h1
    refine awp_skip ?_
    refine tU tt_ok tt_mx [(6, .i (IntKind.i64.wrap ((specl24At quota u) - (specQuotaUsed s_ u))))] [0, 1, 2] [] [] (pc 2 (specl24At_a quota u) (pc 5 (specQuotaUsed_a s_ u) p0)) ?_
    refine awp_ret ?_
    exact pi [] (bif_f h1 (rfl))
def implIsValidQuota_1 (n : Int) : Bool := (!(implwithin n 0 999))
theorem implIsValidQuota_1_a (n : Int) : ACalls Try.prog 55 [.i n] (.b (implIsValidQuota_1 n)) := by
  refine en tt_ok Try.func55 fun w0 F0 hG => ?_
  refine sn tt_ok [0, 2] [] (p0) ?_
  refine tn tt_ok [2] [] (pc 1 (implwithin_a n 0 999) p0) ?_
  refine awp_ret ?_
  exact pb [] (show implIsValidQuota_1 n = (!(implwithin n 0 999)) from rfl)
def slicesIndexFunc_int_implIsValidQuota_1_f0 (k0 : Nat) (a0 : Int) (_ : Unit) : Rd (Int) (Unit) (Unit) := (bif (implIsValidQuota_1 a0) then (.ret ((k0 : Nat) : Int)) else (.next ()))
def slicesIndexFunc_int_implIsValidQuota_1_e0 (_ : Nat) (_ : Unit) : Unit := ()
def slicesIndexFunc_int_implIsValidQuota_1 (s_ : (List Int)) : Int := (Out.on (forL slicesIndexFunc_int_implIsValidQuota_1_f0 slicesIndexFunc_int_implIsValidQuota_1_e0 s_ 0 ()) (fun _ => -1))
theorem slicesIndexFunc_int_implIsValidQuota_1_ix (s_ : (List Int)) : slicesIndexFunc_int_implIsValidQuota_1 s_ = ixF (fun a => implIsValidQuota_1 a) s_ := idx_eq (fun _ _ _ => rfl) s_
theorem slicesIndexFunc_int_implIsValidQuota_1_bd (s_ : (List Int)) : -1 ≤ slicesIndexFunc_int_implIsValidQuota_1 s_ ∧ slicesIndexFunc_int_implIsValidQuota_1 s_ < (List.length s_ : Int) := by rw [slicesIndexFunc_int_implIsValidQuota_1_ix]; exact ixF_bd _ _
theorem slicesIndexFunc_int_implIsValidQuota_1_a (s_ : (List Int)) : ACalls Try.prog 87 [.h s_, .one (.fnr 55 [])] (.i (slicesIndexFunc_int_implIsValidQuota_1 s_)) := by
  refine en tt_ok Try.func87 fun w0 F0 hG => ?_
  refine sn tt_ok [0, 1, 4] [] (p0) ?_
  refine awp_seq ?_
  refine tn tt_ok [0, 1, 4, 7, 8] [] (pl 1 s_ p0) ?_
  refine mz [(4, .i 0), (7, .i (s_.length : Int)), (8, .i 0)] [] [] [] ?_
  refine wT 0 0 .sh s_ (fun hw1 hl2 => ?_)
  refine blL0 slicesIndexFunc_int_implIsValidQuota_1_f0 slicesIndexFunc_int_implIsValidQuota_1_e0 s_ () (fun k0 _ => [(8, .i ((k0 : Nat) : Int))]) [8] (fun _ => []) [0, 1, 7, 8] (weak_fit (by kernel_rfl)) (fun k0 s0 hk0 hI0 => ?_) (fun k0 s0 hk0 hI0 => ?_) (fun y0 hD0 => ?_)
  ·
    obtain ⟨a0, hx0⟩ := get_some (l := s_) (i := k0) hk0
    refine sn tt_ok [0, 1, 4, 7, 8, 9] [] (pe 0 (av_bool (decide_eq_true (p := ((k0 : Nat) : Int) < (s_.length : Int)) (by omega))) p0) ?_
    refine awp_seq ?_
    refine ckT ?_
    refine awp_skip ?_
    refine awp_seq ?_
    refine awp_block ?_
    refine tn tt_ok [0, 1, 4, 5, 7, 8] [] (p0) ?_
    refine tu tt_ok [(5, .i ((k0 : Nat) : Int)), (16, .b (implIsValidQuota_1 a0))] [] [] [] (pn 3 hx0 (pc 5 (implIsValidQuota_1_a a0) p0)) ?_
    refine ck (implIsValidQuota_1 a0) (fun h3 => ?_) (fun h3 => ?_)
    ·
      refine sn tt_ok [0, 1, 4, 7, 8] [] (p0) ?_
      refine awp_ret ?_
      have hr4 : (forL slicesIndexFunc_int_implIsValidQuota_1_f0 slicesIndexFunc_int_implIsValidQuota_1_e0 s_ 0 ()) = .ret ((k0 : Nat) : Int) := forL_ret hx0 (bif_t h3 (rfl)) hI0
      exact pi [] (on_r hr4)
    ·
      refine awp_skip ?_
      refine rn tt_ok [0, 1, 4, 7, 8] [] (pe 0 (av_i (wrap_succ k0 (by omega))) p0) ?_
      exact Exists.intro _ (And.intro (weak_fit (by kernel_rfl)) (forL_next hx0 (bif_f h3 (rfl)) hI0))
  ·
    refine sn tt_ok [0, 1, 4, 7, 8, 9] [] (pe 0 (av_bool (decide_eq_false (p := ((k0 : Nat) : Int) < (s_.length : Int)) (by omega))) p0) ?_
    refine awp_seq ?_
    refine ckF ?_
    refine awp_exit ?_
    exact Exists.intro _ (And.intro (weak_fit (by kernel_rfl)) (forL_end hk0 (rfl) hI0))
  ·
    refine sn tt_ok [4] [] (p0) ?_
    refine awp_ret ?_
    exact pi [] (on_b hD0 (rfl))
def slicesContainsFunc_int_implIsValidQuota_1 (s_ : (List Int)) : Bool := decide ((slicesIndexFunc_int_implIsValidQuota_1 s_) ≥ (0 : Int))
theorem slicesContainsFunc_int_implIsValidQuota_1_a (s_ : (List Int)) : ACalls Try.prog 54 [.h s_, .one (.fnr 55 [])] (.b (slicesContainsFunc_int_implIsValidQuota_1 s_)) := by
  refine en tt_ok Try.func54 fun w0 F0 hG => ?_
  refine sn tt_ok [0, 1, 4] [] (p0) ?_
  refine tn tt_ok [4] [] (pc 2 (slicesIndexFunc_int_implIsValidQuota_1_a s_) p0) ?_
  refine awp_ret ?_
  exact pb [] (show slicesContainsFunc_int_implIsValidQuota_1 s_ = decide ((slicesIndexFunc_int_implIsValidQuota_1 s_) ≥ (0 : Int)) from rfl)
def implIsValidQuota (quota : (List Int)) : Bool := (((quota.length : Int) == (3 : Int)) && (!(slicesContainsFunc_int_implIsValidQuota_1 quota)))
theorem implIsValidQuota_a (quota : (List Int)) : ACalls Try.prog 23 [.h quota] (.b (implIsValidQuota quota)) := by
  refine en tt_ok Try.func23 fun w0 F0 hG => ?_
  refine sn tt_ok [0, 2] [] (p0) ?_
  refine awp_seq ?_
  refine mz [(2, .b false)] [] [] [] ?_
  refine jn [(2, .b (((quota.length : Int) == (3 : Int)) && (!(slicesContainsFunc_int_implIsValidQuota_1 quota))))] [0, 2] [] [] ((quota.length : Int) == (3 : Int)) (fun h1 => ?_) (fun h1 => ?_) ?_
  ·
    have h1d := eq_of_beq h1
    refine rn tt_ok [2] [] (pl 1 quota (pt 2 h1 (pc 5 (slicesContainsFunc_int_implIsValidQuota_1_a quota) p0))) ?_
    exact ⟨rfl, weak_fit (by rw [h1]; first | done | kernel_rfl)⟩
  ·
    have h1d := ne_of_beq h1
    refine rn tt_ok [2] [] (pl 1 quota (pf 2 h1 p0)) ?_
    exact ⟨rfl, weak_fit (by rw [h1]; first | done | kernel_rfl)⟩
  refine awp_ret ?_
  exact pb [] (show implIsValidQuota quota = (((quota.length : Int) == (3 : Int)) && (!(slicesContainsFunc_int_implIsValidQuota_1 quota))) from rfl)
def specIsValidQuota_f0 (_ : Nat) (a0 : Int) (_ : Unit) : Rd (Bool) (Unit) (Unit) := (bif (!(specl01In a0 0 999)) then (.ret false) else (.next ()))
def specIsValidQuota_e0 (_ : Nat) (_ : Unit) : Unit := ()
def specIsValidQuota (quota : (List Int)) : Bool := (Out.on (forL specIsValidQuota_f0 specIsValidQuota_e0 quota 0 ()) (fun _ => ((quota.length : Int) == (3 : Int))))
theorem specIsValidQuota_a (quota : (List Int)) : ACalls Try.prog 24 [.h quota] (.b (specIsValidQuota quota)) := by
  refine en tt_ok Try.func24 fun w0 F0 hG => ?_
  refine sn tt_ok [0, 2] [] (p0) ?_
  refine awp_seq ?_
  refine tn tt_ok [0, 2, 3] [] (p0) ?_
  refine mz [(2, .b false), (3, .i 0)] [] [] [] ?_
  refine wT 0 0 .sh quota (fun hw1 hl2 => ?_)
  refine blL0 specIsValidQuota_f0 specIsValidQuota_e0 quota () (fun k0 _ => [(3, .i ((k0 : Nat) : Int))]) [3] (fun _ => []) [3] (weak_fit (by kernel_rfl)) (fun k0 s0 hk0 hI0 => ?_) (fun k0 s0 hk0 hI0 => ?_) (fun y0 hD0 => ?_)
  ·
    obtain ⟨a0, hx0⟩ := get_some (l := quota) (i := k0) hk0
    refine awp_seq ?_
    refine sn tt_ok [0, 2, 3, 7] [] (pl 2 quota (pe 3 (av_bool (decide_eq_true (p := ((k0 : Nat) : Int) < (quota.length : Int)) (by omega))) p0)) ?_
    refine ckT ?_
    refine awp_skip ?_
    refine awp_seq ?_
    refine awp_block ?_
    refine tn tt_ok [0, 2, 3, 15] [] (pn 2 hx0 (pc 4 (specl01In_a a0 0 999) p0)) ?_
    refine ck (!(specl01In a0 0 999)) (fun h3 => ?_) (fun h3 => ?_)
    ·
      have h3n : (specl01In a0 0 999) = false := bnot_t h3
      refine tu tt_ok [] [] [] [] (p0) ?_
      refine awp_ret ?_
      have hr4 : (forL specIsValidQuota_f0 specIsValidQuota_e0 quota 0 ()) = .ret false := forL_ret hx0 (bif_t h3 (rfl)) hI0
      exact pb [] (on_r hr4)
    ·
      have h3n : (specl01In a0 0 999) = true := bnot_f h3
      have h3nw := l01In_iff.1 h3n
      refine awp_skip ?_
      refine qu tt_ok [(3, .i ((k0 + 1 : Nat) : Int))] [3] [] [] (pe 1 (av_i (wrap_succ k0 (by omega))) p0) ?_
      exact Exists.intro _ (And.intro (weak_fit (by kernel_rfl)) (forL_next hx0 (bif_f h3 (rfl)) hI0))
  ·
    refine awp_seq ?_
    refine sn tt_ok [0, 2, 3, 7] [] (pl 2 quota (pe 3 (av_bool (decide_eq_false (p := ((k0 : Nat) : Int) < (quota.length : Int)) (by omega))) p0)) ?_
    refine ckF ?_
    refine awp_exit ?_
    exact Exists.intro _ (And.intro (weak_fit (by kernel_rfl)) (forL_end hk0 (rfl) hI0))
  ·
    refine sn tt_ok [2] [] (pl 1 quota p0) ?_
    refine awp_ret ?_
    exact pb [] (on_b hD0 (rfl))
def lawsfileOf (s_ : StoreD) (id : Int) : FileD := (((specFindFile s_ id)).1)
theorem lawsfileOf_a (s_ : StoreD) (id : Int) : ACalls Try.prog 14 [.a [.h s_.1, .h s_.2.1, .i s_.2.2], .i id] (.a [.i ((lawsfileOf s_ id).1), .i ((lawsfileOf s_ id).2.1), .b ((lawsfileOf s_ id).2.2.1), .i ((lawsfileOf s_ id).2.2.2.1), .o 0 ((lawsfileOf s_ id).2.2.2.2)]) := by
  refine en tt_ok Try.func14 fun w0 F0 hG => ?_
  refine sn tt_ok [1, 2, 4] [2, 4] (p0) ?_
  refine tn tt_ok [4, 5] [4, 5] (pc 2 (specFindFile_a s_ id) p0) ?_
  refine tu tt_ok [(4, .p 4 0)] [0, 1] [(4, [.i ((((specFindFile s_ id)).1).1), .i ((((specFindFile s_ id)).1).2.1), .b ((((specFindFile s_ id)).1).2.2.1), .i ((((specFindFile s_ id)).1).2.2.2.1), .o 640 ((((specFindFile s_ id)).1).2.2.2.2)])] [] (p0) ?_
  refine awp_ret ?_
  exact pz [] (show lawsfileOf s_ id = (((specFindFile s_ id)).1) from rfl) (fun z => .a [.i z.1, .i z.2.1, .b z.2.2.1, .i z.2.2.2.1, .o 0 z.2.2.2.2])
end Go.Proofs.Ytcnkkobgogmakaa
