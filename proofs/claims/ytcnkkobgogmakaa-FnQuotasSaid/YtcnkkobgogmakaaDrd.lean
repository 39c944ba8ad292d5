/- What functions compute, and that they do (printed by am2.py): each function as a Lean function, then its contract. -/
import Derived.Test.YtcnkkobgogmakaaDrs
import Derived.Test.YtcnkkobgogmakaaZc
import Derived.KernelRfl
set_option linter.unusedVariables false
set_option linter.unusedSimpArgs false
namespace Go.Proofs.Ytcnkkobgogmakaa
open Go.RowKit
open GoE (enc wide)
def specl02Value (code : (List UInt8)) (ci : Nat) (ch : Int) : ValueD × Nat × Int := (lt (α := Int × Nat × Int) (specl01Below code ci ch 5) (fun x1 => (bif (x1.1 == (0 : Int)) then ((0, 0, ⟨#[]⟩), x1.2.1, x1.2.2) else (lt (α := Bool) (bif (x1.1 == (1 : Int)) then (x1.1 == (1 : Int)) else (x1.1 == (2 : Int))) (fun x4 => (bif x4 then (lt (α := Int × Nat × Int) (specl01Below code x1.2.1 x1.2.2 5) (fun x7 => ((specIntValue x7.1), x7.2.1, x7.2.2))) else (lt (α := ByteArray × Nat × Int) (specl01Pick code x1.2.1 x1.2.2 [⟨#[114, 101, 100]⟩, ⟨#[98, 108, 117, 101]⟩, ⟨#[105, 110, 107]⟩]) (fun x9 => ((specStringValue x9.1), x9.2.1, x9.2.2)))))))))
theorem specl02Value_a (code : (List UInt8)) (ci : Nat) (ch : Int) : AGive Try.prog 66 [.h code, .i ((ci : Nat) : Int), .i ch] [] (.a [.i ((((specl02Value code ci ch)).1).1), .i ((((specl02Value code ci ch)).1).2.1), .s ((((specl02Value code ci ch)).1).2.2)]) [.h code, .i ((((specl02Value code ci ch)).2.1 : Nat) : Int), .i (((specl02Value code ci ch)).2.2)] := by
  refine agive_of (tt := tt) tt_ok Try.func66 (fn := Try.f66) rfl (by unfold FnOk; kernel_rfl) (Nat.le_of_ble_eq_true rfl) (Nat.le_of_ble_eq_true rfl) rfl rfl fun w0 F0 hG => ?_
  refine sn tt_ok [0, 2] [2, 60000] (p0) ?_
  refine awp_seq ?_
  obtain ⟨x1, hx1⟩ : ∃ z : Int × Nat × Int, specl01Below code ci ch 5 = z := ⟨_, rfl⟩
  have hbx1 := hx1 ▸ specl01Below_bd code ci ch 5
  refine tn tt_ok [0, 2, 4] [2, 60000] (po 1 (.give none (.i x1.1) [.h code, .i ((x1.2.1 : Nat) : Int), .i x1.2.2]) (px (ob_give (hx1 ▸ specl01Below_a code ci ch 5)) p0)) ?_
  refine awp_block ?_
  refine tu tt_ok [(2, .p 2 0), (4, .i x1.1), (5, .b (x1.1 == (0 : Int)))] [] [(2, [.i 0, .i 0, .s ⟨#[]⟩]), (60000, [.h code, .i ((x1.2.1 : Nat) : Int), .i x1.2.2])] [60000] (p0) ?_
  refine ck (x1.1 == (0 : Int)) (fun h2 => ?_) (fun h2 => ?_)
  ·
    have h2d := eq_of_beq h2
    refine su tt_ok [] [4, 5] [] [] (p0) ?_
    refine awp_ret ?_
    have hE3 : specl02Value code ci ch = ((0, 0, ⟨#[]⟩), x1.2.1, x1.2.2) := lt_b hx1 (bif_t h2 (rfl))
    exact gret [] (congrArg (fun z => (.a [.i z.1.1, .i z.1.2.1, .s z.1.2.2] : AV)) hE3.symm) (congrArg (fun z => ([.h code, .i ((z.2.1 : Nat) : Int), .i z.2.2] : List C)) hE3.symm)
  ·
    have h2d := ne_of_beq h2
    refine awp_seq ?_
    refine sn tt_ok [0, 2, 4, 8] [2, 60000] (p0) ?_
    refine mz [(8, .b (x1.1 == (1 : Int)))] [5] [] [] ?_
    obtain ⟨x4, hx4⟩ : ∃ z : Bool, (bif (x1.1 == (1 : Int)) then (x1.1 == (1 : Int)) else (x1.1 == (2 : Int))) = z := ⟨_, rfl⟩
    refine jn [(8, .b x4)] [4, 8] [] [] (x1.1 == (1 : Int)) (fun h5 => ?_) (fun h5 => ?_) ?_
    ·
      have h5d := eq_of_beq h5
      refine ckt h5 ?_
      refine awp_skip ?_
      obtain rfl : x4 = (x1.1 == (1 : Int)) := hx4.symm.trans (show (bif (x1.1 == (1 : Int)) then (x1.1 == (1 : Int)) else (x1.1 == (2 : Int))) = (x1.1 == (1 : Int)) from bif_t h5 (rfl))
      exact ⟨rfl, weak_fit (by kernel_rfl)⟩
    ·
      have h5d := ne_of_beq h5
      refine ckf h5 ?_
      refine rn tt_ok [0, 2, 8] [2, 60000] (p0) ?_
      obtain rfl : x4 = (x1.1 == (2 : Int)) := hx4.symm.trans (show (bif (x1.1 == (1 : Int)) then (x1.1 == (1 : Int)) else (x1.1 == (2 : Int))) = (x1.1 == (2 : Int)) from bif_f h5 (rfl))
      exact ⟨rfl, weak_fit (by kernel_rfl)⟩
    refine ck x4 (fun h6 => ?_) (fun h6 => ?_)
    ·
      obtain ⟨x7, hx7⟩ : ∃ z : Int × Nat × Int, specl01Below code x1.2.1 x1.2.2 5 = z := ⟨_, rfl⟩
      have hbx7 := hx7 ▸ specl01Below_bd code x1.2.1 x1.2.2 5
      refine sn tt_ok [0, 2] [2, 60000] (po 1 (.give none (.i x7.1) [.h code, .i ((x7.2.1 : Nat) : Int), .i x7.2.2]) (px (ob_give (hx7 ▸ specl01Below_a code x1.2.1 x1.2.2 5)) (pc 2 (specIntValue_a x7.1) p0))) ?_
      refine awp_ret ?_
      have hE8 : specl02Value code ci ch = ((specIntValue x7.1), x7.2.1, x7.2.2) := lt_b hx1 (bif_f h2 (lt_b hx4 (bif_t h6 (lt_b hx7 (rfl)))))
      exact gret [] (congrArg (fun z => (.a [.i z.1.1, .i z.1.2.1, .s z.1.2.2] : AV)) hE8.symm) (congrArg (fun z => ([.h code, .i ((z.2.1 : Nat) : Int), .i z.2.2] : List C)) hE8.symm)
    ·
      refine awp_skip ?_
      obtain ⟨x9, hx9⟩ : ∃ z : ByteArray × Nat × Int, specl01Pick code x1.2.1 x1.2.2 [⟨#[114, 101, 100]⟩, ⟨#[98, 108, 117, 101]⟩, ⟨#[105, 110, 107]⟩] = z := ⟨_, rfl⟩
      refine sn tt_ok [0, 2] [2, 60000] (po 2 (.give none (.s x9.1) [.h code, .i ((x9.2.1 : Nat) : Int), .i x9.2.2]) (px (ob_give (hx9 ▸ specl01Pick_a code x1.2.1 x1.2.2 [⟨#[114, 101, 100]⟩, ⟨#[98, 108, 117, 101]⟩, ⟨#[105, 110, 107]⟩] (Nat.zero_lt_succ _))) (pc 3 (specStringValue_a x9.1) p0))) ?_
      refine awp_ret ?_
      have hE10 : specl02Value code ci ch = ((specStringValue x9.1), x9.2.1, x9.2.2) := lt_b hx1 (bif_f h2 (lt_b hx4 (bif_f h6 (lt_b hx9 (rfl)))))
      exact gret [] (congrArg (fun z => (.a [.i z.1.1, .i z.1.2.1, .s z.1.2.2] : AV)) hE10.symm) (congrArg (fun z => ([.h code, .i ((z.2.1 : Nat) : Int), .i z.2.2] : List C)) hE10.symm)
def specl02Any (code : (List UInt8)) (ci : Nat) (ch : Int) : ValueD × Nat × Int := (lt (α := ValueD × Nat × Int) (specl02Value code ci ch) (fun x1 => (lt (α := Int × Nat × Int) (specl01Below code x1.2.1 x1.2.2 10) (fun x2 => (bif (x2.1 == (0 : Int)) then (lt (α := Int × Nat × Int) (specl01Below code x2.2.1 x2.2.2 5) (fun x4 => (((x4.1 - 1), x1.1.2.1, x1.1.2.2), x4.2.1, x4.2.2))) else (bif (x2.1 == (1 : Int)) then (lt (α := Int × Nat × Int) (specl01PickInt code x2.2.1 x2.2.2 [-1, 0, 999, 1000, 9223372036854775807]) (fun x7 => ((x1.1.1, x7.1, x1.1.2.2), x7.2.1, x7.2.2))) else (bif (x2.1 == (2 : Int)) then (lt (α := ByteArray × Nat × Int) (specl01Pick code x2.2.1 x2.2.2 [⟨#[]⟩, ⟨#[65]⟩, ⟨#[97, 98, 99, 100, 101, 102, 103]⟩, ⟨#[97, 98, 99, 100, 101, 102]⟩, ⟨#[97, 32, 98]⟩]) (fun x10 => ((x1.1.1, x1.1.2.1, x10.1), x10.2.1, x10.2.2))) else (x1.1, x2.2.1, x2.2.2))))))))
theorem specl02Any_a (code : (List UInt8)) (ci : Nat) (ch : Int) : AGive Try.prog 81 [.h code, .i ((ci : Nat) : Int), .i ch] [] (.a [.i ((((specl02Any code ci ch)).1).1), .i ((((specl02Any code ci ch)).1).2.1), .s ((((specl02Any code ci ch)).1).2.2)]) [.h code, .i ((((specl02Any code ci ch)).2.1 : Nat) : Int), .i (((specl02Any code ci ch)).2.2)] := by
  refine agive_of (tt := tt) tt_ok Try.func81 (fn := Try.f81) rfl (by unfold FnOk; kernel_rfl) (Nat.le_of_ble_eq_true rfl) (Nat.le_of_ble_eq_true rfl) rfl rfl fun w0 F0 hG => ?_
  refine sn tt_ok [0, 2] [2, 60000] (p0) ?_
  obtain ⟨x1, hx1⟩ : ∃ z : ValueD × Nat × Int, specl02Value code ci ch = z := ⟨_, rfl⟩
  refine tn tt_ok [0, 2, 3] [2, 3, 60000] (po 1 (.give none (.a [.i x1.1.1, .i x1.1.2.1, .s x1.1.2.2]) [.h code, .i ((x1.2.1 : Nat) : Int), .i x1.2.2]) (px (ob_give (hx1 ▸ specl02Value_a code ci ch)) p0)) ?_
  refine awp_seq ?_
  obtain ⟨x2, hx2⟩ : ∃ z : Int × Nat × Int, specl01Below code x1.2.1 x1.2.2 10 = z := ⟨_, rfl⟩
  have hbx2 := hx2 ▸ specl01Below_bd code x1.2.1 x1.2.2 10
  refine tu tt_ok [(2, .p 2 0), (3, .p 3 0), (7, .i x2.1)] [] [(2, [.i 0, .i 0, .s ⟨#[]⟩]), (3, [.i x1.1.1, .i x1.1.2.1, .s x1.1.2.2]), (60000, [.h code, .i ((x2.2.1 : Nat) : Int), .i x2.2.2])] [60000] (po 1 (.give none (.i x2.1) [.h code, .i ((x2.2.1 : Nat) : Int), .i x2.2.2]) (px (ob_give (hx2 ▸ specl01Below_a code x1.2.1 x1.2.2 10)) p0)) ?_
  refine awp_block ?_
  refine sn tt_ok [0, 2, 3, 7, 8] [2, 3, 60000] (p0) ?_
  refine ck (x2.1 == (0 : Int)) (fun h3 => ?_) (fun h3 => ?_)
  ·
    have h3d := eq_of_beq h3
    obtain ⟨x4, hx4⟩ : ∃ z : Int × Nat × Int, specl01Below code x2.2.1 x2.2.2 5 = z := ⟨_, rfl⟩
    have hbx4 := hx4 ▸ specl01Below_bd code x2.2.1 x2.2.2 5
    refine qn tt_ok [0, 2, 3] [2, 3, 60000] (po 1 (.give none (.i x4.1) [.h code, .i ((x4.2.1 : Nat) : Int), .i x4.2.2]) (px (ob_give (hx4 ▸ specl01Below_a code x2.2.1 x2.2.2 5)) (pe 2 (av_i (IntWalk.i64_in (x4.1 - 1) (by omega))) p0))) ?_
    refine tu tt_ok [] [3, 7] [(2, [.i (x4.1 - 1), .i x1.1.2.1, .s x1.1.2.2]), (60000, [.h code, .i ((x4.2.1 : Nat) : Int), .i x4.2.2])] [2, 3, 60000] (p0) ?_
    refine awp_ret ?_
    have hE5 : specl02Any code ci ch = (((x4.1 - 1), x1.1.2.1, x1.1.2.2), x4.2.1, x4.2.2) := lt_b hx1 (lt_b hx2 (bif_t h3 (lt_b hx4 (rfl))))
    exact gret [] (congrArg (fun z => (.a [.i z.1.1, .i z.1.2.1, .s z.1.2.2] : AV)) hE5.symm) (congrArg (fun z => ([.h code, .i ((z.2.1 : Nat) : Int), .i z.2.2] : List C)) hE5.symm)
  ·
    have h3d := ne_of_beq h3
    refine tn tt_ok [0, 2, 3, 7, 14] [2, 3, 60000] (p0) ?_
    refine ck (x2.1 == (1 : Int)) (fun h6 => ?_) (fun h6 => ?_)
    ·
      have h6d := eq_of_beq h6
      obtain ⟨x7, hx7⟩ : ∃ z : Int × Nat × Int, specl01PickInt code x2.2.1 x2.2.2 [-1, 0, 999, 1000, 9223372036854775807] = z := ⟨_, rfl⟩
      refine qu tt_ok [] [7] [(3, [.i x1.1.1, .i x7.1, .s x1.1.2.2]), (60000, [.h code, .i ((x7.2.1 : Nat) : Int), .i x7.2.2])] [3, 60000] (po 2 (.give none (.i x7.1) [.h code, .i ((x7.2.1 : Nat) : Int), .i x7.2.2]) (px (ob_give (hx7 ▸ specl01PickInt_a code x2.2.1 x2.2.2 [-1, 0, 999, 1000, 9223372036854775807] (Nat.zero_lt_succ _))) p0)) ?_
      refine sn tt_ok [0, 2] [2, 60000] (p0) ?_
      refine awp_ret ?_
      have hE8 : specl02Any code ci ch = ((x1.1.1, x7.1, x1.1.2.2), x7.2.1, x7.2.2) := lt_b hx1 (lt_b hx2 (bif_f h3 (bif_t h6 (lt_b hx7 (rfl)))))
      exact gret [] (congrArg (fun z => (.a [.i z.1.1, .i z.1.2.1, .s z.1.2.2] : AV)) hE8.symm) (congrArg (fun z => ([.h code, .i ((z.2.1 : Nat) : Int), .i z.2.2] : List C)) hE8.symm)
    ·
      have h6d := ne_of_beq h6
      refine tu tt_ok [(20, .b (x2.1 == (2 : Int)))] [7] [] [] (p0) ?_
      refine ck (x2.1 == (2 : Int)) (fun h9 => ?_) (fun h9 => ?_)
      ·
        have h9d := eq_of_beq h9
        obtain ⟨x10, hx10⟩ : ∃ z : ByteArray × Nat × Int, specl01Pick code x2.2.1 x2.2.2 [⟨#[]⟩, ⟨#[65]⟩, ⟨#[97, 98, 99, 100, 101, 102, 103]⟩, ⟨#[97, 98, 99, 100, 101, 102]⟩, ⟨#[97, 32, 98]⟩] = z := ⟨_, rfl⟩
        refine rn tt_ok [0, 2, 3] [2, 3, 60000] (po 2 (.give none (.s x10.1) [.h code, .i ((x10.2.1 : Nat) : Int), .i x10.2.2]) (px (ob_give (hx10 ▸ specl01Pick_a code x2.2.1 x2.2.2 [⟨#[]⟩, ⟨#[65]⟩, ⟨#[97, 98, 99, 100, 101, 102, 103]⟩, ⟨#[97, 98, 99, 100, 101, 102]⟩, ⟨#[97, 32, 98]⟩] (Nat.zero_lt_succ _))) p0)) ?_
        refine tn tt_ok [0, 2] [2, 60000] (p0) ?_
        refine awp_ret ?_
        have hE11 : specl02Any code ci ch = ((x1.1.1, x1.1.2.1, x10.1), x10.2.1, x10.2.2) := lt_b hx1 (lt_b hx2 (bif_f h3 (bif_f h6 (bif_t h9 (lt_b hx10 (rfl))))))
        exact gret [] (congrArg (fun z => (.a [.i z.1.1, .i z.1.2.1, .s z.1.2.2] : AV)) hE11.symm) (congrArg (fun z => ([.h code, .i ((z.2.1 : Nat) : Int), .i z.2.2] : List C)) hE11.symm)
      ·
        have h9d := ne_of_beq h9
        refine awp_skip ?_
        refine sn tt_ok [0, 2] [2, 60000] (p0) ?_
        refine awp_ret ?_
        have hE12 : specl02Any code ci ch = (x1.1, x2.2.1, x2.2.2) := lt_b hx1 (lt_b hx2 (bif_f h3 (bif_f h6 (bif_f h9 (rfl)))))
        exact gret [] (congrArg (fun z => (.a [.i z.1.1, .i z.1.2.1, .s z.1.2.2] : AV)) hE12.symm) (congrArg (fun z => ([.h code, .i ((z.2.1 : Nat) : Int), .i z.2.2] : List C)) hE12.symm)
def specl03Name (code : (List UInt8)) (ci : Nat) (ch : Int) : ByteArray × Nat × Int := (lt (α := ByteArray × Nat × Int) (specl01Pick code ci ch [⟨#[97]⟩, ⟨#[98]⟩, ⟨#[110]⟩, ⟨#[116]⟩, ⟨#[97]⟩, ⟨#[98]⟩, ⟨#[116]⟩, ⟨#[122]⟩, ⟨#[65]⟩, ⟨#[]⟩]) (fun x1 => (x1.1, x1.2.1, x1.2.2)))
theorem specl03Name_a (code : (List UInt8)) (ci : Nat) (ch : Int) : AGive Try.prog 65 [.h code, .i ((ci : Nat) : Int), .i ch] [] (.s (((specl03Name code ci ch)).1)) [.h code, .i ((((specl03Name code ci ch)).2.1 : Nat) : Int), .i (((specl03Name code ci ch)).2.2)] := by
  refine agive_of (tt := tt) tt_ok Try.func65 (fn := Try.f65) rfl (by unfold FnOk; kernel_rfl) (Nat.le_of_ble_eq_true rfl) (Nat.le_of_ble_eq_true rfl) rfl rfl fun w0 F0 hG => ?_
  refine sn tt_ok [0, 2] [60000] (p0) ?_
  obtain ⟨x1, hx1⟩ : ∃ z : ByteArray × Nat × Int, specl01Pick code ci ch [⟨#[97]⟩, ⟨#[98]⟩, ⟨#[110]⟩, ⟨#[116]⟩, ⟨#[97]⟩, ⟨#[98]⟩, ⟨#[116]⟩, ⟨#[122]⟩, ⟨#[65]⟩, ⟨#[]⟩] = z := ⟨_, rfl⟩
  refine tn tt_ok [0, 2] [60000] (po 2 (.give none (.s x1.1) [.h code, .i ((x1.2.1 : Nat) : Int), .i x1.2.2]) (px (ob_give (hx1 ▸ specl01Pick_a code ci ch [⟨#[97]⟩, ⟨#[98]⟩, ⟨#[110]⟩, ⟨#[116]⟩, ⟨#[97]⟩, ⟨#[98]⟩, ⟨#[116]⟩, ⟨#[122]⟩, ⟨#[65]⟩, ⟨#[]⟩] (Nat.zero_lt_succ _))) p0)) ?_
  refine awp_ret ?_
  have hE2 : specl03Name code ci ch = (x1.1, x1.2.1, x1.2.2) := lt_b hx1 (rfl)
  exact gret [] (congrArg (fun z => (.s z.1 : AV)) hE2.symm) (congrArg (fun z => ([.h code, .i ((z.2.1 : Nat) : Int), .i z.2.2] : List C)) hE2.symm)
def specl03Any (code : (List UInt8)) (ci : Nat) (ch : Int) : (List FieldD) × Nat × Int := (lt (α := Int × Nat × Int) (specl01Below code ci ch 8) (fun x1 => (bif (x1.1 == (0 : Int)) then (lt (α := Int × Nat × Int) (specl01Below code x1.2.1 x1.2.2 4) (fun x3 => (List.take (Int.toNat x3.1) specl03Usual, x3.2.1, x3.2.2))) else (bif (x1.1 == (1 : Int)) then (lt (α := Int × Nat × Int) (specl01Below code x1.2.1 x1.2.2 4) (fun x8 => (lt (α := Int × Nat × Int) (specl01Below code x8.2.1 x8.2.2 5) (fun x9 => (List.set specl03Usual (Int.toNat x8.1) ((nth specl03Usual (Int.toNat x8.1)).1, (x9.1 - 1)), x9.2.1, x9.2.2))))) else (bif (x1.1 == (2 : Int)) then (lt (α := Int × Nat × Int) (specl01Below code x1.2.1 x1.2.2 4) (fun x15 => (lt (α := ByteArray × Nat × Int) (specl03Name code x15.2.1 x15.2.2) (fun x16 => (List.set specl03Usual (Int.toNat x15.1) (x16.1, (nth specl03Usual (Int.toNat x15.1)).2), x16.2.1, x16.2.2))))) else (bif (x1.1 == (3 : Int)) then (lt (α := ByteArray × Nat × Int) (specl01Pick code x1.2.1 x1.2.2 [⟨#[117]⟩, ⟨#[122]⟩, ⟨#[97]⟩]) (fun x22 => (specl03Usual ++ [((x22.1, 1) : FieldD)], x22.2.1, x22.2.2))) else (bif (x1.1 == (4 : Int)) then (specl03Usual ++ [((⟨#[117]⟩, 1) : FieldD), ((⟨#[118]⟩, 2) : FieldD)], x1.2.1, x1.2.2) else (specl03Usual, x1.2.1, x1.2.2))))))))
theorem specl03Any_a (code : (List UInt8)) (ci : Nat) (ch : Int) : AGive Try.prog 107 [.h code, .i ((ci : Nat) : Int), .i ch] [] (.h (((specl03Any code ci ch)).1)) [.h code, .i ((((specl03Any code ci ch)).2.1 : Nat) : Int), .i (((specl03Any code ci ch)).2.2)] := by
  refine agive_of (tt := tt) tt_ok Try.func107 (fn := Try.f107) rfl (by unfold FnOk; kernel_rfl) (Nat.le_of_ble_eq_true rfl) (Nat.le_of_ble_eq_true rfl) rfl rfl fun w0 F0 hG => ?_
  have hu4 : List.length specl03Usual = 4 := rfl
  refine sn tt_ok [0, 2] [60000] (p0) ?_
  refine tn tt_ok [0, 2, 3] [60000] (pc 0 (specl03Usual_a) p0) ?_
  refine awp_seq ?_
  obtain ⟨x1, hx1⟩ : ∃ z : Int × Nat × Int, specl01Below code ci ch 8 = z := ⟨_, rfl⟩
  have hbx1 := hx1 ▸ specl01Below_bd code ci ch 8
  refine tu tt_ok [(2, .e 0), (3, .o 256 specl03Usual), (6, .i x1.1)] [] [(60000, [.h code, .i ((x1.2.1 : Nat) : Int), .i x1.2.2])] [60000] (po 1 (.give none (.i x1.1) [.h code, .i ((x1.2.1 : Nat) : Int), .i x1.2.2]) (px (ob_give (hx1 ▸ specl01Below_a code ci ch 8)) p0)) ?_
  refine awp_block ?_
  refine sn tt_ok [0, 2, 3, 6, 7] [60000] (p0) ?_
  refine ck (x1.1 == (0 : Int)) (fun h2 => ?_) (fun h2 => ?_)
  ·
    have h2d := eq_of_beq h2
    obtain ⟨x3, hx3⟩ : ∃ z : Int × Nat × Int, specl01Below code x1.2.1 x1.2.2 4 = z := ⟨_, rfl⟩
    have hbx3 := hx3 ▸ specl01Below_bd code x1.2.1 x1.2.2 4
    refine wT 3 0 (.own true 256) specl03Usual (fun hw4 hl5 => ?_)
    refine qn tt_ok [0, 2, 3] [60000] (po 2 (.give none (.i x3.1) [.h code, .i ((x3.2.1 : Nat) : Int), .i x3.2.2]) (px (ob_give (hx3 ▸ specl01Below_a code x1.2.1 x1.2.2 4)) (pe 3 (av_take (.vw 256) 2 (Int.toNat x3.1) x3.1 specl03Usual rfl) (px (ob_rng (lo := 0) (hi := x3.1) (n := (List.length (eL specl03Usual))) (rng_of (by omega) (by omega) (by omega))) p0)))) ?_
    refine tu tt_ok [(2, .v 256 (List.take (Int.toNat x3.1) specl03Usual))] [2, 3, 6] [(60000, [.h code, .i ((x3.2.1 : Nat) : Int), .i x3.2.2])] [60000] (p0) ?_
    refine awp_ret ?_
    have hE6 : specl03Any code ci ch = (List.take (Int.toNat x3.1) specl03Usual, x3.2.1, x3.2.2) := lt_b hx1 (bif_t h2 (lt_b hx3 (rfl)))
    exact gret [256] (congrArg (fun z => (.h z.1 : AV)) hE6.symm) (congrArg (fun z => ([.h code, .i ((z.2.1 : Nat) : Int), .i z.2.2] : List C)) hE6.symm)
  ·
    have h2d := ne_of_beq h2
    refine tn tt_ok [0, 2, 3, 6, 13] [60000] (p0) ?_
    refine ck (x1.1 == (1 : Int)) (fun h7 => ?_) (fun h7 => ?_)
    ·
      have h7d := eq_of_beq h7
      obtain ⟨x8, hx8⟩ : ∃ z : Int × Nat × Int, specl01Below code x1.2.1 x1.2.2 4 = z := ⟨_, rfl⟩
      have hbx8 := hx8 ▸ specl01Below_bd code x1.2.1 x1.2.2 4
      obtain ⟨x9, hx9⟩ : ∃ z : Int × Nat × Int, specl01Below code x8.2.1 x8.2.2 5 = z := ⟨_, rfl⟩
      have hbx9 := hx9 ▸ specl01Below_bd code x8.2.1 x8.2.2 5
      refine wT 3 0 (.own true 256) specl03Usual (fun hw11 hl12 => ?_)
      have hx10 := ng specl03Usual (Int.toNat x8.1)
      refine qu tt_ok [(3, .one (.slc (.own true 256) 2 (setRow (eL specl03Usual) (Int.toNat x8.1) 1 [.i (x9.1 - 1)])))] [3, 6] [(60000, [.h code, .i ((x9.2.1 : Nat) : Int), .i x9.2.2])] [60000] (po 2 (.give none (.i x8.1) [.h code, .i ((x8.2.1 : Nat) : Int), .i x8.2.2]) (px (ob_give (hx8 ▸ specl01Below_a code x1.2.1 x1.2.2 4)) (po 4 (.give none (.i x9.1) [.h code, .i ((x9.2.1 : Nat) : Int), .i x9.2.2]) (px (ob_give (hx9 ▸ specl01Below_a code x8.2.1 x8.2.2 5)) (pe 5 (av_i (IntWalk.i64_in (x9.1 - 1) (by omega))) (pG 6 x8.1 hx10 p0)))))) ?_
      refine eqn [(3, .o 256 (List.set specl03Usual (Int.toNat x8.1) ((nth specl03Usual (Int.toNat x8.1)).1, (x9.1 - 1))))] [3] [] [] (by rw [setRow_eL (y := ((nth specl03Usual (Int.toNat x8.1)).1, (x9.1 - 1))) hx10 rfl]; first | done | kernel_rfl) ?_
      refine sn tt_ok [0, 2] [60000] (p0) ?_
      refine awp_ret ?_
      have hE13 : specl03Any code ci ch = (List.set specl03Usual (Int.toNat x8.1) ((nth specl03Usual (Int.toNat x8.1)).1, (x9.1 - 1)), x9.2.1, x9.2.2) := lt_b hx1 (bif_f h2 (bif_t h7 (lt_b hx8 (lt_b hx9 (rfl)))))
      exact gret [256] (congrArg (fun z => (.h z.1 : AV)) hE13.symm) (congrArg (fun z => ([.h code, .i ((z.2.1 : Nat) : Int), .i z.2.2] : List C)) hE13.symm)
    ·
      have h7d := ne_of_beq h7
      refine tu tt_ok [(23, .b (x1.1 == (2 : Int)))] [] [] [] (p0) ?_
      refine ck (x1.1 == (2 : Int)) (fun h14 => ?_) (fun h14 => ?_)
      ·
        have h14d := eq_of_beq h14
        obtain ⟨x15, hx15⟩ : ∃ z : Int × Nat × Int, specl01Below code x1.2.1 x1.2.2 4 = z := ⟨_, rfl⟩
        have hbx15 := hx15 ▸ specl01Below_bd code x1.2.1 x1.2.2 4
        obtain ⟨x16, hx16⟩ : ∃ z : ByteArray × Nat × Int, specl03Name code x15.2.1 x15.2.2 = z := ⟨_, rfl⟩
        refine wT 3 0 (.own true 256) specl03Usual (fun hw18 hl19 => ?_)
        have hx17 := ng specl03Usual (Int.toNat x15.1)
        refine ru tt_ok [(3, .one (.slc (.own true 256) 2 (setRow (eL specl03Usual) (Int.toNat x15.1) 0 [.s x16.1])))] [3, 6, 23] [(60000, [.h code, .i ((x16.2.1 : Nat) : Int), .i x16.2.2])] [60000] (po 2 (.give none (.i x15.1) [.h code, .i ((x15.2.1 : Nat) : Int), .i x15.2.2]) (px (ob_give (hx15 ▸ specl01Below_a code x1.2.1 x1.2.2 4)) (po 4 (.give none (.s x16.1) [.h code, .i ((x16.2.1 : Nat) : Int), .i x16.2.2]) (px (ob_give (hx16 ▸ specl03Name_a code x15.2.1 x15.2.2)) (pG 5 x15.1 hx17 p0))))) ?_
        refine eqn [(3, .o 256 (List.set specl03Usual (Int.toNat x15.1) (x16.1, (nth specl03Usual (Int.toNat x15.1)).2)))] [3] [] [] (by rw [setRow_eL (y := (x16.1, (nth specl03Usual (Int.toNat x15.1)).2)) hx17 rfl]; first | done | kernel_rfl) ?_
        refine sn tt_ok [0, 2] [60000] (p0) ?_
        refine awp_ret ?_
        have hE20 : specl03Any code ci ch = (List.set specl03Usual (Int.toNat x15.1) (x16.1, (nth specl03Usual (Int.toNat x15.1)).2), x16.2.1, x16.2.2) := lt_b hx1 (bif_f h2 (bif_f h7 (bif_t h14 (lt_b hx15 (lt_b hx16 (rfl))))))
        exact gret [256] (congrArg (fun z => (.h z.1 : AV)) hE20.symm) (congrArg (fun z => ([.h code, .i ((z.2.1 : Nat) : Int), .i z.2.2] : List C)) hE20.symm)
      ·
        have h14d := ne_of_beq h14
        refine sn tt_ok [0, 2, 3, 6, 32] [60000] (p0) ?_
        refine ck (x1.1 == (3 : Int)) (fun h21 => ?_) (fun h21 => ?_)
        ·
          have h21d := eq_of_beq h21
          obtain ⟨x22, hx22⟩ : ∃ z : ByteArray × Nat × Int, specl01Pick code x1.2.1 x1.2.2 [⟨#[117]⟩, ⟨#[122]⟩, ⟨#[97]⟩] = z := ⟨_, rfl⟩
          refine wT 3 0 (.own true 256) specl03Usual (fun hw23 hl24 => ?_)
          refine qu tt_ok [(3, .one (.slc (.own true 2560) 2 ((eL specl03Usual) ++ [[.s x22.1, .i 1]])))] [3, 6, 23] [(60000, [.h code, .i ((x22.2.1 : Nat) : Int), .i x22.2.2])] [60000] (po 3 (.give none (.s x22.1) [.h code, .i ((x22.2.1 : Nat) : Int), .i x22.2.2]) (px (ob_give (hx22 ▸ specl01Pick_a code x1.2.1 x1.2.2 [⟨#[117]⟩, ⟨#[122]⟩, ⟨#[97]⟩] (Nat.zero_lt_succ _))) (pa specl03Usual [((x22.1, 1) : FieldD)] p0))) ?_
          refine eqn [(3, .o 2560 (specl03Usual ++ [((x22.1, 1) : FieldD)]))] [3] [] [] (by rw [show ((eL specl03Usual) ++ [[.s x22.1, .i 1]]) = (eL (specl03Usual ++ [((x22.1, 1) : FieldD)])) from app_eL (rfl) (rfl)]; first | done | kernel_rfl) ?_
          refine sn tt_ok [0, 2] [60000] (p0) ?_
          refine awp_ret ?_
          have hE25 : specl03Any code ci ch = (specl03Usual ++ [((x22.1, 1) : FieldD)], x22.2.1, x22.2.2) := lt_b hx1 (bif_f h2 (bif_f h7 (bif_f h14 (bif_t h21 (lt_b hx22 (rfl))))))
          exact gret [2560] (congrArg (fun z => (.h z.1 : AV)) hE25.symm) (congrArg (fun z => ([.h code, .i ((z.2.1 : Nat) : Int), .i z.2.2] : List C)) hE25.symm)
        ·
          have h21d := ne_of_beq h21
          refine tn tt_ok [0, 2, 3, 41] [60000] (p0) ?_
          refine ck (x1.1 == (4 : Int)) (fun h26 => ?_) (fun h26 => ?_)
          ·
            have h26d := eq_of_beq h26
            refine wT 3 0 (.own true 256) specl03Usual (fun hw27 hl28 => ?_)
            refine qu tt_ok [(3, .one (.slc (.own true 3008) 2 ((eL specl03Usual) ++ [[.s ⟨#[117]⟩, .i 1], [.s ⟨#[118]⟩, .i 2]])))] [3, 6, 23] [] [] (pa specl03Usual [((⟨#[117]⟩, 1) : FieldD), ((⟨#[118]⟩, 2) : FieldD)] p0) ?_
            refine eqn [(3, .o 3008 (specl03Usual ++ [((⟨#[117]⟩, 1) : FieldD), ((⟨#[118]⟩, 2) : FieldD)]))] [3] [] [] (by rw [show ((eL specl03Usual) ++ [[.s ⟨#[117]⟩, .i 1], [.s ⟨#[118]⟩, .i 2]]) = (eL (specl03Usual ++ [((⟨#[117]⟩, 1) : FieldD), ((⟨#[118]⟩, 2) : FieldD)])) from app_eL (rfl) (rfl)]; first | done | kernel_rfl) ?_
            refine sn tt_ok [0, 2] [60000] (p0) ?_
            refine awp_ret ?_
            have hE29 : specl03Any code ci ch = (specl03Usual ++ [((⟨#[117]⟩, 1) : FieldD), ((⟨#[118]⟩, 2) : FieldD)], x1.2.1, x1.2.2) := lt_b hx1 (bif_f h2 (bif_f h7 (bif_f h14 (bif_f h21 (bif_t h26 (rfl))))))
            exact gret [3008] (congrArg (fun z => (.h z.1 : AV)) hE29.symm) (congrArg (fun z => ([.h code, .i ((z.2.1 : Nat) : Int), .i z.2.2] : List C)) hE29.symm)
          ·
            have h26d := ne_of_beq h26
            refine awp_skip ?_
            refine tu tt_ok [(2, .o 256 specl03Usual)] [2, 3, 6, 23] [] [] (p0) ?_
            refine awp_ret ?_
            have hE30 : specl03Any code ci ch = (specl03Usual, x1.2.1, x1.2.2) := lt_b hx1 (bif_f h2 (bif_f h7 (bif_f h14 (bif_f h21 (bif_f h26 (rfl))))))
            exact gret [256] (congrArg (fun z => (.h z.1 : AV)) hE30.symm) (congrArg (fun z => ([.h code, .i ((z.2.1 : Nat) : Int), .i z.2.2] : List C)) hE30.symm)
def specl04Any (code : (List UInt8)) (ci : Nat) (ch : Int) : FileD × Nat × Int := (lt (α := Int × Nat × Int) (specl01Below code ci ch 7) (fun x1 => (lt (α := FileD × Nat × Int) (specl04File code x1.2.1 x1.2.2 (1 + x1.1)) (fun x2 => (lt (α := Int × Nat × Int) (specl01Below code x2.2.1 x2.2.2 14) (fun x3 => (bif (x3.1 == (0 : Int)) then (lt (α := Int × Nat × Int) (specl01PickInt code x3.2.1 x3.2.2 [0, 60, 61, -1]) (fun x5 => ((x5.1, x2.1.2.1, x2.1.2.2.1, x2.1.2.2.2.1, x2.1.2.2.2.2), x5.2.1, x5.2.2))) else (bif (x3.1 == (1 : Int)) then (lt (α := Int × Nat × Int) (specl01PickInt code x3.2.1 x3.2.2 [-1, 2, 3]) (fun x8 => ((x2.1.1, x8.1, x2.1.2.2.1, x2.1.2.2.2.1, x2.1.2.2.2.2), x8.2.1, x8.2.2))) else (bif (x3.1 == (2 : Int)) then (lt (α := Int × Nat × Int) (specl01PickInt code x3.2.1 x3.2.2 [-1, 60, 61, 9223372036854775807]) (fun x11 => ((x2.1.1, x2.1.2.1, x2.1.2.2.1, x11.1, x2.1.2.2.2.2), x11.2.1, x11.2.2))) else (bif (x3.1 == (3 : Int)) then (lt (α := ByteArray × Nat × Int) (specl03Name code x3.2.1 x3.2.2) (fun x14 => (lt (α := ValueD × Nat × Int) (specl02Any code x14.2.1 x14.2.2) (fun x15 => ((x2.1.1, x2.1.2.1, x2.1.2.2.1, x2.1.2.2.2.1, x2.1.2.2.2.2 ++ [(x14.1, x15.1)]), x15.2.1, x15.2.2))))) else (bif (x3.1 == (4 : Int)) then ((specSetAttr x2.1 ⟨#[97]⟩ (specStringValue ⟨#[114, 101, 100]⟩)), x3.2.1, x3.2.2) else (x2.1, x3.2.1, x3.2.2))))))))))))
theorem specl04Any_a (code : (List UInt8)) (ci : Nat) (ch : Int) : AGive Try.prog 47 [.h code, .i ((ci : Nat) : Int), .i ch] [] (.a [.i ((((specl04Any code ci ch)).1).1), .i ((((specl04Any code ci ch)).1).2.1), .b ((((specl04Any code ci ch)).1).2.2.1), .i ((((specl04Any code ci ch)).1).2.2.2.1), .o 0 ((((specl04Any code ci ch)).1).2.2.2.2)]) [.h code, .i ((((specl04Any code ci ch)).2.1 : Nat) : Int), .i (((specl04Any code ci ch)).2.2)] := by
  refine agive_of (tt := tt) tt_ok Try.func47 (fn := Try.f47) rfl (by unfold FnOk; kernel_rfl) (Nat.le_of_ble_eq_true rfl) (Nat.le_of_ble_eq_true rfl) rfl rfl fun w0 F0 hG => ?_
  refine sn tt_ok [0, 2] [2, 60000] (p0) ?_
  obtain ⟨x1, hx1⟩ : ∃ z : Int × Nat × Int, specl01Below code ci ch 7 = z := ⟨_, rfl⟩
  have hbx1 := hx1 ▸ specl01Below_bd code ci ch 7
  obtain ⟨x2, hx2⟩ : ∃ z : FileD × Nat × Int, specl04File code x1.2.1 x1.2.2 (1 + x1.1) = z := ⟨_, rfl⟩
  have hlx2 := l04_len code x1.2.1 x1.2.2 (1 + x1.1)
  rw [hx2] at hlx2
  refine tn tt_ok [0, 2, 3] [2, 3, 60000] (po 2 (.give none (.i x1.1) [.h code, .i ((x1.2.1 : Nat) : Int), .i x1.2.2]) (px (ob_give (hx1 ▸ specl01Below_a code ci ch 7)) (pe 3 (av_i (IntWalk.i64_in (1 + x1.1) (by omega))) (po 4 (.give none (.a [.i x2.1.1, .i x2.1.2.1, .b x2.1.2.2.1, .i x2.1.2.2.2.1, .o 0 x2.1.2.2.2.2]) [.h code, .i ((x2.2.1 : Nat) : Int), .i x2.2.2]) (px (ob_give (hx2 ▸ specl04File_a code x1.2.1 x1.2.2 (1 + x1.1))) p0))))) ?_
  refine awp_seq ?_
  obtain ⟨x3, hx3⟩ : ∃ z : Int × Nat × Int, specl01Below code x2.2.1 x2.2.2 14 = z := ⟨_, rfl⟩
  have hbx3 := hx3 ▸ specl01Below_bd code x2.2.1 x2.2.2 14
  refine tu tt_ok [(2, .p 2 0), (3, .p 3 0), (10, .i x3.1)] [] [(2, [.i 0, .i 0, .b false, .i 0, .e 4]), (3, [.i x2.1.1, .i x2.1.2.1, .b x2.1.2.2.1, .i x2.1.2.2.2.1, .o 512 x2.1.2.2.2.2]), (60000, [.h code, .i ((x3.2.1 : Nat) : Int), .i x3.2.2])] [60000] (po 1 (.give none (.i x3.1) [.h code, .i ((x3.2.1 : Nat) : Int), .i x3.2.2]) (px (ob_give (hx3 ▸ specl01Below_a code x2.2.1 x2.2.2 14)) p0)) ?_
  refine awp_block ?_
  refine sn tt_ok [0, 2, 3, 10, 11] [2, 3, 60000] (p0) ?_
  refine ck (x3.1 == (0 : Int)) (fun h4 => ?_) (fun h4 => ?_)
  ·
    have h4d := eq_of_beq h4
    obtain ⟨x5, hx5⟩ : ∃ z : Int × Nat × Int, specl01PickInt code x3.2.1 x3.2.2 [0, 60, 61, -1] = z := ⟨_, rfl⟩
    refine qn tt_ok [0, 2, 3] [2, 3, 60000] (po 2 (.give none (.i x5.1) [.h code, .i ((x5.2.1 : Nat) : Int), .i x5.2.2]) (px (ob_give (hx5 ▸ specl01PickInt_a code x3.2.1 x3.2.2 [0, 60, 61, -1] (Nat.zero_lt_succ _))) p0)) ?_
    refine tu tt_ok [] [3, 10] [(2, [.i x5.1, .i x2.1.2.1, .b x2.1.2.2.1, .i x2.1.2.2.2.1, .o 512 x2.1.2.2.2.2]), (60000, [.h code, .i ((x5.2.1 : Nat) : Int), .i x5.2.2])] [2, 3, 60000] (p0) ?_
    refine awp_ret ?_
    have hE6 : specl04Any code ci ch = ((x5.1, x2.1.2.1, x2.1.2.2.1, x2.1.2.2.2.1, x2.1.2.2.2.2), x5.2.1, x5.2.2) := lt_b hx1 (lt_b hx2 (lt_b hx3 (bif_t h4 (lt_b hx5 (rfl)))))
    exact gret [] (congrArg (fun z => (.a [.i z.1.1, .i z.1.2.1, .b z.1.2.2.1, .i z.1.2.2.2.1, .o 0 z.1.2.2.2.2] : AV)) hE6.symm) (congrArg (fun z => ([.h code, .i ((z.2.1 : Nat) : Int), .i z.2.2] : List C)) hE6.symm)
  ·
    have h4d := ne_of_beq h4
    refine tn tt_ok [0, 2, 3, 10, 17] [2, 3, 60000] (p0) ?_
    refine ck (x3.1 == (1 : Int)) (fun h7 => ?_) (fun h7 => ?_)
    ·
      have h7d := eq_of_beq h7
      obtain ⟨x8, hx8⟩ : ∃ z : Int × Nat × Int, specl01PickInt code x3.2.1 x3.2.2 [-1, 2, 3] = z := ⟨_, rfl⟩
      refine qu tt_ok [] [10] [(3, [.i x2.1.1, .i x8.1, .b x2.1.2.2.1, .i x2.1.2.2.2.1, .o 512 x2.1.2.2.2.2]), (60000, [.h code, .i ((x8.2.1 : Nat) : Int), .i x8.2.2])] [3, 60000] (po 2 (.give none (.i x8.1) [.h code, .i ((x8.2.1 : Nat) : Int), .i x8.2.2]) (px (ob_give (hx8 ▸ specl01PickInt_a code x3.2.1 x3.2.2 [-1, 2, 3] (Nat.zero_lt_succ _))) p0)) ?_
      refine sn tt_ok [0, 2] [2, 60000] (p0) ?_
      refine awp_ret ?_
      have hE9 : specl04Any code ci ch = ((x2.1.1, x8.1, x2.1.2.2.1, x2.1.2.2.2.1, x2.1.2.2.2.2), x8.2.1, x8.2.2) := lt_b hx1 (lt_b hx2 (lt_b hx3 (bif_f h4 (bif_t h7 (lt_b hx8 (rfl))))))
      exact gret [] (congrArg (fun z => (.a [.i z.1.1, .i z.1.2.1, .b z.1.2.2.1, .i z.1.2.2.2.1, .o 0 z.1.2.2.2.2] : AV)) hE9.symm) (congrArg (fun z => ([.h code, .i ((z.2.1 : Nat) : Int), .i z.2.2] : List C)) hE9.symm)
    ·
      have h7d := ne_of_beq h7
      refine tu tt_ok [(23, .b (x3.1 == (2 : Int)))] [] [] [] (p0) ?_
      refine ck (x3.1 == (2 : Int)) (fun h10 => ?_) (fun h10 => ?_)
      ·
        have h10d := eq_of_beq h10
        obtain ⟨x11, hx11⟩ : ∃ z : Int × Nat × Int, specl01PickInt code x3.2.1 x3.2.2 [-1, 60, 61, 9223372036854775807] = z := ⟨_, rfl⟩
        refine rn tt_ok [0, 2, 3] [2, 3, 60000] (po 2 (.give none (.i x11.1) [.h code, .i ((x11.2.1 : Nat) : Int), .i x11.2.2]) (px (ob_give (hx11 ▸ specl01PickInt_a code x3.2.1 x3.2.2 [-1, 60, 61, 9223372036854775807] (Nat.zero_lt_succ _))) p0)) ?_
        refine tn tt_ok [0, 2] [2, 60000] (p0) ?_
        refine awp_ret ?_
        have hE12 : specl04Any code ci ch = ((x2.1.1, x2.1.2.1, x2.1.2.2.1, x11.1, x2.1.2.2.2.2), x11.2.1, x11.2.2) := lt_b hx1 (lt_b hx2 (lt_b hx3 (bif_f h4 (bif_f h7 (bif_t h10 (lt_b hx11 (rfl)))))))
        exact gret [] (congrArg (fun z => (.a [.i z.1.1, .i z.1.2.1, .b z.1.2.2.1, .i z.1.2.2.2.1, .o 0 z.1.2.2.2.2] : AV)) hE12.symm) (congrArg (fun z => ([.h code, .i ((z.2.1 : Nat) : Int), .i z.2.2] : List C)) hE12.symm)
      ·
        have h10d := ne_of_beq h10
        refine sn tt_ok [0, 2, 3, 10, 29] [2, 3, 60000] (p0) ?_
        refine ck (x3.1 == (3 : Int)) (fun h13 => ?_) (fun h13 => ?_)
        ·
          have h13d := eq_of_beq h13
          obtain ⟨x14, hx14⟩ : ∃ z : ByteArray × Nat × Int, specl03Name code x3.2.1 x3.2.2 = z := ⟨_, rfl⟩
          obtain ⟨x15, hx15⟩ : ∃ z : ValueD × Nat × Int, specl02Any code x14.2.1 x14.2.2 = z := ⟨_, rfl⟩
          refine wB 3 4 (.own true 512) x2.1.2.2.2.2 (fun hw16 hl17 => ?_)
          refine qU tt_ok tt_mx [] [10, 23] [(3, [.i x2.1.1, .i x2.1.2.1, .b x2.1.2.2.1, .i x2.1.2.2.2.1, .slc (.own true 2496) 4 ((eL x2.1.2.2.2.2) ++ [[.s x14.1, .i x15.1.1, .i x15.1.2.1, .s x15.1.2.2]])]), (60000, [.h code, .i ((x15.2.1 : Nat) : Int), .i x15.2.2])] [3, 60000] (po 3 (.give none (.s x14.1) [.h code, .i ((x14.2.1 : Nat) : Int), .i x14.2.2]) (px (ob_give (hx14 ▸ specl03Name_a code x3.2.1 x3.2.2)) (po 5 (.give none (.a [.i x15.1.1, .i x15.1.2.1, .s x15.1.2.2]) [.h code, .i ((x15.2.1 : Nat) : Int), .i x15.2.2]) (px (ob_give (hx15 ▸ specl02Any_a code x14.2.1 x14.2.2)) (pa x2.1.2.2.2.2 [(x14.1, x15.1)] p0))))) ?_
          refine eqn [] [] [(3, [.i x2.1.1, .i x2.1.2.1, .b x2.1.2.2.1, .i x2.1.2.2.2.1, .o 2496 (x2.1.2.2.2.2 ++ [(x14.1, x15.1)])])] [3] (by rw [show ((eL x2.1.2.2.2.2) ++ [[.s x14.1, .i x15.1.1, .i x15.1.2.1, .s x15.1.2.2]]) = (eL (x2.1.2.2.2.2 ++ [(x14.1, x15.1)])) from app_eL (rfl) (rfl)]; first | done | kernel_rfl) ?_
          refine sn tt_ok [0, 2] [2, 60000] (p0) ?_
          refine awp_ret ?_
          have hE18 : specl04Any code ci ch = ((x2.1.1, x2.1.2.1, x2.1.2.2.1, x2.1.2.2.2.1, x2.1.2.2.2.2 ++ [(x14.1, x15.1)]), x15.2.1, x15.2.2) := lt_b hx1 (lt_b hx2 (lt_b hx3 (bif_f h4 (bif_f h7 (bif_f h10 (bif_t h13 (lt_b hx14 (lt_b hx15 (rfl)))))))))
          exact gret [] (congrArg (fun z => (.a [.i z.1.1, .i z.1.2.1, .b z.1.2.2.1, .i z.1.2.2.2.1, .o 0 z.1.2.2.2.2] : AV)) hE18.symm) (congrArg (fun z => ([.h code, .i ((z.2.1 : Nat) : Int), .i z.2.2] : List C)) hE18.symm)
        ·
          have h13d := ne_of_beq h13
          refine tn tt_ok [0, 2, 3, 41] [2, 3, 60000] (p0) ?_
          refine ck (x3.1 == (4 : Int)) (fun h19 => ?_) (fun h19 => ?_)
          ·
            have h19d := eq_of_beq h19
            refine qU tt_ok tt_mx [] [10, 23] [(3, [.i ((specSetAttr x2.1 ⟨#[97]⟩ (specStringValue ⟨#[114, 101, 100]⟩)).1), .i ((specSetAttr x2.1 ⟨#[97]⟩ (specStringValue ⟨#[114, 101, 100]⟩)).2.1), .b ((specSetAttr x2.1 ⟨#[97]⟩ (specStringValue ⟨#[114, 101, 100]⟩)).2.2.1), .i ((specSetAttr x2.1 ⟨#[97]⟩ (specStringValue ⟨#[114, 101, 100]⟩)).2.2.2.1), .o 2880 ((specSetAttr x2.1 ⟨#[97]⟩ (specStringValue ⟨#[114, 101, 100]⟩)).2.2.2.2)])] [3] (pc 1 (specStringValue_a ⟨#[114, 101, 100]⟩) (pc 2 (specSetAttr_a x2.1 ⟨#[97]⟩ (specStringValue ⟨#[114, 101, 100]⟩) (by first | omega | (simp; done) | (simp; omega))) p0)) ?_
            refine sn tt_ok [0, 2] [2, 60000] (p0) ?_
            refine awp_ret ?_
            have hE20 : specl04Any code ci ch = ((specSetAttr x2.1 ⟨#[97]⟩ (specStringValue ⟨#[114, 101, 100]⟩)), x3.2.1, x3.2.2) := lt_b hx1 (lt_b hx2 (lt_b hx3 (bif_f h4 (bif_f h7 (bif_f h10 (bif_f h13 (bif_t h19 (rfl))))))))
            exact gret [] (congrArg (fun z => (.a [.i z.1.1, .i z.1.2.1, .b z.1.2.2.1, .i z.1.2.2.2.1, .o 0 z.1.2.2.2.2] : AV)) hE20.symm) (congrArg (fun z => ([.h code, .i ((z.2.1 : Nat) : Int), .i z.2.2] : List C)) hE20.symm)
          ·
            have h19d := ne_of_beq h19
            refine awp_skip ?_
            refine tu tt_ok [] [3, 10, 23] [(2, [.i x2.1.1, .i x2.1.2.1, .b x2.1.2.2.1, .i x2.1.2.2.2.1, .o 512 x2.1.2.2.2.2])] [2, 3] (p0) ?_
            refine awp_ret ?_
            have hE21 : specl04Any code ci ch = (x2.1, x3.2.1, x3.2.2) := lt_b hx1 (lt_b hx2 (lt_b hx3 (bif_f h4 (bif_f h7 (bif_f h10 (bif_f h13 (bif_f h19 (rfl))))))))
            exact gret [] (congrArg (fun z => (.a [.i z.1.1, .i z.1.2.1, .b z.1.2.2.1, .i z.1.2.2.2.1, .o 0 z.1.2.2.2.2] : AV)) hE21.symm) (congrArg (fun z => ([.h code, .i ((z.2.1 : Nat) : Int), .i z.2.2] : List C)) hE21.symm)
def specl05Any_f0 (code : (List UInt8)) (s0 : StoreD × Nat × Int) : Rd (StoreD × Nat × Int) (StoreD × Nat × Int) (StoreD × Nat × Int) := (bif decide ((s0.1.2.1.length : Int) < (12 : Int)) then (lt (α := FileD × Nat × Int) (specl04File code s0.2.1 s0.2.2 1) (fun x16 => (.next ((((specCreateFile s0.1 x16.1)).1), x16.2.1, x16.2.2)))) else (.brk (s0.1, s0.2.1, s0.2.2)))
def specl05Any (code : (List UInt8)) (ci : Nat) (ch : Int) : StoreD × Nat × Int := (lt (α := StoreD × Nat × Int) (specl05Store code ci ch) (fun x1 => (lt (α := Int × Nat × Int) (specl01Below code x1.2.1 x1.2.2 14) (fun x2 => (bif (x2.1 == (0 : Int)) then (lt (α := Int × Nat × Int) (specl01PickInt code x2.2.1 x2.2.2 [0, 60, 61, 62]) (fun x4 => ((x1.1.1, x1.1.2.1, x4.1), x4.2.1, x4.2.2))) else (bif (x2.1 == (1 : Int)) then (lt (α := FileD × Nat × Int) (specl04Any code x2.2.1 x2.2.2) (fun x7 => ((x1.1.1, x1.1.2.1 ++ [x7.1], x1.1.2.2), x7.2.1, x7.2.2))) else (bif (x2.1 == (2 : Int)) then (lt (α := (List FieldD) × Nat × Int) (specl03Any code x2.2.1 x2.2.2) (fun x12 => ((x12.1, x1.1.2.1, x1.1.2.2), x12.2.1, x12.2.2))) else (bif (x2.1 == (3 : Int)) then (Out.on (whlD (specl05Any_f0 code) 13 (x1.1, x2.2.1, x2.2.2)) (fun y0 => (y0.1, y0.2.1, y0.2.2))) else (x1.1, x2.2.1, x2.2.2)))))))))
theorem specl05Any_w (code : List UInt8) (ci : Nat) (ch : Int) {s : StoreD} (h : S5 s) : (whl (specl05Any_f0 code) 13 (s, ci, ch)).isSome = true :=
  whl_upI (fun s => S5 s.1) (fun s => (s.1.2.1.length : Int)) 12 (fun s s' hi h => by
    unfold specl05Any_f0 lt at h
    by_cases hc : (s.1.2.1.length : Int) < 12
    · simp only [decide_eq_true hc, cond_true] at h
      have h := Rd.next.inj h
      obtain ⟨h1, h2⟩ := s5_push hi (by omega) (l04_ok code s.2.1 s.2.2 1)
      rw [← h]
      exact ⟨hc, by dsimp only; omega, h2⟩
    · simp only [decide_eq_false hc, cond_false] at h
      cases h) 12 _ h (by show (12 : Int) ≤ (s.2.1.length : Int) + 12; omega)
theorem specl05Any_a (code : (List UInt8)) (ci : Nat) (ch : Int) : AGive Try.prog 74 [.h code, .i ((ci : Nat) : Int), .i ch] [] (.a [.h ((((specl05Any code ci ch)).1).1), .q 0 ((((specl05Any code ci ch)).1).2.1), .i ((((specl05Any code ci ch)).1).2.2)]) [.h code, .i ((((specl05Any code ci ch)).2.1 : Nat) : Int), .i (((specl05Any code ci ch)).2.2)] := by
  refine agive_of (tt := tt) tt_ok Try.func74 (fn := Try.f74) rfl (by unfold FnOk; kernel_rfl) (Nat.le_of_ble_eq_true rfl) (Nat.le_of_ble_eq_true rfl) rfl rfl fun w0 F0 hG => ?_
  refine sn tt_ok [0, 2] [2, 60000] (p0) ?_
  obtain ⟨x1, hx1⟩ : ∃ z : StoreD × Nat × Int, specl05Store code ci ch = z := ⟨_, rfl⟩
  have hsx1 := l05_ok code ci ch
  rw [hx1] at hsx1
  refine tn tt_ok [0, 2, 3] [2, 3, 60000] (po 1 (.give none (.a [.o 0 x1.1.1, .q 1 x1.1.2.1, .i x1.1.2.2]) [.h code, .i ((x1.2.1 : Nat) : Int), .i x1.2.2]) (px (ob_give (hx1 ▸ specl05Store_a code ci ch)) p0)) ?_
  refine awp_seq ?_
  obtain ⟨x2, hx2⟩ : ∃ z : Int × Nat × Int, specl01Below code x1.2.1 x1.2.2 14 = z := ⟨_, rfl⟩
  have hbx2 := hx2 ▸ specl01Below_bd code x1.2.1 x1.2.2 14
  refine tu tt_ok [(2, .p 2 0), (3, .p 3 0), (7, .i x2.1)] [] [(2, [.e 2, .e 5, .i 0]), (3, [.o 320 x1.1.1, .q 321 x1.1.2.1, .i x1.1.2.2]), (60000, [.h code, .i ((x2.2.1 : Nat) : Int), .i x2.2.2])] [60000] (po 1 (.give none (.i x2.1) [.h code, .i ((x2.2.1 : Nat) : Int), .i x2.2.2]) (px (ob_give (hx2 ▸ specl01Below_a code x1.2.1 x1.2.2 14)) p0)) ?_
  refine awp_block ?_
  refine sn tt_ok [0, 2, 3, 7, 8] [2, 3, 60000] (p0) ?_
  refine ck (x2.1 == (0 : Int)) (fun h3 => ?_) (fun h3 => ?_)
  ·
    have h3d := eq_of_beq h3
    obtain ⟨x4, hx4⟩ : ∃ z : Int × Nat × Int, specl01PickInt code x2.2.1 x2.2.2 [0, 60, 61, 62] = z := ⟨_, rfl⟩
    refine qn tt_ok [0, 2, 3] [2, 3, 60000] (po 2 (.give none (.i x4.1) [.h code, .i ((x4.2.1 : Nat) : Int), .i x4.2.2]) (px (ob_give (hx4 ▸ specl01PickInt_a code x2.2.1 x2.2.2 [0, 60, 61, 62] (Nat.zero_lt_succ _))) p0)) ?_
    refine tu tt_ok [] [3, 7] [(2, [.o 320 x1.1.1, .q 321 x1.1.2.1, .i x4.1]), (60000, [.h code, .i ((x4.2.1 : Nat) : Int), .i x4.2.2])] [2, 3, 60000] (p0) ?_
    refine awp_ret ?_
    have hE5 : specl05Any code ci ch = ((x1.1.1, x1.1.2.1, x4.1), x4.2.1, x4.2.2) := lt_b hx1 (lt_b hx2 (bif_t h3 (lt_b hx4 (rfl))))
    exact gret [320] (congrArg (fun z => (.a [.h z.1.1, .q 0 z.1.2.1, .i z.1.2.2] : AV)) hE5.symm) (congrArg (fun z => ([.h code, .i ((z.2.1 : Nat) : Int), .i z.2.2] : List C)) hE5.symm)
  ·
    have h3d := ne_of_beq h3
    refine tn tt_ok [0, 2, 3, 7, 14] [2, 3, 60000] (p0) ?_
    refine ck (x2.1 == (1 : Int)) (fun h6 => ?_) (fun h6 => ?_)
    ·
      have h6d := eq_of_beq h6
      obtain ⟨x7, hx7⟩ : ∃ z : FileD × Nat × Int, specl04Any code x2.2.1 x2.2.2 = z := ⟨_, rfl⟩
      refine wB 3 1 (.own false 321) x1.1.2.1 (fun hw8 hl9 => ?_)
      refine qU tt_ok tt_mx [] [7] [(3, [.o 320 x1.1.1, .slc (.own false 1344) 5 ((eL x1.1.2.1) ++ [[.i x7.1.1, .i x7.1.2.1, .b x7.1.2.2.1, .i x7.1.2.2.2.1, .h x7.1.2.2.2.2]]), .i x1.1.2.2]), (60000, [.h code, .i ((x7.2.1 : Nat) : Int), .i x7.2.2])] [3, 60000] (po 3 (.give none (.a [.i x7.1.1, .i x7.1.2.1, .b x7.1.2.2.1, .i x7.1.2.2.2.1, .o 0 x7.1.2.2.2.2]) [.h code, .i ((x7.2.1 : Nat) : Int), .i x7.2.2]) (px (ob_give (hx7 ▸ specl04Any_a code x2.2.1 x2.2.2)) (pa x1.1.2.1 [x7.1] p0))) ?_
      refine eqn [] [] [(3, [.o 320 x1.1.1, .q 1344 (x1.1.2.1 ++ [x7.1]), .i x1.1.2.2])] [3] (by rw [show ((eL x1.1.2.1) ++ [[.i x7.1.1, .i x7.1.2.1, .b x7.1.2.2.1, .i x7.1.2.2.2.1, .h x7.1.2.2.2.2]]) = (eL (x1.1.2.1 ++ [x7.1])) from app_eL (rfl) (rfl)]; first | done | kernel_rfl) ?_
      refine sn tt_ok [0, 2] [2, 60000] (p0) ?_
      refine awp_ret ?_
      have hE10 : specl05Any code ci ch = ((x1.1.1, x1.1.2.1 ++ [x7.1], x1.1.2.2), x7.2.1, x7.2.2) := lt_b hx1 (lt_b hx2 (bif_f h3 (bif_t h6 (lt_b hx7 (rfl)))))
      exact gret [320] (congrArg (fun z => (.a [.h z.1.1, .q 0 z.1.2.1, .i z.1.2.2] : AV)) hE10.symm) (congrArg (fun z => ([.h code, .i ((z.2.1 : Nat) : Int), .i z.2.2] : List C)) hE10.symm)
    ·
      have h6d := ne_of_beq h6
      refine tu tt_ok [(23, .b (x2.1 == (2 : Int)))] [] [] [] (p0) ?_
      refine ck (x2.1 == (2 : Int)) (fun h11 => ?_) (fun h11 => ?_)
      ·
        have h11d := eq_of_beq h11
        obtain ⟨x12, hx12⟩ : ∃ z : (List FieldD) × Nat × Int, specl03Any code x2.2.1 x2.2.2 = z := ⟨_, rfl⟩
        refine rn tt_ok [0, 2, 3] [2, 3, 60000] (po 1 (.give none (.h x12.1) [.h code, .i ((x12.2.1 : Nat) : Int), .i x12.2.2]) (px (ob_give (hx12 ▸ specl03Any_a code x2.2.1 x2.2.2)) p0)) ?_
        refine tn tt_ok [0, 2] [2, 60000] (p0) ?_
        refine awp_ret ?_
        have hE13 : specl05Any code ci ch = ((x12.1, x1.1.2.1, x1.1.2.2), x12.2.1, x12.2.2) := lt_b hx1 (lt_b hx2 (bif_f h3 (bif_f h6 (bif_t h11 (lt_b hx12 (rfl))))))
        exact gret [] (congrArg (fun z => (.a [.h z.1.1, .q 0 z.1.2.1, .i z.1.2.2] : AV)) hE13.symm) (congrArg (fun z => ([.h code, .i ((z.2.1 : Nat) : Int), .i z.2.2] : List C)) hE13.symm)
      ·
        have h11d := ne_of_beq h11
        refine sn tt_ok [0, 2, 3, 28] [2, 3, 60000] (p0) ?_
        refine ck (x2.1 == (3 : Int)) (fun h14 => ?_) (fun h14 => ?_)
        ·
          have h14d := eq_of_beq h14
          refine mz [(28, .b (x2.1 == (3 : Int)))] [7, 23] [] [] ?_
          refine blw (fun (s0 : StoreD × Nat × Int) => []) [28] (fun s0 => [(3, [.o 147206 s0.1.1, .q 147207 s0.1.2.1, .i s0.1.2.2]), (60000, [.h code, .i ((s0.2.1 : Nat) : Int), .i s0.2.2])]) [3, 60000] (fun (y0 : StoreD × Nat × Int) => []) [28] (fun y0 => [(3, [.o 147356 y0.1.1, .q 147357 y0.1.2.1, .i y0.1.2.2]), (60000, [.h code, .i ((y0.2.1 : Nat) : Int), .i y0.2.2])]) [3, 60000] (fun (k0 : Nat) (s0 : StoreD × Nat × Int) => whl (specl05Any_f0 code) k0 s0 = some (whlD (specl05Any_f0 code) 13 (x1.1, x2.2.1, x2.2.2))) (fun (y0 : StoreD × Nat × Int) => (whlD (specl05Any_f0 code) 13 (x1.1, x2.2.1, x2.2.2)) = .brk y0) 13 (x1.1, x2.2.1, x2.2.2) (weak_sf [(320, 147206), (321, 147207)] (by kernel_rfl)) (whl_some (specl05Any_w code _ _ hsx1.1)) (fun _ h => whl_zero h) (fun k0 s0 hI0 => ?_) (fun y0 hD0 => ?_)
          ·
            refine awp_seq ?_
            refine sn tt_ok [0, 2, 3, 33] [2, 3, 60000] (pl 2 s0.1.2.1 p0) ?_
            refine ck (decide ((s0.1.2.1.length : Int) < (12 : Int))) (fun h15 => ?_) (fun h15 => ?_)
            ·
              have h15d := of_decide_eq_true h15
              refine awp_skip ?_
              refine awp_block ?_
              obtain ⟨x16, hx16⟩ : ∃ z : FileD × Nat × Int, specl04File code s0.2.1 s0.2.2 1 = z := ⟨_, rfl⟩
              refine qN tt_ok tt_mx [0, 2, 3] [2, 3, 60000] (po 2 (.give none (.a [.i x16.1.1, .i x16.1.2.1, .b x16.1.2.2.1, .i x16.1.2.2.2.1, .o 0 x16.1.2.2.2.2]) [.h code, .i ((x16.2.1 : Nat) : Int), .i x16.2.2]) (px (ob_give (hx16 ▸ specl04File_a code s0.2.1 s0.2.2 1)) (pc 3 (specCreateFile_a s0.1 x16.1) p0))) ?_
              exact Exists.intro ((((specCreateFile s0.1 x16.1)).1), x16.2.1, x16.2.2) (And.intro (weak_gf [] [] [2433] [(2432, 147206), (2433, 147207)] (by kernel_rfl)) (wn hI0 (bif_t h15 (lt_b hx16 (rfl)))))
            ·
              have h15d := of_decide_eq_false h15
              refine awp_exit ?_
              exact Exists.intro _ (And.intro (weak_sf [(147206, 147356), (147207, 147357)] (by kernel_rfl)) (wb hI0 (bif_f h15 (rfl))))
          ·
            refine sn tt_ok [0, 2] [2, 60000] (p0) ?_
            refine awp_ret ?_
            have hE17 : specl05Any code ci ch = (y0.1, y0.2.1, y0.2.2) := lt_b hx1 (lt_b hx2 (bif_f h3 (bif_f h6 (bif_f h11 (bif_t h14 (on_b hD0 (rfl)))))))
            exact gret [147356] (congrArg (fun z => (.a [.h z.1.1, .q 0 z.1.2.1, .i z.1.2.2] : AV)) hE17.symm) (congrArg (fun z => ([.h code, .i ((z.2.1 : Nat) : Int), .i z.2.2] : List C)) hE17.symm)
        ·
          have h14d := ne_of_beq h14
          refine awp_skip ?_
          refine tn tt_ok [0, 2] [2, 60000] (p0) ?_
          refine awp_ret ?_
          have hE18 : specl05Any code ci ch = (x1.1, x2.2.1, x2.2.2) := lt_b hx1 (lt_b hx2 (bif_f h3 (bif_f h6 (bif_f h11 (bif_f h14 (rfl))))))
          exact gret [320] (congrArg (fun z => (.a [.h z.1.1, .q 0 z.1.2.1, .i z.1.2.2] : AV)) hE18.symm) (congrArg (fun z => ([.h code, .i ((z.2.1 : Nat) : Int), .i z.2.2] : List C)) hE18.symm)
end Go.Proofs.Ytcnkkobgogmakaa
