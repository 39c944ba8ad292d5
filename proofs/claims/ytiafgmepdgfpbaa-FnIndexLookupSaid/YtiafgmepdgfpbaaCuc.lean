/- What functions compute, and that they do (printed by am2.py): each function as a Lean function, then its contract. -/
import Derived.Test.YtiafgmepdgfpbaaCub
import Derived.Test.YtiafgmepdgfpbaaZc
import Derived.KernelRfl
set_option linter.unusedVariables false
set_option linter.unusedSimpArgs false
namespace Go.Proofs.Ytiafgmepdgfpbaa
open Go.RowKit
open GoE (enc wide)
def specl01Below (code : (List UInt8)) (ci : Nat) (ch : Int) (n : Int) : Int × Nat × Int := (bif decide (n ≤ (0 : Int)) then (0, ci, ch) else (bif decide (n ≤ (256 : Int)) then (lt (α := Int × Nat × Int) (specl01Byte code ci ch) (fun x4 => (Int.tmod x4.1 n, x4.2.1, x4.2.2))) else (lt (α := Int × Nat × Int) (specl01Byte code ci ch) (fun x6 => (lt (α := Int × Nat × Int) (specl01Byte code x6.2.1 x6.2.2) (fun x7 => (lt (α := Int × Nat × Int) (specl01Byte code x7.2.1 x7.2.2) (fun x8 => (lt (α := Int × Nat × Int) (specl01Byte code x8.2.1 x8.2.2) (fun x9 => (Int.tmod ((((x6.1 * 16777216) + (x7.1 * 65536)) + (x8.1 * 256)) + x9.1) n, x9.2.1, x9.2.2)))))))))))
theorem specl01Below_a (code : (List UInt8)) (ci : Nat) (ch : Int) (n : Int) : AGive Try.prog 54 [.h code, .i ((ci : Nat) : Int), .i ch] [.i n] (.i (((specl01Below code ci ch n)).1)) [.h code, .i ((((specl01Below code ci ch n)).2.1 : Nat) : Int), .i (((specl01Below code ci ch n)).2.2)] := by
  refine agive_of (tt := tt) tt_ok Try.func54 (fn := Try.f54) rfl (by unfold FnOk; kernel_rfl) (Nat.le_of_ble_eq_true rfl) (Nat.le_of_ble_eq_true rfl) rfl rfl fun w0 F0 hG => ?_
  refine sn tt_ok [0, 1, 4] [60000] (p0) ?_
  refine awp_seq ?_
  refine tn tt_ok [0, 1, 4, 10] [60000] (p0) ?_
  refine ck (decide (n ≤ (0 : Int))) (fun h1 => ?_) (fun h1 => ?_)
  ·
    have h1d := of_decide_eq_true h1
    refine tu tt_ok [(4, .i 0)] [] [] [] (p0) ?_
    refine awp_ret ?_
    have hE2 : specl01Below code ci ch n = (0, ci, ch) := bif_t h1 (rfl)
    exact gret [] (congrArg (fun z => (.i z.1 : AV)) hE2.symm) (congrArg (fun z => ([.h code, .i ((z.2.1 : Nat) : Int), .i z.2.2] : List C)) hE2.symm)
  ·
    have h1d := of_decide_eq_false h1
    refine awp_skip ?_
    refine awp_seq ?_
    refine tu tt_ok [(4, .i 0), (12, .b (decide (n ≤ (256 : Int))))] [] [] [] (p0) ?_
    refine ck (decide (n ≤ (256 : Int))) (fun h3 => ?_) (fun h3 => ?_)
    ·
      have h3d := of_decide_eq_true h3
      obtain ⟨x4, hx4⟩ : ∃ z : Int × Nat × Int, specl01Byte code ci ch = z := ⟨_, rfl⟩
      have hbx4 := hx4 ▸ specl01Byte_bd code ci ch
      refine sn tt_ok [0, 1, 4] [60000] (po 1 (.give none (.i x4.1) [.h code, .i ((x4.2.1 : Nat) : Int), .i x4.2.2]) (px (ob_give (hx4 ▸ specl01Byte_a code ci ch)) (px (ob_nz (n := n) (by omega)) (px (ob_inr (k := .i64) (n := Int.tmod x4.1 n) (inr_rem0 (by omega))) p0)))) ?_
      refine awp_ret ?_
      have hE5 : specl01Below code ci ch n = (Int.tmod x4.1 n, x4.2.1, x4.2.2) := bif_f h1 (bif_t h3 (lt_b hx4 (rfl)))
      exact gret [] (congrArg (fun z => (.i z.1 : AV)) hE5.symm) (congrArg (fun z => ([.h code, .i ((z.2.1 : Nat) : Int), .i z.2.2] : List C)) hE5.symm)
    ·
      have h3d := of_decide_eq_false h3
      refine awp_skip ?_
      obtain ⟨x6, hx6⟩ : ∃ z : Int × Nat × Int, specl01Byte code ci ch = z := ⟨_, rfl⟩
      have hbx6 := hx6 ▸ specl01Byte_bd code ci ch
      refine sn tt_ok [0, 1, 4, 5] [60000] (po 1 (.give none (.i x6.1) [.h code, .i ((x6.2.1 : Nat) : Int), .i x6.2.2]) (px (ob_give (hx6 ▸ specl01Byte_a code ci ch)) p0)) ?_
      obtain ⟨x7, hx7⟩ : ∃ z : Int × Nat × Int, specl01Byte code x6.2.1 x6.2.2 = z := ⟨_, rfl⟩
      have hbx7 := hx7 ▸ specl01Byte_bd code x6.2.1 x6.2.2
      refine tn tt_ok [0, 1, 4, 5, 6] [60000] (po 1 (.give none (.i x7.1) [.h code, .i ((x7.2.1 : Nat) : Int), .i x7.2.2]) (px (ob_give (hx7 ▸ specl01Byte_a code x6.2.1 x6.2.2)) p0)) ?_
      obtain ⟨x8, hx8⟩ : ∃ z : Int × Nat × Int, specl01Byte code x7.2.1 x7.2.2 = z := ⟨_, rfl⟩
      have hbx8 := hx8 ▸ specl01Byte_bd code x7.2.1 x7.2.2
      refine tu tt_ok [(5, .i x6.1), (6, .i x7.1), (7, .i x8.1)] [12] [(60000, [.h code, .i ((x8.2.1 : Nat) : Int), .i x8.2.2])] [60000] (po 1 (.give none (.i x8.1) [.h code, .i ((x8.2.1 : Nat) : Int), .i x8.2.2]) (px (ob_give (hx8 ▸ specl01Byte_a code x7.2.1 x7.2.2)) p0)) ?_
      obtain ⟨x9, hx9⟩ : ∃ z : Int × Nat × Int, specl01Byte code x8.2.1 x8.2.2 = z := ⟨_, rfl⟩
      have hbx9 := hx9 ▸ specl01Byte_bd code x8.2.1 x8.2.2
      refine sn tt_ok [0, 1, 4, 5, 6, 7, 8] [60000] (po 1 (.give none (.i x9.1) [.h code, .i ((x9.2.1 : Nat) : Int), .i x9.2.2]) (px (ob_give (hx9 ▸ specl01Byte_a code x8.2.1 x8.2.2)) p0)) ?_
      refine tn tt_ok [0, 4] [60000] (pe 1 (av_i (IntWalk.i64_in (x6.1 * 16777216) (by omega))) (pe 3 (av_i (IntWalk.i64_in (x7.1 * 65536) (by omega))) (pe 4 (av_i (IntWalk.i64_in ((x6.1 * 16777216) + (x7.1 * 65536)) (by omega))) (pe 6 (av_i (IntWalk.i64_in (x8.1 * 256) (by omega))) (pe 7 (av_i (IntWalk.i64_in (((x6.1 * 16777216) + (x7.1 * 65536)) + (x8.1 * 256)) (by omega))) (pe 9 (av_i (IntWalk.i64_in ((((x6.1 * 16777216) + (x7.1 * 65536)) + (x8.1 * 256)) + x9.1) (by omega))) (px (ob_nz (n := n) (by omega)) (px (ob_inr (k := .i64) (n := Int.tmod ((((x6.1 * 16777216) + (x7.1 * 65536)) + (x8.1 * 256)) + x9.1) n) (inr_rem0 (by omega))) p0)))))))) ?_
      refine awp_ret ?_
      have hE10 : specl01Below code ci ch n = (Int.tmod ((((x6.1 * 16777216) + (x7.1 * 65536)) + (x8.1 * 256)) + x9.1) n, x9.2.1, x9.2.2) := bif_f h1 (bif_f h3 (lt_b hx6 (lt_b hx7 (lt_b hx8 (lt_b hx9 (rfl))))))
      exact gret [] (congrArg (fun z => (.i z.1 : AV)) hE10.symm) (congrArg (fun z => ([.h code, .i ((z.2.1 : Nat) : Int), .i z.2.2] : List C)) hE10.symm)
end Go.Proofs.Ytiafgmepdgfpbaa
