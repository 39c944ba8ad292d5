/- What functions compute, and that they do (printed by am2.py): each function as a Lean function, then its contract. -/
import Derived.Test.YtceekipigpcilaaDoorCub
import Derived.KernelRfl
set_option linter.unusedVariables false
set_option linter.unusedSimpArgs false
namespace Go.Proofs.YtceekipigpcilaaDoor
open Go.RowKit
open GoE (enc wide)
def specl01Below (code : (List UInt8)) (ci : Nat) (ch : Int) (n : Int) : Int × Nat × Int := (bif decide (n ≤ (0 : Int)) then (0, ci, ch) else (bif decide (n ≤ (256 : Int)) then (lt (α := Int × Nat × Int) (specl01Byte code ci ch) (fun x4 => (Int.tmod x4.1 n, x4.2.1, x4.2.2))) else (lt (α := Int × Nat × Int) (specl01Byte code ci ch) (fun x6 => (lt (α := Int × Nat × Int) (specl01Byte code x6.2.1 x6.2.2) (fun x7 => (lt (α := Int × Nat × Int) (specl01Byte code x7.2.1 x7.2.2) (fun x8 => (lt (α := Int × Nat × Int) (specl01Byte code x8.2.1 x8.2.2) (fun x9 => (Int.tmod ((((x6.1 * 16777216) + (x7.1 * 65536)) + (x8.1 * 256)) + x9.1) n, x9.2.1, x9.2.2)))))))))))
theorem specl01Below_a (code : (List UInt8)) (ci : Nat) (ch : Int) (n : Int) : AGive Tryd.prog 16 [.h code, .i ((ci : Nat) : Int), .i ch] [.i n] (.i (((specl01Below code ci ch n)).1)) [.h code, .i ((((specl01Below code ci ch n)).2.1 : Nat) : Int), .i (((specl01Below code ci ch n)).2.2)] := by
  refine agive_of (tt := tt) tt_ok Tryd.func16 (fn := Tryd.f16) rfl (by unfold FnOk; kernel_rfl) (Nat.le_of_ble_eq_true rfl) (Nat.le_of_ble_eq_true rfl) rfl rfl fun w0 F0 hG => ?_
  refine awp_seq ?_
  refine rk tt_ok [(4, .i 0)] [] [] [] [] (o0) ?_
  refine awp_seq ?_
  refine awp_seq ?_
  refine rk tt_ok [(10, .b (decide (n ≤ (0 : Int))))] [] [] [] [] (o0) ?_
  refine ck (decide (n ≤ (0 : Int))) (fun h1 => ?_) (fun h1 => ?_)
  ·
    have h1d := of_decide_eq_true h1
    refine awp_seq ?_
    refine rk tt_ok [] [10] [] [] [] (o0) ?_
    refine awp_ret ?_
    have hE2 : specl01Below code ci ch n = (0, ci, ch) := bif_t h1 (rfl)
    exact gret [] (congrArg (fun z => (.i z.1 : AV)) hE2.symm) (congrArg (fun z => ([.h code, .i ((z.2.1 : Nat) : Int), .i z.2.2] : List C)) hE2.symm)
  ·
    have h1d := of_decide_eq_false h1
    refine awp_skip ?_
    refine awp_seq ?_
    refine awp_seq ?_
    refine rk tt_ok [(12, .b (decide (n ≤ (256 : Int))))] [10] [] [] [] (o0) ?_
    refine ck (decide (n ≤ (256 : Int))) (fun h3 => ?_) (fun h3 => ?_)
    ·
      have h3d := of_decide_eq_true h3
      refine awp_seq ?_
      obtain ⟨x4, hx4⟩ : ∃ z : Int × Nat × Int, specl01Byte code ci ch = z := ⟨_, rfl⟩
      have hbx4 := hx4 ▸ specl01Byte_bd code ci ch
      refine rk tt_ok [(4, .i (Int.tmod x4.1 n))] [4, 12] [(60000, [.h code, .i ((x4.2.1 : Nat) : Int), .i x4.2.2])] [60000] [(1, .give none (.i x4.1) [.h code, .i ((x4.2.1 : Nat) : Int), .i x4.2.2])] (o2 (ob_give (hx4 ▸ specl01Byte_a code ci ch)) (o2 (ob_nz (n := n) (by omega)) (o1 (ob_inr (k := .i64) (n := Int.tmod x4.1 n) (inr_rem0 (by omega)))))) ?_
      refine awp_ret ?_
      have hE5 : specl01Below code ci ch n = (Int.tmod x4.1 n, x4.2.1, x4.2.2) := bif_f h1 (bif_t h3 (lt_b hx4 (rfl)))
      exact gret [] (congrArg (fun z => (.i z.1 : AV)) hE5.symm) (congrArg (fun z => ([.h code, .i ((z.2.1 : Nat) : Int), .i z.2.2] : List C)) hE5.symm)
    ·
      have h3d := of_decide_eq_false h3
      refine awp_skip ?_
      refine awp_seq ?_
      obtain ⟨x6, hx6⟩ : ∃ z : Int × Nat × Int, specl01Byte code ci ch = z := ⟨_, rfl⟩
      have hbx6 := hx6 ▸ specl01Byte_bd code ci ch
      refine rk tt_ok [(5, .i x6.1)] [12] [(60000, [.h code, .i ((x6.2.1 : Nat) : Int), .i x6.2.2])] [60000] [(1, .give none (.i x6.1) [.h code, .i ((x6.2.1 : Nat) : Int), .i x6.2.2])] (o1 (ob_give (hx6 ▸ specl01Byte_a code ci ch))) ?_
      refine awp_seq ?_
      obtain ⟨x7, hx7⟩ : ∃ z : Int × Nat × Int, specl01Byte code x6.2.1 x6.2.2 = z := ⟨_, rfl⟩
      have hbx7 := hx7 ▸ specl01Byte_bd code x6.2.1 x6.2.2
      refine rk tt_ok [(6, .i x7.1)] [] [(60000, [.h code, .i ((x7.2.1 : Nat) : Int), .i x7.2.2])] [60000] [(1, .give none (.i x7.1) [.h code, .i ((x7.2.1 : Nat) : Int), .i x7.2.2])] (o1 (ob_give (hx7 ▸ specl01Byte_a code x6.2.1 x6.2.2))) ?_
      refine awp_seq ?_
      obtain ⟨x8, hx8⟩ : ∃ z : Int × Nat × Int, specl01Byte code x7.2.1 x7.2.2 = z := ⟨_, rfl⟩
      have hbx8 := hx8 ▸ specl01Byte_bd code x7.2.1 x7.2.2
      refine rk tt_ok [(7, .i x8.1)] [] [(60000, [.h code, .i ((x8.2.1 : Nat) : Int), .i x8.2.2])] [60000] [(1, .give none (.i x8.1) [.h code, .i ((x8.2.1 : Nat) : Int), .i x8.2.2])] (o1 (ob_give (hx8 ▸ specl01Byte_a code x7.2.1 x7.2.2))) ?_
      refine awp_seq ?_
      obtain ⟨x9, hx9⟩ : ∃ z : Int × Nat × Int, specl01Byte code x8.2.1 x8.2.2 = z := ⟨_, rfl⟩
      have hbx9 := hx9 ▸ specl01Byte_bd code x8.2.1 x8.2.2
      refine rk tt_ok [(8, .i x9.1)] [] [(60000, [.h code, .i ((x9.2.1 : Nat) : Int), .i x9.2.2])] [60000] [(1, .give none (.i x9.1) [.h code, .i ((x9.2.1 : Nat) : Int), .i x9.2.2])] (o1 (ob_give (hx9 ▸ specl01Byte_a code x8.2.1 x8.2.2))) ?_
      refine awp_seq ?_
      refine rk tt_ok [(4, .i (Int.tmod ((((x6.1 * 16777216) + (x7.1 * 65536)) + (x8.1 * 256)) + x9.1) n))] [1, 4, 5, 6, 7, 8] [] [] [(1, .val (.i (x6.1 * 16777216))), (3, .val (.i (x7.1 * 65536))), (4, .val (.i ((x6.1 * 16777216) + (x7.1 * 65536)))), (6, .val (.i (x8.1 * 256))), (7, .val (.i (((x6.1 * 16777216) + (x7.1 * 65536)) + (x8.1 * 256)))), (9, .val (.i ((((x6.1 * 16777216) + (x7.1 * 65536)) + (x8.1 * 256)) + x9.1)))] (o2 (ob_eq (av_i (IntWalk.i64_in (x6.1 * 16777216) (by omega)))) (o2 (ob_eq (av_i (IntWalk.i64_in (x7.1 * 65536) (by omega)))) (o2 (ob_eq (av_i (IntWalk.i64_in ((x6.1 * 16777216) + (x7.1 * 65536)) (by omega)))) (o2 (ob_eq (av_i (IntWalk.i64_in (x8.1 * 256) (by omega)))) (o2 (ob_eq (av_i (IntWalk.i64_in (((x6.1 * 16777216) + (x7.1 * 65536)) + (x8.1 * 256)) (by omega)))) (o2 (ob_eq (av_i (IntWalk.i64_in ((((x6.1 * 16777216) + (x7.1 * 65536)) + (x8.1 * 256)) + x9.1) (by omega)))) (o2 (ob_nz (n := n) (by omega)) (o1 (ob_inr (k := .i64) (n := Int.tmod ((((x6.1 * 16777216) + (x7.1 * 65536)) + (x8.1 * 256)) + x9.1) n) (inr_rem0 (by omega))))))))))) ?_
      refine awp_ret ?_
      have hE10 : specl01Below code ci ch n = (Int.tmod ((((x6.1 * 16777216) + (x7.1 * 65536)) + (x8.1 * 256)) + x9.1) n, x9.2.1, x9.2.2) := bif_f h1 (bif_f h3 (lt_b hx6 (lt_b hx7 (lt_b hx8 (lt_b hx9 (rfl))))))
      exact gret [] (congrArg (fun z => (.i z.1 : AV)) hE10.symm) (congrArg (fun z => ([.h code, .i ((z.2.1 : Nat) : Int), .i z.2.2] : List C)) hE10.symm)
end Go.Proofs.YtceekipigpcilaaDoor
