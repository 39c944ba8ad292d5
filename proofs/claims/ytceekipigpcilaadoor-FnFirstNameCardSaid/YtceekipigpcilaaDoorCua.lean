/- What functions compute, and that they do (printed by am2.py): each function as a Lean function, then its contract. -/
import Derived.Test.YtceekipigpcilaaDoorZc
import Derived.Test.YtceekipigpcilaaDoorGb
import Derived.Test.YtceekipigpcilaaDoorProg
import Derived.Test.YtceekipigpcilaaDoorTy
import Derived.Test.YtceekipigpcilaaDoorKn
import Derived.KernelRfl
set_option linter.unusedVariables false
set_option linter.unusedSimpArgs false
namespace Go.Proofs.YtceekipigpcilaaDoor
open Go.RowKit
open GoE (enc wide)
def tt : List (Nat × TI) := [(3, ⟨.int .i64, 1, [.i 0], []⟩),
  (5, ⟨.int .u8, 1, [.int .u8 0], []⟩),
  (9, ⟨.str, 1, [.s ⟨#[]⟩], []⟩),
  (22, ⟨.sli 5, 1, [.e 1], []⟩),
  (24, ⟨.sli 3, 1, [.e 1], []⟩),
  (26, ⟨.sli 65, 1, [.e 2], []⟩),
  (27, ⟨.sli 36, 1, [.e 5], []⟩),
  (29, ⟨.struct [(0, 1, false), (1, 1, false), (2, 1, false)], 3, [.e 2, .e 5, .i 0], []⟩),
  (34, ⟨.sli 54, 1, [.e 4], []⟩),
  (36, ⟨.struct [(0, 1, false), (1, 1, false), (2, 1, false), (3, 1, false), (4, 1, false)], 5, [.i 0, .i 0, .b false, .i 0, .e 4], []⟩),
  (39, ⟨.struct [(0, 1, false), (1, 1, false), (2, 1, false)], 3, [.i 0, .i 0, .s ⟨#[]⟩], [.int, .int, .str]⟩),
  (41, ⟨.sli 9, 1, [.e 1], []⟩),
  (54, ⟨.struct [(0, 1, false), (1, 3, true)], 4, [.s ⟨#[]⟩, .i 0, .i 0, .s ⟨#[]⟩], []⟩),
  (62, ⟨.struct [(0, 1, false), (1, 1, false), (2, 1, false)], 3, [.e 1, .i 0, .i 0], []⟩),
  (65, ⟨.struct [(0, 1, false), (1, 1, false)], 2, [.s ⟨#[]⟩, .i 0], []⟩)]
theorem tt_ok : ttOk Tryd.prog tt = true := by kernel_rfl
theorem tt_mx : Tryd.prog.follows .mixedOrders = true := by kernel_rfl
def specl01New_f0 (k0 : Nat) (a0 : UInt8) (s0 : Int) : Rd (Nat × Int) (Int) (Int) := (bif decide (((k0 : Nat) : Int) < (4000 : Int)) then (.next (andI .i64 (IntKind.i64.wrap (IntKind.i64.wrap (IntKind.i64.wrap (s0 * 131) + IntKind.i64.wrap (UInt8.toNat a0 : Int)) + 7)) 1073741823)) else (.brk s0))
def specl01New_e0 (_ : Nat) (s0 : Int) : Int := s0
def specl01New (code : (List UInt8)) : Nat × Int := (Out.on (forL specl01New_f0 specl01New_e0 code 0 (IntKind.i64.wrap (94701 + (code.length : Int)))) (fun y0 => (0, y0)))
set_option maxRecDepth 30000 in
theorem specl01New_a (code : (List UInt8)) : ANew Tryd.prog 15 [.h code] [.h code, .i (((specl01New code).1 : Nat) : Int), .i ((specl01New code).2)] := by
  refine anew_of Tryd.func15 (fn := Tryd.f15) rfl (by unfold FnOk; kernel_rfl) (Nat.le_of_ble_eq_true rfl) rfl fun w0 F0 hG => ?_
  refine awp_seq ?_
  refine rk tt_ok [] [] [] [] [] (o0) ?_
  refine awp_seq ?_
  refine rk tt_ok [(3, .i (IntKind.i64.wrap (94701 + (code.length : Int))))] [] [] [] [(1, .val (.i (code.length : Int)))] (o1 (ob_eq (av_len code))) ?_
  refine awp_seq ?_
  refine awp_seq ?_
  refine rk tt_ok [(4, .i 0)] [] [] [] [] (o0) ?_
  refine wdT 0 0 .sh code (fun hw1 => ?_)
  have hl2 : List.length code ≤ 1073741824 := wide_len (hw1)
  refine blk (fun (k0 : Nat) (s0 : Int) => [(3, .i s0), (4, .i ((k0 : Nat) : Int))]) [3, 4] (fun k0 s0 => []) [] (fun (y0 : Int) => [(3, .i y0)]) [3, 4] (fun y0 => []) [] (fun (k0 : Nat) (s0 : Int) => (forL specl01New_f0 specl01New_e0 code 0 (IntKind.i64.wrap (94701 + (code.length : Int)))) = forL specl01New_f0 specl01New_e0 (List.drop k0 code) k0 s0) (fun (y0 : Int) => (forL specl01New_f0 specl01New_e0 code 0 (IntKind.i64.wrap (94701 + (code.length : Int)))) = .brk y0) code.length (IntKind.i64.wrap (94701 + (code.length : Int))) (weak_fit (by kernel_rfl)) rfl (fun k0 s0 hk0 hI0 => ?_) (fun k0 s0 hk0 hI0 => ?_) (fun y0 hD0 => ?_)
  ·
    obtain ⟨a0, hx0⟩ := get_some (l := code) (i := k0) hk0
    refine awp_seq ?_
    refine awp_seq ?_
    refine rk tt_ok [(15, .b (decide (((k0 : Nat) : Int) < (4000 : Int))))] [] [] [] [(2, .val (.i (code.length : Int))), (3, .val (.b true))] (o2 (ob_eq (av_len code)) (o1 (ob_eq (av_bool (decide_eq_true (p := ((k0 : Nat) : Int) < (code.length : Int)) (by omega)))))) ?_
    refine ck (decide (((k0 : Nat) : Int) < (4000 : Int))) (fun h3 => ?_) (fun h3 => ?_)
    ·
      have h3d := of_decide_eq_true h3
      refine awp_skip ?_
      refine awp_seq ?_
      refine awp_block ?_
      refine rk tt_ok [(3, .i (andI .i64 (IntKind.i64.wrap (IntKind.i64.wrap (IntKind.i64.wrap (s0 * 131) + IntKind.i64.wrap (UInt8.toNat a0 : Int)) + 7)) 1073741823))] [3, 15] [] [] [(4, .row [.int .u8 (UInt8.toNat a0 : Int)])] (o1 (ob_elem (el_of (i := ((k0 : Nat) : Int)) (by omega) rfl hx0))) ?_
      refine rk tt_ok [(4, .i ((k0 + 1 : Nat) : Int))] [4] [] [] [(1, .val (.i ((k0 + 1 : Nat) : Int)))] (o1 (ob_eq (av_i (wrap_succ k0 (by omega))))) ?_
      exact Exists.intro (andI .i64 (IntKind.i64.wrap (IntKind.i64.wrap (IntKind.i64.wrap (s0 * 131) + IntKind.i64.wrap (UInt8.toNat a0 : Int)) + 7)) 1073741823) (And.intro (weak_fit (by kernel_rfl)) (forL_next hx0 (bif_t h3 (rfl)) hI0))
    ·
      have h3d := of_decide_eq_false h3
      refine awp_exit ?_
      exact Exists.intro s0 (And.intro (weak_fit (by kernel_rfl)) (forL_brk hx0 (bif_f h3 (rfl)) hI0))
  ·
    refine awp_seq ?_
    refine awp_seq ?_
    refine rk tt_ok [(15, .b false)] [] [] [] [(2, .val (.i (code.length : Int))), (3, .val (.b false))] (o2 (ob_eq (av_len code)) (o1 (ob_eq (av_bool (decide_eq_false (p := ((k0 : Nat) : Int) < (code.length : Int)) (by omega)))))) ?_
    refine ckF ?_
    refine awp_exit ?_
    exact Exists.intro s0 (And.intro (weak_fit (by kernel_rfl)) (forL_end hk0 (rfl) hI0))
  ·
    refine awp_seq ?_
    refine rk tt_ok [(2, .p 31 0)] [0, 3] [(31, [.h code, .i 0, .i y0])] [] [] (o0) ?_
    refine awp_ret ?_
    exact nret [] 2 31 (congrArg (fun z => ([.h code, .i ((z.1 : Nat) : Int), .i z.2] : List C)) (show specl01New code = (0, y0) from on_b hD0 (rfl)).symm)
def specl01Byte (code : (List UInt8)) (ci : Nat) (ch : Int) : Int × Nat × Int := (bif decide (((ci : Nat) : Int) < (code.length : Int)) then (andI .i64 (IntKind.i64.wrap (andI .i64 (xorI .i64 (shrI .i64 (IntKind.i64.wrap (IntKind.i64.wrap (ch * 6364136223846793005) + 1442695040888963407)) 33) (shrI .i64 (IntKind.i64.wrap (IntKind.i64.wrap (ch * 6364136223846793005) + 1442695040888963407)) 45)) 255 + IntKind.i64.wrap (UInt8.toNat (nth code ci) : Int))) 255, ci + 1, IntKind.i64.wrap (IntKind.i64.wrap (ch * 6364136223846793005) + 1442695040888963407)) else (andI .i64 (xorI .i64 (shrI .i64 (IntKind.i64.wrap (IntKind.i64.wrap (ch * 6364136223846793005) + 1442695040888963407)) 33) (shrI .i64 (IntKind.i64.wrap (IntKind.i64.wrap (ch * 6364136223846793005) + 1442695040888963407)) 45)) 255, ci, IntKind.i64.wrap (IntKind.i64.wrap (ch * 6364136223846793005) + 1442695040888963407)))
theorem specl01Byte_a (code : (List UInt8)) (ci : Nat) (ch : Int) : AGive Tryd.prog 27 [.h code, .i ((ci : Nat) : Int), .i ch] [] (.i (((specl01Byte code ci ch)).1)) [.h code, .i ((((specl01Byte code ci ch)).2.1 : Nat) : Int), .i (((specl01Byte code ci ch)).2.2)] := by
  refine agive_of (tt := tt) tt_ok Tryd.func27 (fn := Tryd.f27) rfl (by unfold FnOk; kernel_rfl) (Nat.le_of_ble_eq_true rfl) (Nat.le_of_ble_eq_true rfl) rfl rfl fun w0 F0 hG => ?_
  refine awp_seq ?_
  refine rk tt_ok [(2, .i 0)] [] [] [] [] (o0) ?_
  refine awp_seq ?_
  refine rk tt_ok [] [] [(60000, [.h code, .i ((ci : Nat) : Int), .i (IntKind.i64.wrap (IntKind.i64.wrap (ch * 6364136223846793005) + 1442695040888963407))])] [60000] [] (o0) ?_
  refine awp_seq ?_
  refine rd' tt_ok tt_mx [(3, .i (andI .i64 (xorI .i64 (shrI .i64 (IntKind.i64.wrap (IntKind.i64.wrap (ch * 6364136223846793005) + 1442695040888963407)) 33) (shrI .i64 (IntKind.i64.wrap (IntKind.i64.wrap (ch * 6364136223846793005) + 1442695040888963407)) 45)) 255))] [] [] [] [] (o0) ?_
  refine awp_seq ?_
  refine awp_seq ?_
  refine rd' tt_ok tt_mx [(34, .b (decide (((ci : Nat) : Int) < (code.length : Int))))] [] [] [] [(8, .val (.i (code.length : Int)))] (o1 (ob_eq (av_len code))) ?_
  refine ck (decide (((ci : Nat) : Int) < (code.length : Int))) (fun h1 => ?_) (fun h1 => ?_)
  ·
    have h1d := of_decide_eq_true h1
    refine awp_seq ?_
    refine wdB 60000 0 .sh code (fun hw3 => ?_)
    have hl4 : List.length code ≤ 1073741824 := wide_len (hw3)
    have hx2 : code[ci]? = some (nth code ci) := nth_get (by omega)
    refine rd' tt_ok tt_mx [(3, .i (andI .i64 (IntKind.i64.wrap (andI .i64 (xorI .i64 (shrI .i64 (IntKind.i64.wrap (IntKind.i64.wrap (ch * 6364136223846793005) + 1442695040888963407)) 33) (shrI .i64 (IntKind.i64.wrap (IntKind.i64.wrap (ch * 6364136223846793005) + 1442695040888963407)) 45)) 255 + IntKind.i64.wrap (UInt8.toNat (nth code ci) : Int))) 255))] [3, 34] [] [] [(9, .row [.int .u8 (UInt8.toNat (nth code ci) : Int)])] (o1 (ob_elem (el_of (i := ((ci : Nat) : Int)) (by omega) rfl hx2))) ?_
    refine rk tt_ok [] [] [(60000, [.h code, .i ((ci + 1 : Nat) : Int), .i (IntKind.i64.wrap (IntKind.i64.wrap (ch * 6364136223846793005) + 1442695040888963407))])] [60000] [(5, .val (.i ((ci + 1 : Nat) : Int)))] (o1 (ob_eq (av_i (wrap_succ ci (by omega))))) ?_
    refine awp_seq ?_
    refine rk tt_ok [(2, .i (andI .i64 (IntKind.i64.wrap (andI .i64 (xorI .i64 (shrI .i64 (IntKind.i64.wrap (IntKind.i64.wrap (ch * 6364136223846793005) + 1442695040888963407)) 33) (shrI .i64 (IntKind.i64.wrap (IntKind.i64.wrap (ch * 6364136223846793005) + 1442695040888963407)) 45)) 255 + IntKind.i64.wrap (UInt8.toNat (nth code ci) : Int))) 255))] [2, 3] [] [] [] (o0) ?_
    refine awp_ret ?_
    have hE5 : specl01Byte code ci ch = (andI .i64 (IntKind.i64.wrap (andI .i64 (xorI .i64 (shrI .i64 (IntKind.i64.wrap (IntKind.i64.wrap (ch * 6364136223846793005) + 1442695040888963407)) 33) (shrI .i64 (IntKind.i64.wrap (IntKind.i64.wrap (ch * 6364136223846793005) + 1442695040888963407)) 45)) 255 + IntKind.i64.wrap (UInt8.toNat (nth code ci) : Int))) 255, ci + 1, IntKind.i64.wrap (IntKind.i64.wrap (ch * 6364136223846793005) + 1442695040888963407)) := bif_t h1 (rfl)
    exact gret [] (congrArg (fun z => (.i z.1 : AV)) hE5.symm) (congrArg (fun z => ([.h code, .i ((z.2.1 : Nat) : Int), .i z.2.2] : List C)) hE5.symm)
  ·
    have h1d := of_decide_eq_false h1
    refine awp_skip ?_
    refine awp_seq ?_
    refine rk tt_ok [(2, .i (andI .i64 (xorI .i64 (shrI .i64 (IntKind.i64.wrap (IntKind.i64.wrap (ch * 6364136223846793005) + 1442695040888963407)) 33) (shrI .i64 (IntKind.i64.wrap (IntKind.i64.wrap (ch * 6364136223846793005) + 1442695040888963407)) 45)) 255))] [2, 3, 34] [] [] [] (o0) ?_
    refine awp_ret ?_
    have hE6 : specl01Byte code ci ch = (andI .i64 (xorI .i64 (shrI .i64 (IntKind.i64.wrap (IntKind.i64.wrap (ch * 6364136223846793005) + 1442695040888963407)) 33) (shrI .i64 (IntKind.i64.wrap (IntKind.i64.wrap (ch * 6364136223846793005) + 1442695040888963407)) 45)) 255, ci, IntKind.i64.wrap (IntKind.i64.wrap (ch * 6364136223846793005) + 1442695040888963407)) := bif_f h1 (rfl)
    exact gret [] (congrArg (fun z => (.i z.1 : AV)) hE6.symm) (congrArg (fun z => ([.h code, .i ((z.2.1 : Nat) : Int), .i z.2.2] : List C)) hE6.symm)
end Go.Proofs.YtceekipigpcilaaDoor
