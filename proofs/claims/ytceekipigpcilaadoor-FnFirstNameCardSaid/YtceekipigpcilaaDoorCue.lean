/- What functions compute, and that they do (printed by am2.py): each function as a Lean function, then its contract. -/
import Derived.Test.YtceekipigpcilaaDoorCud
import Derived.KernelRfl
set_option linter.unusedVariables false
set_option linter.unusedSimpArgs false
namespace Go.Proofs.YtceekipigpcilaaDoor
open Go.RowKit
open GoE (enc wide)
def specDrawPlaces_f0 (code : (List UInt8)) (_ : Nat) (s0 : (List Int) × Nat × Int) : Rd ((List Int)) ((List Int) × Nat × Int) ((List Int)) := (lt (α := Int × Nat × Int) (specl01Below code s0.2.1 s0.2.2 10000) (fun x2 => (.next (s0.1 ++ [x2.1], x2.2.1, x2.2.2))))
def specDrawPlaces_e0 (_ : Nat) (s0 : (List Int) × Nat × Int) : (List Int) := s0.1
def specDrawPlaces (code : (List UInt8)) : (List Int) := (lt (α := Nat × Int) (specl01New code) (fun x1 => (Out.on (forN (specDrawPlaces_f0 code) specDrawPlaces_e0 (Int.toNat (12 : Int)) 0 ([], x1.1, x1.2)) (fun y0 => y0))))
theorem specDrawPlaces_a (code : (List UInt8)) : ACalls Tryd.prog 5 [.h code] (.o 0 (specDrawPlaces code)) := by
  refine acalls_of (tt := tt) tt_ok Tryd.func5 (fn := Tryd.f5) rfl (by unfold FnOk; kernel_rfl) (Nat.le_of_ble_eq_true rfl) fun w0 F0 hG => ?_
  refine awp_seq ?_
  refine rk tt_ok [(2, .e 0)] [] [] [] [] (o0) ?_
  refine awp_seq ?_
  obtain ⟨x1, hx1⟩ : ∃ z : Nat × Int, specl01New code = z := ⟨_, rfl⟩
  refine rk tt_ok [(3, .p 7 0)] [0] [(7, [.h code, .i ((x1.1 : Nat) : Int), .i x1.2])] [] [(1, .new [.h code, .i ((x1.1 : Nat) : Int), .i x1.2])] (o1 (ob_new (hx1 ▸ specl01New_a code))) ?_
  refine awp_seq ?_
  refine rk tt_ok [(4, .one (.slc (.own true 512) 1 []))] [] [] [] [] (o0) ?_
  refine awp_seq ?_
  refine awp_seq ?_
  refine rk tt_ok [(5, .i 0)] [] [] [] [] (o0) ?_
  refine blk (fun (k0 : Nat) (s0 : (List Int) × Nat × Int) => [(4, .o 147202 s0.1), (5, .i ((k0 : Nat) : Int))]) [4, 5] (fun k0 s0 => [(7, [.h code, .i ((s0.2.1 : Nat) : Int), .i s0.2.2])]) [7] (fun (y0 : (List Int)) => [(4, .o 147352 y0)]) [3, 4, 5] (fun y0 => []) [7] (fun (k0 : Nat) (s0 : (List Int) × Nat × Int) => (forN (specDrawPlaces_f0 code) specDrawPlaces_e0 (Int.toNat (12 : Int)) 0 ([], x1.1, x1.2)) = forN (specDrawPlaces_f0 code) specDrawPlaces_e0 ((Int.toNat (12 : Int)) - k0) k0 s0 ∧ List.length s0.1 ≤ k0) (fun (y0 : (List Int)) => (forN (specDrawPlaces_f0 code) specDrawPlaces_e0 (Int.toNat (12 : Int)) 0 ([], x1.1, x1.2)) = .brk y0) (Int.toNat (12 : Int)) ([], x1.1, x1.2) (weak_sf [(512, 147202)] (by kernel_rfl)) ⟨rfl, (by simp)⟩ (fun k0 s0 hk0 hI0 => ?_) (fun k0 s0 hk0 hI0 => ?_) (fun y0 hD0 => ?_)
  ·
    have hA0_0 := hI0.2
    refine awp_seq ?_
    refine awp_seq ?_
    refine rk tt_ok [(10, .b true)] [] [] [] [(1, .val (.b true))] (o1 (ob_eq (av_bool (decide_eq_true (p := ((k0 : Nat) : Int) < (12 : Int)) (by omega))))) ?_
    refine ckT ?_
    refine awp_skip ?_
    refine awp_seq ?_
    refine awp_block ?_
    obtain ⟨x2, hx2⟩ : ∃ z : Int × Nat × Int, specl01Below code s0.2.1 s0.2.2 10000 = z := ⟨_, rfl⟩
    have hbx2 := hx2 ▸ specl01Below_bd code s0.2.1 s0.2.2 10000
    refine wdT 4 0 (.own true 147202) s0.1 (fun hw3 => ?_)
    have hl4 : List.length s0.1 ≤ 1073741824 := wide_len (hw3)
    refine rk tt_ok [(4, .one (.slc (.own true 1088) 1 ((eL s0.1) ++ [[.i x2.1]])))] [4, 10] [(7, [.h code, .i ((x2.2.1 : Nat) : Int), .i x2.2.2])] [7] [(2, .give none (.i x2.1) [.h code, .i ((x2.2.1 : Nat) : Int), .i x2.2.2])] (o2 (ob_give (hx2 ▸ specl01Below_a code s0.2.1 s0.2.2 10000)) (o1 (ob_len (len_of (eL_length s0.1) (eL_length [x2.1]) (by first | omega | (simp; omega) | simp))))) ?_
    refine eqn [(4, .o 1088 (s0.1 ++ [x2.1]))] [4] [] [] (by rw [show ((eL s0.1) ++ [[.i x2.1]]) = (eL (s0.1 ++ [x2.1])) from app_eL (rfl) (rfl)]; first | done | kernel_rfl) ?_
    refine rk tt_ok [(5, .i ((k0 + 1 : Nat) : Int))] [5] [] [] [(1, .val (.i ((k0 + 1 : Nat) : Int)))] (o1 (ob_eq (av_i (wrap_succ k0 (by omega))))) ?_
    exact Exists.intro (s0.1 ++ [x2.1], x2.2.1, x2.2.2) (And.intro (weak_sf [(1088, 147202)] (by kernel_rfl)) ⟨forN_next hk0 (lt_b hx2 (rfl)) hI0.1, by first | omega | (simp; omega) | simp⟩)
  ·
    have hA0_0 := hI0.2
    refine awp_seq ?_
    refine awp_seq ?_
    refine rk tt_ok [(10, .b false)] [] [] [] [(1, .val (.b false))] (o1 (ob_eq (av_bool (decide_eq_false (p := ((k0 : Nat) : Int) < (12 : Int)) (by omega))))) ?_
    refine ckF ?_
    refine awp_exit ?_
    exact Exists.intro s0.1 (And.intro (weak_sf [(147202, 147352)] (by kernel_rfl)) (forN_end hk0 (rfl) hI0.1))
  ·
    refine awp_seq ?_
    refine rk tt_ok [(2, .o 147352 y0)] [2, 4] [] [] [] (o0) ?_
    refine awp_ret ?_
    exact pret [] (congrArg (fun z => (.o 0 z : AV)) (show specDrawPlaces code = y0 from lt_b hx1 (on_b hD0 (rfl))).symm)
end Go.Proofs.YtceekipigpcilaaDoor
