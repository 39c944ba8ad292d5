/- What functions compute, and that they do (printed by am2.py): each function as a Lean function, then its contract. -/
import Derived.Test.YtnhmnfmhnepjmaaGreatCkb
import Derived.KernelRfl
set_option linter.unusedVariables false
set_option linter.unusedSimpArgs false
namespace Go.Proofs.YtnhmnfmhnepjmaaGreat
open Go.RowKit
open GoE (enc wide)
def implNegatedNodes_f0 (q : (List NodeD)) (k0 : Nat) (s0 : (List Bool)) : Rd ((List Bool)) ((List Bool)) ((List Bool)) := (bif ((nth q (Int.toNat (dn ((q.length : Int) - 1) k0))).1 == (5 : Int)) then (.next (List.set s0 (Int.toNat ((nth q (Int.toNat (dn ((q.length : Int) - 1) k0))).2.1)) ((nth s0 (Int.toNat (dn ((q.length : Int) - 1) k0))) || ((nth q (Int.toNat (dn ((q.length : Int) - 1) k0))).1 == (5 : Int))))) else (bif ((nth q (Int.toNat (dn ((q.length : Int) - 1) k0))).1 == (6 : Int)) then (.next (List.set (List.set s0 (Int.toNat ((nth q (Int.toNat (dn ((q.length : Int) - 1) k0))).2.1)) ((nth s0 (Int.toNat (dn ((q.length : Int) - 1) k0))) || ((nth q (Int.toNat (dn ((q.length : Int) - 1) k0))).1 == (5 : Int)))) (Int.toNat ((nth q (Int.toNat (dn ((q.length : Int) - 1) k0))).2.2.1)) ((nth s0 (Int.toNat (dn ((q.length : Int) - 1) k0))) || ((nth q (Int.toNat (dn ((q.length : Int) - 1) k0))).1 == (5 : Int))))) else (bif ((nth q (Int.toNat (dn ((q.length : Int) - 1) k0))).1 == (7 : Int)) then (.next (List.set (List.set s0 (Int.toNat ((nth q (Int.toNat (dn ((q.length : Int) - 1) k0))).2.1)) ((nth s0 (Int.toNat (dn ((q.length : Int) - 1) k0))) || ((nth q (Int.toNat (dn ((q.length : Int) - 1) k0))).1 == (5 : Int)))) (Int.toNat ((nth q (Int.toNat (dn ((q.length : Int) - 1) k0))).2.2.1)) ((nth s0 (Int.toNat (dn ((q.length : Int) - 1) k0))) || ((nth q (Int.toNat (dn ((q.length : Int) - 1) k0))).1 == (5 : Int))))) else (.next s0))))
def implNegatedNodes_e0 (_ : Nat) (s0 : (List Bool)) : (List Bool) := s0
def implNegatedNodes (q : (List NodeD)) : (List Bool) := (bif (!(implIsValidQuery q)) then [] else (Out.on (forN (implNegatedNodes_f0 q) implNegatedNodes_e0 (List.length q) 0 (List.replicate (Int.toNat (q.length : Int)) false)) (fun y0 => y0)))
theorem implNegatedNodes_a (q : (List NodeD)) : ACalls Tryz.prog 227 [.h q] (.o 0 (implNegatedNodes q)) := by
 refine acalls_of (tt := tt) tt_ok Tryz.func227 (fn := Tryz.f227) rfl (by unfold FnOk; kernel_rfl) (Nat.le_of_ble_eq_true rfl) fun w0 F0 => ?_
 refine awp_seq ?_
 refine rk tt_ok [(2, .e 0)] [] [] [] [] (o0) ?_
 refine awp_seq ?_
 refine awp_seq ?_
 refine rk tt_ok [(8, .b (!(implIsValidQuery q)))] [] [] [] [(1, .val (.b (implIsValidQuery q)))] (o1 (ob_call (implIsValidQuery_a q))) ?_
 refine ck (!(implIsValidQuery q)) (fun h1 => ?_) (fun h1 => ?_)
 ·
  refine awp_seq ?_
  refine rk tt_ok [] [8] [] [] [] (o0) ?_
  refine opn [(false, 2, 0, true, 384000, 1)] ?_
  refine awp_ret ?_
  exact pret [] (congrArg (fun z => (.o 0 z : AV)) (show implNegatedNodes q = [] from bif_t h1 (rfl)).symm)
 ·
  have h1n : (implIsValidQuery q) = true := bnot_f h1
  refine awp_skip ?_
  refine awp_seq ?_
  refine wdT 0 0 .sh q (fun hw2 => ?_)
  have hl3 : List.length q ≤ 1073741824 := wide_len (hw2)
  refine rk tt_ok [(3, .one (.slc (.own true 704) 1 (List.replicate (Int.toNat (q.length : Int)) [.b false])))] [8] [] [] [(1, .val (.i (q.length : Int)))] (o2 (ob_eq (av_len q)) (o1 (ob_rng (lo := 0) (hi := (q.length : Int)) (n := 1073741824) (⟨by omega, by omega, by omega⟩)))) ?_
  refine eqn [(3, .o 704 (List.replicate (Int.toNat (q.length : Int)) false))] [3] [] [] (by rw [show (List.replicate (Int.toNat (q.length : Int)) [.b false]) = (eL (List.replicate (Int.toNat (q.length : Int)) false)) from mk_eL _ false]; first | done | kernel_rfl) ?_
  refine awp_seq ?_
  refine awp_seq ?_
  refine rk tt_ok [(4, .i ((q.length : Int) - 1))] [] [] [] [(1, .val (.i (q.length : Int))), (2, .val (.i ((q.length : Int) - 1)))] (o2 (ob_eq (av_len q)) (o1 (ob_eq (av_i (IntWalk.i64_in ((q.length : Int) - 1) (by omega)))))) ?_
  refine blk (fun (k0 : Nat) (s0 : (List Bool)) => [(3, .o 704 s0), (4, .i (dn ((q.length : Int) - 1) k0))]) [3, 4] (fun k0 s0 => []) [] (fun (y0 : (List Bool)) => [(3, .o 704 y0)]) [0, 3, 4] (fun y0 => []) [] (fun (k0 : Nat) (s0 : (List Bool)) => (forN (implNegatedNodes_f0 q) implNegatedNodes_e0 (List.length q) 0 (List.replicate (Int.toNat (q.length : Int)) false)) = forN (implNegatedNodes_f0 q) implNegatedNodes_e0 ((List.length q) - k0) k0 s0 ∧ List.length s0 = (Int.toNat (q.length : Int))) (fun (y0 : (List Bool)) => (forN (implNegatedNodes_f0 q) implNegatedNodes_e0 (List.length q) 0 (List.replicate (Int.toNat (q.length : Int)) false)) = .brk y0 ∧ List.length y0 = (Int.toNat (q.length : Int))) (List.length q) (List.replicate (Int.toNat (q.length : Int)) false) (weak_fit (by kernel_rfl)) ⟨rfl, (by simp)⟩ (fun k0 s0 hk0 hI0 => ?_) (fun k0 s0 hk0 hI0 => ?_) (fun y0 hD0 => ?_)
  ·
   have hA0_0 := hI0.2
   have hdn0 := dn_eq ((q.length : Int) - 1) k0
   refine awp_seq ?_
   refine awp_seq ?_
   refine rk tt_ok [(16, .b true)] [] [] [] [(1, .val (.b true))] (o1 (ob_eq (av_bool (decide_eq_true (p := (dn ((q.length : Int) - 1) k0) ≥ (0 : Int)) (by omega))))) ?_
   refine ckT ?_
   refine awp_skip ?_
   refine awp_seq ?_
   refine awp_block ?_
   refine awp_seq ?_
   refine jn [(5, .b ((nth s0 (Int.toNat (dn ((q.length : Int) - 1) k0))) || ((nth q (Int.toNat (dn ((q.length : Int) - 1) k0))).1 == (5 : Int))))] [16] [] [] (nth s0 (Int.toNat (dn ((q.length : Int) - 1) k0))) (fun h4 => ?_) (fun h4 => ?_) ?_
   ·
    refine wdT 3 0 (.own true 704) s0 (fun hw6 => ?_)
    have hl7 : List.length s0 ≤ 1073741824 := wide_len (hw6)
    have hx5 : s0[(Int.toNat (dn ((q.length : Int) - 1) k0))]? = some (nth s0 (Int.toNat (dn ((q.length : Int) - 1) k0))) := nth_get (by omega)
    refine rk tt_ok [(5, .b true)] [16] [] [] [(2, .rowE [.b (nth s0 (Int.toNat (dn ((q.length : Int) - 1) k0)))]), (3, .val (.b true))] (o2 (ob_elem (el_of (i := (dn ((q.length : Int) - 1) k0)) (by omega) rfl hx5)) (o1 (ob_eq (av_bool h4)))) ?_
    exact ⟨rfl, weak_fit (by rw [h4]; first | done | kernel_rfl)⟩
   ·
    refine wdT 3 0 (.own true 704) s0 (fun hw9 => ?_)
    have hl10 : List.length s0 ≤ 1073741824 := wide_len (hw9)
    have hx8 : s0[(Int.toNat (dn ((q.length : Int) - 1) k0))]? = some (nth s0 (Int.toNat (dn ((q.length : Int) - 1) k0))) := nth_get (by omega)
    have hx11 : q[(Int.toNat (dn ((q.length : Int) - 1) k0))]? = some (nth q (Int.toNat (dn ((q.length : Int) - 1) k0))) := nth_get (by omega)
    refine rk tt_ok [(5, .b ((nth q (Int.toNat (dn ((q.length : Int) - 1) k0))).1 == (5 : Int)))] [16] [] [] [(2, .rowE [.b (nth s0 (Int.toNat (dn ((q.length : Int) - 1) k0)))]), (3, .val (.b false)), (7, .row [.i ((nth q (Int.toNat (dn ((q.length : Int) - 1) k0))).1), .i ((nth q (Int.toNat (dn ((q.length : Int) - 1) k0))).2.1), .i ((nth q (Int.toNat (dn ((q.length : Int) - 1) k0))).2.2.1), .s ((nth q (Int.toNat (dn ((q.length : Int) - 1) k0))).2.2.2.1), .i ((nth q (Int.toNat (dn ((q.length : Int) - 1) k0))).2.2.2.2.1), .i ((nth q (Int.toNat (dn ((q.length : Int) - 1) k0))).2.2.2.2.2.1), .s ((nth q (Int.toNat (dn ((q.length : Int) - 1) k0))).2.2.2.2.2.2)])] (o2 (ob_elem (el_of (i := (dn ((q.length : Int) - 1) k0)) (by omega) rfl hx8)) (o2 (ob_eq (av_bool h4)) (o1 (ob_elem (el_of (i := (dn ((q.length : Int) - 1) k0)) (by omega) rfl hx11))))) ?_
    exact ⟨rfl, weak_fit (by rw [h4]; first | done | kernel_rfl)⟩
   refine awp_seq ?_
   have hx12 : q[(Int.toNat (dn ((q.length : Int) - 1) k0))]? = some (nth q (Int.toNat (dn ((q.length : Int) - 1) k0))) := nth_get (by omega)
   refine rk tt_ok [(35, .i ((nth q (Int.toNat (dn ((q.length : Int) - 1) k0))).1))] [] [] [] [(2, .row [.i ((nth q (Int.toNat (dn ((q.length : Int) - 1) k0))).1), .i ((nth q (Int.toNat (dn ((q.length : Int) - 1) k0))).2.1), .i ((nth q (Int.toNat (dn ((q.length : Int) - 1) k0))).2.2.1), .s ((nth q (Int.toNat (dn ((q.length : Int) - 1) k0))).2.2.2.1), .i ((nth q (Int.toNat (dn ((q.length : Int) - 1) k0))).2.2.2.2.1), .i ((nth q (Int.toNat (dn ((q.length : Int) - 1) k0))).2.2.2.2.2.1), .s ((nth q (Int.toNat (dn ((q.length : Int) - 1) k0))).2.2.2.2.2.2)])] (o1 (ob_elem (el_of (i := (dn ((q.length : Int) - 1) k0)) (by omega) rfl hx12))) ?_
   refine awp_block ?_
   refine awp_seq ?_
   refine rk tt_ok [(36, .b ((nth q (Int.toNat (dn ((q.length : Int) - 1) k0))).1 == (5 : Int)))] [] [] [] [] (o0) ?_
   refine ck ((nth q (Int.toNat (dn ((q.length : Int) - 1) k0))).1 == (5 : Int)) (fun h13 => ?_) (fun h13 => ?_)
   ·
    have h13k := ql_a h1n (by omega) (by omega) h13
    have h13d := eq_of_beq h13
    refine wdT 3 0 (.own true 704) s0 (fun hw15 => ?_)
    have hl16 : List.length s0 ≤ 1073741824 := wide_len (hw15)
    have hx14 : s0[(Int.toNat ((nth q (Int.toNat (dn ((q.length : Int) - 1) k0))).2.1))]? = some (nth s0 (Int.toNat ((nth q (Int.toNat (dn ((q.length : Int) - 1) k0))).2.1))) := nth_get (by omega)
    refine rk tt_ok [(3, .one (.slc (.own true 704) 1 (setRow (eL s0) (Int.toNat ((nth q (Int.toNat (dn ((q.length : Int) - 1) k0))).2.1)) 0 [.b ((nth s0 (Int.toNat (dn ((q.length : Int) - 1) k0))) || ((nth q (Int.toNat (dn ((q.length : Int) - 1) k0))).1 == (5 : Int)))])))] [3, 5, 35, 36] [] [] [(3, .row [.i ((nth q (Int.toNat (dn ((q.length : Int) - 1) k0))).1), .i ((nth q (Int.toNat (dn ((q.length : Int) - 1) k0))).2.1), .i ((nth q (Int.toNat (dn ((q.length : Int) - 1) k0))).2.2.1), .s ((nth q (Int.toNat (dn ((q.length : Int) - 1) k0))).2.2.2.1), .i ((nth q (Int.toNat (dn ((q.length : Int) - 1) k0))).2.2.2.2.1), .i ((nth q (Int.toNat (dn ((q.length : Int) - 1) k0))).2.2.2.2.2.1), .s ((nth q (Int.toNat (dn ((q.length : Int) - 1) k0))).2.2.2.2.2.2)]), (7, .rowE [.b (nth s0 (Int.toNat ((nth q (Int.toNat (dn ((q.length : Int) - 1) k0))).2.1)))])] (o2 (ob_elem (el_of (i := (dn ((q.length : Int) - 1) k0)) (by omega) rfl hx12)) (o1 (ob_elem (el_of (i := (nth q (Int.toNat (dn ((q.length : Int) - 1) k0))).2.1) (by omega) rfl hx14)))) ?_
    refine eqn [(3, .o 704 (List.set s0 (Int.toNat ((nth q (Int.toNat (dn ((q.length : Int) - 1) k0))).2.1)) ((nth s0 (Int.toNat (dn ((q.length : Int) - 1) k0))) || ((nth q (Int.toNat (dn ((q.length : Int) - 1) k0))).1 == (5 : Int)))))] [3] [] [] (by rw [setRow_eL (y := ((nth s0 (Int.toNat (dn ((q.length : Int) - 1) k0))) || ((nth q (Int.toNat (dn ((q.length : Int) - 1) k0))).1 == (5 : Int)))) hx14 rfl]; first | done | kernel_rfl) ?_
    refine rk tt_ok [(4, .i (dn ((q.length : Int) - 1) (k0 + 1)))] [4] [] [] [(1, .val (.i (dn ((q.length : Int) - 1) (k0 + 1))))] (o1 (ob_eq (show .i (IntKind.i64.wrap ((dn ((q.length : Int) - 1) k0) - 1)) = .i (dn ((q.length : Int) - 1) (k0 + 1)) from av_i (show IntKind.i64.wrap ((dn ((q.length : Int) - 1) k0) - 1) = (dn ((q.length : Int) - 1) (k0 + 1)) from IntWalk.i64_in ((dn ((q.length : Int) - 1) k0) - 1) (by omega))))) ?_
    exact Exists.intro (List.set s0 (Int.toNat ((nth q (Int.toNat (dn ((q.length : Int) - 1) k0))).2.1)) ((nth s0 (Int.toNat (dn ((q.length : Int) - 1) k0))) || ((nth q (Int.toNat (dn ((q.length : Int) - 1) k0))).1 == (5 : Int)))) (And.intro (weak_fit (by kernel_rfl)) ⟨forN_next hk0 (bif_t h13 (rfl)) hI0.1, (by first | omega | (simp only [List.length_set]; omega))⟩)
   ·
    have h13d := ne_of_beq h13
    refine awp_seq ?_
    refine awp_seq ?_
    refine rk tt_ok [(46, .b ((nth q (Int.toNat (dn ((q.length : Int) - 1) k0))).1 == (6 : Int)))] [36] [] [] [] (o0) ?_
    refine ck ((nth q (Int.toNat (dn ((q.length : Int) - 1) k0))).1 == (6 : Int)) (fun h17 => ?_) (fun h17 => ?_)
    ·
     have h17k := ql_b h1n (by omega) (by omega) h17; have h17m := qr_b h1n (by omega) (by omega) h17
     have h17d := eq_of_beq h17
     refine awp_skip ?_
     refine ckt h17 ?_
     refine wdT 3 0 (.own true 704) s0 (fun hw19 => ?_)
     have hl20 : List.length s0 ≤ 1073741824 := wide_len (hw19)
     have hx18 : s0[(Int.toNat ((nth q (Int.toNat (dn ((q.length : Int) - 1) k0))).2.1))]? = some (nth s0 (Int.toNat ((nth q (Int.toNat (dn ((q.length : Int) - 1) k0))).2.1))) := nth_get (by omega)
     have hx21 : (List.set s0 (Int.toNat ((nth q (Int.toNat (dn ((q.length : Int) - 1) k0))).2.1)) ((nth s0 (Int.toNat (dn ((q.length : Int) - 1) k0))) || ((nth q (Int.toNat (dn ((q.length : Int) - 1) k0))).1 == (5 : Int))))[(Int.toNat ((nth q (Int.toNat (dn ((q.length : Int) - 1) k0))).2.2.1))]? = some (nth (List.set s0 (Int.toNat ((nth q (Int.toNat (dn ((q.length : Int) - 1) k0))).2.1)) ((nth s0 (Int.toNat (dn ((q.length : Int) - 1) k0))) || ((nth q (Int.toNat (dn ((q.length : Int) - 1) k0))).1 == (5 : Int)))) (Int.toNat ((nth q (Int.toNat (dn ((q.length : Int) - 1) k0))).2.2.1))) := nth_get (by first | omega | (simp only [List.length_set]; omega))
     refine rd' tt_ok tt_mx [(3, .one (.slc (.own true 704) 1 (setRow (setRow (eL s0) (Int.toNat ((nth q (Int.toNat (dn ((q.length : Int) - 1) k0))).2.1)) 0 [.b ((nth s0 (Int.toNat (dn ((q.length : Int) - 1) k0))) || ((nth q (Int.toNat (dn ((q.length : Int) - 1) k0))).1 == (5 : Int)))]) (Int.toNat ((nth q (Int.toNat (dn ((q.length : Int) - 1) k0))).2.2.1)) 0 [.b ((nth s0 (Int.toNat (dn ((q.length : Int) - 1) k0))) || ((nth q (Int.toNat (dn ((q.length : Int) - 1) k0))).1 == (5 : Int)))])))] [3, 5, 35, 46] [] [] [(3, .row [.i ((nth q (Int.toNat (dn ((q.length : Int) - 1) k0))).1), .i ((nth q (Int.toNat (dn ((q.length : Int) - 1) k0))).2.1), .i ((nth q (Int.toNat (dn ((q.length : Int) - 1) k0))).2.2.1), .s ((nth q (Int.toNat (dn ((q.length : Int) - 1) k0))).2.2.2.1), .i ((nth q (Int.toNat (dn ((q.length : Int) - 1) k0))).2.2.2.2.1), .i ((nth q (Int.toNat (dn ((q.length : Int) - 1) k0))).2.2.2.2.2.1), .s ((nth q (Int.toNat (dn ((q.length : Int) - 1) k0))).2.2.2.2.2.2)]), (9, .row [.i ((nth q (Int.toNat (dn ((q.length : Int) - 1) k0))).1), .i ((nth q (Int.toNat (dn ((q.length : Int) - 1) k0))).2.1), .i ((nth q (Int.toNat (dn ((q.length : Int) - 1) k0))).2.2.1), .s ((nth q (Int.toNat (dn ((q.length : Int) - 1) k0))).2.2.2.1), .i ((nth q (Int.toNat (dn ((q.length : Int) - 1) k0))).2.2.2.2.1), .i ((nth q (Int.toNat (dn ((q.length : Int) - 1) k0))).2.2.2.2.2.1), .s ((nth q (Int.toNat (dn ((q.length : Int) - 1) k0))).2.2.2.2.2.2)]), (14, .rowE [.b (nth s0 (Int.toNat ((nth q (Int.toNat (dn ((q.length : Int) - 1) k0))).2.1)))]), (16, .rowE [.b (nth (List.set s0 (Int.toNat ((nth q (Int.toNat (dn ((q.length : Int) - 1) k0))).2.1)) ((nth s0 (Int.toNat (dn ((q.length : Int) - 1) k0))) || ((nth q (Int.toNat (dn ((q.length : Int) - 1) k0))).1 == (5 : Int)))) (Int.toNat ((nth q (Int.toNat (dn ((q.length : Int) - 1) k0))).2.2.1)))])] (o2 (ob_elem (el_of (i := (dn ((q.length : Int) - 1) k0)) (by omega) rfl hx12)) (o2 (ob_elem (el_of (i := (dn ((q.length : Int) - 1) k0)) (by omega) rfl hx12)) (o2 (ob_elem (el_of (i := (nth q (Int.toNat (dn ((q.length : Int) - 1) k0))).2.1) (by omega) rfl hx18)) (o1 (ob_elem (l := (setRow (eL s0) (Int.toNat ((nth q (Int.toNat (dn ((q.length : Int) - 1) k0))).2.1)) 0 [.b ((nth s0 (Int.toNat (dn ((q.length : Int) - 1) k0))) || ((nth q (Int.toNat (dn ((q.length : Int) - 1) k0))).1 == (5 : Int)))])) (i := ((nth q (Int.toNat (dn ((q.length : Int) - 1) k0))).2.2.1)) (r := [.b (nth (List.set s0 (Int.toNat ((nth q (Int.toNat (dn ((q.length : Int) - 1) k0))).2.1)) ((nth s0 (Int.toNat (dn ((q.length : Int) - 1) k0))) || ((nth q (Int.toNat (dn ((q.length : Int) - 1) k0))).1 == (5 : Int)))) (Int.toNat ((nth q (Int.toNat (dn ((q.length : Int) - 1) k0))).2.2.1)))]) (by rw [setRow_eL (y := ((nth s0 (Int.toNat (dn ((q.length : Int) - 1) k0))) || ((nth q (Int.toNat (dn ((q.length : Int) - 1) k0))).1 == (5 : Int)))) hx18 rfl]; exact el_of (by omega) rfl hx21)))))) ?_
     refine eqn [(3, .o 704 (List.set (List.set s0 (Int.toNat ((nth q (Int.toNat (dn ((q.length : Int) - 1) k0))).2.1)) ((nth s0 (Int.toNat (dn ((q.length : Int) - 1) k0))) || ((nth q (Int.toNat (dn ((q.length : Int) - 1) k0))).1 == (5 : Int)))) (Int.toNat ((nth q (Int.toNat (dn ((q.length : Int) - 1) k0))).2.2.1)) ((nth s0 (Int.toNat (dn ((q.length : Int) - 1) k0))) || ((nth q (Int.toNat (dn ((q.length : Int) - 1) k0))).1 == (5 : Int)))))] [3] [] [] (by rw [setRow_eL (y := ((nth s0 (Int.toNat (dn ((q.length : Int) - 1) k0))) || ((nth q (Int.toNat (dn ((q.length : Int) - 1) k0))).1 == (5 : Int)))) hx18 rfl, setRow_eL (y := ((nth s0 (Int.toNat (dn ((q.length : Int) - 1) k0))) || ((nth q (Int.toNat (dn ((q.length : Int) - 1) k0))).1 == (5 : Int)))) hx21 rfl]; first | done | kernel_rfl) ?_
     refine rk tt_ok [(4, .i (dn ((q.length : Int) - 1) (k0 + 1)))] [4] [] [] [(1, .val (.i (dn ((q.length : Int) - 1) (k0 + 1))))] (o1 (ob_eq (show .i (IntKind.i64.wrap ((dn ((q.length : Int) - 1) k0) - 1)) = .i (dn ((q.length : Int) - 1) (k0 + 1)) from av_i (show IntKind.i64.wrap ((dn ((q.length : Int) - 1) k0) - 1) = (dn ((q.length : Int) - 1) (k0 + 1)) from IntWalk.i64_in ((dn ((q.length : Int) - 1) k0) - 1) (by omega))))) ?_
     exact Exists.intro (List.set (List.set s0 (Int.toNat ((nth q (Int.toNat (dn ((q.length : Int) - 1) k0))).2.1)) ((nth s0 (Int.toNat (dn ((q.length : Int) - 1) k0))) || ((nth q (Int.toNat (dn ((q.length : Int) - 1) k0))).1 == (5 : Int)))) (Int.toNat ((nth q (Int.toNat (dn ((q.length : Int) - 1) k0))).2.2.1)) ((nth s0 (Int.toNat (dn ((q.length : Int) - 1) k0))) || ((nth q (Int.toNat (dn ((q.length : Int) - 1) k0))).1 == (5 : Int)))) (And.intro (weak_fit (by kernel_rfl)) ⟨forN_next hk0 (bif_f h13 (bif_t h17 (rfl))) hI0.1, (by first | omega | (simp only [List.length_set]; omega))⟩)
    ·
     have h17d := ne_of_beq h17
     refine rk tt_ok [(46, .b ((nth q (Int.toNat (dn ((q.length : Int) - 1) k0))).1 == (7 : Int)))] [35, 46] [] [] [] (o0) ?_
     refine ck ((nth q (Int.toNat (dn ((q.length : Int) - 1) k0))).1 == (7 : Int)) (fun h22 => ?_) (fun h22 => ?_)
     ·
      have h22k := ql_c h1n (by omega) (by omega) h22; have h22m := qr_c h1n (by omega) (by omega) h22
      have h22d := eq_of_beq h22
      refine wdT 3 0 (.own true 704) s0 (fun hw24 => ?_)
      have hl25 : List.length s0 ≤ 1073741824 := wide_len (hw24)
      have hx23 : s0[(Int.toNat ((nth q (Int.toNat (dn ((q.length : Int) - 1) k0))).2.1))]? = some (nth s0 (Int.toNat ((nth q (Int.toNat (dn ((q.length : Int) - 1) k0))).2.1))) := nth_get (by omega)
      have hx26 : (List.set s0 (Int.toNat ((nth q (Int.toNat (dn ((q.length : Int) - 1) k0))).2.1)) ((nth s0 (Int.toNat (dn ((q.length : Int) - 1) k0))) || ((nth q (Int.toNat (dn ((q.length : Int) - 1) k0))).1 == (5 : Int))))[(Int.toNat ((nth q (Int.toNat (dn ((q.length : Int) - 1) k0))).2.2.1))]? = some (nth (List.set s0 (Int.toNat ((nth q (Int.toNat (dn ((q.length : Int) - 1) k0))).2.1)) ((nth s0 (Int.toNat (dn ((q.length : Int) - 1) k0))) || ((nth q (Int.toNat (dn ((q.length : Int) - 1) k0))).1 == (5 : Int)))) (Int.toNat ((nth q (Int.toNat (dn ((q.length : Int) - 1) k0))).2.2.1))) := nth_get (by first | omega | (simp only [List.length_set]; omega))
      refine rd' tt_ok tt_mx [(3, .one (.slc (.own true 704) 1 (setRow (setRow (eL s0) (Int.toNat ((nth q (Int.toNat (dn ((q.length : Int) - 1) k0))).2.1)) 0 [.b ((nth s0 (Int.toNat (dn ((q.length : Int) - 1) k0))) || ((nth q (Int.toNat (dn ((q.length : Int) - 1) k0))).1 == (5 : Int)))]) (Int.toNat ((nth q (Int.toNat (dn ((q.length : Int) - 1) k0))).2.2.1)) 0 [.b ((nth s0 (Int.toNat (dn ((q.length : Int) - 1) k0))) || ((nth q (Int.toNat (dn ((q.length : Int) - 1) k0))).1 == (5 : Int)))])))] [3, 5, 46] [] [] [(3, .row [.i ((nth q (Int.toNat (dn ((q.length : Int) - 1) k0))).1), .i ((nth q (Int.toNat (dn ((q.length : Int) - 1) k0))).2.1), .i ((nth q (Int.toNat (dn ((q.length : Int) - 1) k0))).2.2.1), .s ((nth q (Int.toNat (dn ((q.length : Int) - 1) k0))).2.2.2.1), .i ((nth q (Int.toNat (dn ((q.length : Int) - 1) k0))).2.2.2.2.1), .i ((nth q (Int.toNat (dn ((q.length : Int) - 1) k0))).2.2.2.2.2.1), .s ((nth q (Int.toNat (dn ((q.length : Int) - 1) k0))).2.2.2.2.2.2)]), (9, .row [.i ((nth q (Int.toNat (dn ((q.length : Int) - 1) k0))).1), .i ((nth q (Int.toNat (dn ((q.length : Int) - 1) k0))).2.1), .i ((nth q (Int.toNat (dn ((q.length : Int) - 1) k0))).2.2.1), .s ((nth q (Int.toNat (dn ((q.length : Int) - 1) k0))).2.2.2.1), .i ((nth q (Int.toNat (dn ((q.length : Int) - 1) k0))).2.2.2.2.1), .i ((nth q (Int.toNat (dn ((q.length : Int) - 1) k0))).2.2.2.2.2.1), .s ((nth q (Int.toNat (dn ((q.length : Int) - 1) k0))).2.2.2.2.2.2)]), (14, .rowE [.b (nth s0 (Int.toNat ((nth q (Int.toNat (dn ((q.length : Int) - 1) k0))).2.1)))]), (16, .rowE [.b (nth (List.set s0 (Int.toNat ((nth q (Int.toNat (dn ((q.length : Int) - 1) k0))).2.1)) ((nth s0 (Int.toNat (dn ((q.length : Int) - 1) k0))) || ((nth q (Int.toNat (dn ((q.length : Int) - 1) k0))).1 == (5 : Int)))) (Int.toNat ((nth q (Int.toNat (dn ((q.length : Int) - 1) k0))).2.2.1)))])] (o2 (ob_elem (el_of (i := (dn ((q.length : Int) - 1) k0)) (by omega) rfl hx12)) (o2 (ob_elem (el_of (i := (dn ((q.length : Int) - 1) k0)) (by omega) rfl hx12)) (o2 (ob_elem (el_of (i := (nth q (Int.toNat (dn ((q.length : Int) - 1) k0))).2.1) (by omega) rfl hx23)) (o1 (ob_elem (l := (setRow (eL s0) (Int.toNat ((nth q (Int.toNat (dn ((q.length : Int) - 1) k0))).2.1)) 0 [.b ((nth s0 (Int.toNat (dn ((q.length : Int) - 1) k0))) || ((nth q (Int.toNat (dn ((q.length : Int) - 1) k0))).1 == (5 : Int)))])) (i := ((nth q (Int.toNat (dn ((q.length : Int) - 1) k0))).2.2.1)) (r := [.b (nth (List.set s0 (Int.toNat ((nth q (Int.toNat (dn ((q.length : Int) - 1) k0))).2.1)) ((nth s0 (Int.toNat (dn ((q.length : Int) - 1) k0))) || ((nth q (Int.toNat (dn ((q.length : Int) - 1) k0))).1 == (5 : Int)))) (Int.toNat ((nth q (Int.toNat (dn ((q.length : Int) - 1) k0))).2.2.1)))]) (by rw [setRow_eL (y := ((nth s0 (Int.toNat (dn ((q.length : Int) - 1) k0))) || ((nth q (Int.toNat (dn ((q.length : Int) - 1) k0))).1 == (5 : Int)))) hx23 rfl]; exact el_of (by omega) rfl hx26)))))) ?_
      refine eqn [(3, .o 704 (List.set (List.set s0 (Int.toNat ((nth q (Int.toNat (dn ((q.length : Int) - 1) k0))).2.1)) ((nth s0 (Int.toNat (dn ((q.length : Int) - 1) k0))) || ((nth q (Int.toNat (dn ((q.length : Int) - 1) k0))).1 == (5 : Int)))) (Int.toNat ((nth q (Int.toNat (dn ((q.length : Int) - 1) k0))).2.2.1)) ((nth s0 (Int.toNat (dn ((q.length : Int) - 1) k0))) || ((nth q (Int.toNat (dn ((q.length : Int) - 1) k0))).1 == (5 : Int)))))] [3] [] [] (by rw [setRow_eL (y := ((nth s0 (Int.toNat (dn ((q.length : Int) - 1) k0))) || ((nth q (Int.toNat (dn ((q.length : Int) - 1) k0))).1 == (5 : Int)))) hx23 rfl, setRow_eL (y := ((nth s0 (Int.toNat (dn ((q.length : Int) - 1) k0))) || ((nth q (Int.toNat (dn ((q.length : Int) - 1) k0))).1 == (5 : Int)))) hx26 rfl]; first | done | kernel_rfl) ?_
      refine rk tt_ok [(4, .i (dn ((q.length : Int) - 1) (k0 + 1)))] [4] [] [] [(1, .val (.i (dn ((q.length : Int) - 1) (k0 + 1))))] (o1 (ob_eq (show .i (IntKind.i64.wrap ((dn ((q.length : Int) - 1) k0) - 1)) = .i (dn ((q.length : Int) - 1) (k0 + 1)) from av_i (show IntKind.i64.wrap ((dn ((q.length : Int) - 1) k0) - 1) = (dn ((q.length : Int) - 1) (k0 + 1)) from IntWalk.i64_in ((dn ((q.length : Int) - 1) k0) - 1) (by omega))))) ?_
      exact Exists.intro (List.set (List.set s0 (Int.toNat ((nth q (Int.toNat (dn ((q.length : Int) - 1) k0))).2.1)) ((nth s0 (Int.toNat (dn ((q.length : Int) - 1) k0))) || ((nth q (Int.toNat (dn ((q.length : Int) - 1) k0))).1 == (5 : Int)))) (Int.toNat ((nth q (Int.toNat (dn ((q.length : Int) - 1) k0))).2.2.1)) ((nth s0 (Int.toNat (dn ((q.length : Int) - 1) k0))) || ((nth q (Int.toNat (dn ((q.length : Int) - 1) k0))).1 == (5 : Int)))) (And.intro (weak_fit (by kernel_rfl)) ⟨forN_next hk0 (bif_f h13 (bif_f h17 (bif_t h22 (rfl)))) hI0.1, (by first | omega | (simp only [List.length_set]; omega))⟩)
     ·
      have h22d := ne_of_beq h22
      refine awp_skip ?_
      refine rk tt_ok [(4, .i (dn ((q.length : Int) - 1) (k0 + 1)))] [4, 5, 46] [] [] [(1, .val (.i (dn ((q.length : Int) - 1) (k0 + 1))))] (o1 (ob_eq (show .i (IntKind.i64.wrap ((dn ((q.length : Int) - 1) k0) - 1)) = .i (dn ((q.length : Int) - 1) (k0 + 1)) from av_i (show IntKind.i64.wrap ((dn ((q.length : Int) - 1) k0) - 1) = (dn ((q.length : Int) - 1) (k0 + 1)) from IntWalk.i64_in ((dn ((q.length : Int) - 1) k0) - 1) (by omega))))) ?_
      exact Exists.intro s0 (And.intro (weak_fit (by kernel_rfl)) ⟨forN_next hk0 (bif_f h13 (bif_f h17 (bif_f h22 (rfl)))) hI0.1, (by first | omega | (simp only [List.length_set]; omega))⟩)
  ·
   have hA0_0 := hI0.2
   have hdn0 := dn_eq ((q.length : Int) - 1) k0
   refine awp_seq ?_
   refine awp_seq ?_
   refine rk tt_ok [(16, .b false)] [] [] [] [(1, .val (.b false))] (o1 (ob_eq (av_bool (decide_eq_false (p := (dn ((q.length : Int) - 1) k0) ≥ (0 : Int)) (by omega))))) ?_
   refine ckF ?_
   refine awp_exit ?_
   exact Exists.intro s0 (And.intro (weak_fit (by kernel_rfl)) ⟨forN_end hk0 (rfl) hI0.1, by first | omega | (simp only [List.length_set]; omega)⟩)
  ·
   have hD0_0 := hD0.2
   refine awp_seq ?_
   refine rk tt_ok [(2, .o 704 y0)] [2, 3] [] [] [] (o0) ?_
   refine awp_ret ?_
   exact pret [] (congrArg (fun z => (.o 0 z : AV)) (show implNegatedNodes q = y0 from bif_f h1 (on_b hD0.1 (rfl))).symm)
def specNegatedNodes_f0 (q : (List NodeD)) (k0 : Nat) (s0 : (List Bool)) : Rd ((List Bool)) ((List Bool)) ((List Bool)) := (bif ((nth q (Int.toNat (dn ((q.length : Int) - 1) k0))).1 == (5 : Int)) then (bif (((nth q (Int.toNat (dn ((q.length : Int) - 1) k0))).1 == (6 : Int)) || ((nth q (Int.toNat (dn ((q.length : Int) - 1) k0))).1 == (7 : Int))) then (.next (List.set (List.set (List.set s0 (Int.toNat ((nth q (Int.toNat (dn ((q.length : Int) - 1) k0))).2.1)) true) (Int.toNat ((nth q (Int.toNat (dn ((q.length : Int) - 1) k0))).2.1)) (nth (List.set s0 (Int.toNat ((nth q (Int.toNat (dn ((q.length : Int) - 1) k0))).2.1)) true) (Int.toNat (dn ((q.length : Int) - 1) k0)))) (Int.toNat ((nth q (Int.toNat (dn ((q.length : Int) - 1) k0))).2.2.1)) (nth (List.set (List.set s0 (Int.toNat ((nth q (Int.toNat (dn ((q.length : Int) - 1) k0))).2.1)) true) (Int.toNat ((nth q (Int.toNat (dn ((q.length : Int) - 1) k0))).2.1)) (nth (List.set s0 (Int.toNat ((nth q (Int.toNat (dn ((q.length : Int) - 1) k0))).2.1)) true) (Int.toNat (dn ((q.length : Int) - 1) k0)))) (Int.toNat (dn ((q.length : Int) - 1) k0))))) else (.next (List.set s0 (Int.toNat ((nth q (Int.toNat (dn ((q.length : Int) - 1) k0))).2.1)) true))) else (bif (((nth q (Int.toNat (dn ((q.length : Int) - 1) k0))).1 == (6 : Int)) || ((nth q (Int.toNat (dn ((q.length : Int) - 1) k0))).1 == (7 : Int))) then (.next (List.set (List.set s0 (Int.toNat ((nth q (Int.toNat (dn ((q.length : Int) - 1) k0))).2.1)) (nth s0 (Int.toNat (dn ((q.length : Int) - 1) k0)))) (Int.toNat ((nth q (Int.toNat (dn ((q.length : Int) - 1) k0))).2.2.1)) (nth (List.set s0 (Int.toNat ((nth q (Int.toNat (dn ((q.length : Int) - 1) k0))).2.1)) (nth s0 (Int.toNat (dn ((q.length : Int) - 1) k0)))) (Int.toNat (dn ((q.length : Int) - 1) k0))))) else (.next s0)))
def specNegatedNodes_e0 (_ : Nat) (s0 : (List Bool)) : (List Bool) := s0
def specNegatedNodes (q : (List NodeD)) : (List Bool) := (bif (!(specIsValidQuery q)) then [] else (Out.on (forN (specNegatedNodes_f0 q) specNegatedNodes_e0 (List.length q) 0 (List.replicate (Int.toNat (q.length : Int)) false)) (fun y0 => y0)))
theorem specNegatedNodes_a (q : (List NodeD)) : ACalls Tryz.prog 233 [.h q] (.o 0 (specNegatedNodes q)) := by
 refine acalls_of (tt := tt) tt_ok Tryz.func233 (fn := Tryz.f233) rfl (by unfold FnOk; kernel_rfl) (Nat.le_of_ble_eq_true rfl) fun w0 F0 => ?_
 refine awp_seq ?_
 refine rk tt_ok [(2, .e 0)] [] [] [] [] (o0) ?_
 refine awp_seq ?_
 refine awp_seq ?_
 refine rk tt_ok [(9, .b (!(specIsValidQuery q)))] [] [] [] [(1, .val (.b (specIsValidQuery q)))] (o1 (ob_call (specIsValidQuery_a q))) ?_
 refine ck (!(specIsValidQuery q)) (fun h1 => ?_) (fun h1 => ?_)
 ·
  refine awp_seq ?_
  refine rk tt_ok [(2, .one (.slc (.own true 640) 1 []))] [2, 9] [] [] [] (o0) ?_
  refine awp_ret ?_
  exact pret [] (congrArg (fun z => (.o 0 z : AV)) (show specNegatedNodes q = [] from bif_t h1 (rfl)).symm)
 ·
  have h1n : (specIsValidQuery q) = true := bnot_f h1
  refine awp_skip ?_
  refine awp_seq ?_
  refine wdT 0 0 .sh q (fun hw2 => ?_)
  have hl3 : List.length q ≤ 1073741824 := wide_len (hw2)
  refine rk tt_ok [(3, .one (.slc (.own true 832) 1 (List.replicate (Int.toNat (q.length : Int)) [.b false])))] [9] [] [] [(1, .val (.i (q.length : Int)))] (o2 (ob_eq (av_len q)) (o1 (ob_rng (lo := 0) (hi := (q.length : Int)) (n := 1073741824) (⟨by omega, by omega, by omega⟩)))) ?_
  refine eqn [(3, .o 832 (List.replicate (Int.toNat (q.length : Int)) false))] [3] [] [] (by rw [show (List.replicate (Int.toNat (q.length : Int)) [.b false]) = (eL (List.replicate (Int.toNat (q.length : Int)) false)) from mk_eL _ false]; first | done | kernel_rfl) ?_
  refine awp_seq ?_
  refine awp_seq ?_
  refine rk tt_ok [(4, .i ((q.length : Int) - 1))] [] [] [] [(1, .val (.i (q.length : Int))), (2, .val (.i ((q.length : Int) - 1)))] (o2 (ob_eq (av_len q)) (o1 (ob_eq (av_i (IntWalk.i64_in ((q.length : Int) - 1) (by omega)))))) ?_
  refine blk (fun (k0 : Nat) (s0 : (List Bool)) => [(3, .o 832 s0), (4, .i (dn ((q.length : Int) - 1) k0))]) [3, 4] (fun k0 s0 => []) [] (fun (y0 : (List Bool)) => [(3, .o 832 y0)]) [0, 3, 4] (fun y0 => []) [] (fun (k0 : Nat) (s0 : (List Bool)) => (forN (specNegatedNodes_f0 q) specNegatedNodes_e0 (List.length q) 0 (List.replicate (Int.toNat (q.length : Int)) false)) = forN (specNegatedNodes_f0 q) specNegatedNodes_e0 ((List.length q) - k0) k0 s0 ∧ List.length s0 = (Int.toNat (q.length : Int))) (fun (y0 : (List Bool)) => (forN (specNegatedNodes_f0 q) specNegatedNodes_e0 (List.length q) 0 (List.replicate (Int.toNat (q.length : Int)) false)) = .brk y0 ∧ List.length y0 = (Int.toNat (q.length : Int))) (List.length q) (List.replicate (Int.toNat (q.length : Int)) false) (weak_fit (by kernel_rfl)) ⟨rfl, (by simp)⟩ (fun k0 s0 hk0 hI0 => ?_) (fun k0 s0 hk0 hI0 => ?_) (fun y0 hD0 => ?_)
  ·
   have hA0_0 := hI0.2
   have hdn0 := dn_eq ((q.length : Int) - 1) k0
   refine awp_seq ?_
   refine awp_seq ?_
   refine rk tt_ok [(18, .b true)] [] [] [] [(1, .val (.b true))] (o1 (ob_eq (av_bool (decide_eq_true (p := (dn ((q.length : Int) - 1) k0) ≥ (0 : Int)) (by omega))))) ?_
   refine ckT ?_
   refine awp_skip ?_
   refine awp_seq ?_
   refine awp_block ?_
   refine awp_seq ?_
   have hx4 : q[(Int.toNat (dn ((q.length : Int) - 1) k0))]? = some (nth q (Int.toNat (dn ((q.length : Int) - 1) k0))) := nth_get (by omega)
   refine rk tt_ok [(5, .p 5 0)] [18] [(5, [.i ((nth q (Int.toNat (dn ((q.length : Int) - 1) k0))).1), .i ((nth q (Int.toNat (dn ((q.length : Int) - 1) k0))).2.1), .i ((nth q (Int.toNat (dn ((q.length : Int) - 1) k0))).2.2.1), .s ((nth q (Int.toNat (dn ((q.length : Int) - 1) k0))).2.2.2.1), .i ((nth q (Int.toNat (dn ((q.length : Int) - 1) k0))).2.2.2.2.1), .i ((nth q (Int.toNat (dn ((q.length : Int) - 1) k0))).2.2.2.2.2.1), .s ((nth q (Int.toNat (dn ((q.length : Int) - 1) k0))).2.2.2.2.2.2)])] [] [(2, .row [.i ((nth q (Int.toNat (dn ((q.length : Int) - 1) k0))).1), .i ((nth q (Int.toNat (dn ((q.length : Int) - 1) k0))).2.1), .i ((nth q (Int.toNat (dn ((q.length : Int) - 1) k0))).2.2.1), .s ((nth q (Int.toNat (dn ((q.length : Int) - 1) k0))).2.2.2.1), .i ((nth q (Int.toNat (dn ((q.length : Int) - 1) k0))).2.2.2.2.1), .i ((nth q (Int.toNat (dn ((q.length : Int) - 1) k0))).2.2.2.2.2.1), .s ((nth q (Int.toNat (dn ((q.length : Int) - 1) k0))).2.2.2.2.2.2)])] (o1 (ob_elem (el_of (i := (dn ((q.length : Int) - 1) k0)) (by omega) rfl hx4))) ?_
   refine awp_seq ?_
   refine jn [(6, .b (((nth q (Int.toNat (dn ((q.length : Int) - 1) k0))).1 == (6 : Int)) || ((nth q (Int.toNat (dn ((q.length : Int) - 1) k0))).1 == (7 : Int))))] [] [] [] ((nth q (Int.toNat (dn ((q.length : Int) - 1) k0))).1 == (6 : Int)) (fun h5 => ?_) (fun h5 => ?_) ?_
   ·
    have h5k := ql_b (vq_spec h1n) (by omega) (by omega) h5; have h5m := qr_b (vq_spec h1n) (by omega) (by omega) h5
    refine rk tt_ok [(6, .b true)] [] [] [] [(2, .val (.b true))] (o1 (ob_eq (av_bool h5))) ?_
    exact ⟨rfl, weak_fit (by rw [h5]; first | done | kernel_rfl)⟩
   ·
    refine rk tt_ok [(6, .b ((nth q (Int.toNat (dn ((q.length : Int) - 1) k0))).1 == (7 : Int)))] [] [] [] [(2, .val (.b false))] (o1 (ob_eq (av_bool h5))) ?_
    exact ⟨rfl, weak_fit (by rw [h5]; first | done | kernel_rfl)⟩
   refine awp_seq ?_
   refine awp_seq ?_
   refine rk tt_ok [(35, .b ((nth q (Int.toNat (dn ((q.length : Int) - 1) k0))).1 == (5 : Int)))] [] [] [] [] (o0) ?_
   refine ck ((nth q (Int.toNat (dn ((q.length : Int) - 1) k0))).1 == (5 : Int)) (fun h6 => ?_) (fun h6 => ?_)
   ·
    have h6k := ql_a (vq_spec h1n) (by omega) (by omega) h6
    have h6d := eq_of_beq h6
    refine wdT 3 0 (.own true 832) s0 (fun hw8 => ?_)
    have hl9 : List.length s0 ≤ 1073741824 := wide_len (hw8)
    have hx7 : s0[(Int.toNat ((nth q (Int.toNat (dn ((q.length : Int) - 1) k0))).2.1))]? = some (nth s0 (Int.toNat ((nth q (Int.toNat (dn ((q.length : Int) - 1) k0))).2.1))) := nth_get (by omega)
    refine rk tt_ok [(3, .one (.slc (.own true 832) 1 (setRow (eL s0) (Int.toNat ((nth q (Int.toNat (dn ((q.length : Int) - 1) k0))).2.1)) 0 [.b true])))] [3, 35] [] [] [(3, .rowE [.b (nth s0 (Int.toNat ((nth q (Int.toNat (dn ((q.length : Int) - 1) k0))).2.1)))])] (o1 (ob_elem (el_of (i := (nth q (Int.toNat (dn ((q.length : Int) - 1) k0))).2.1) (by omega) rfl hx7))) ?_
    refine eqn [(3, .o 832 (List.set s0 (Int.toNat ((nth q (Int.toNat (dn ((q.length : Int) - 1) k0))).2.1)) true))] [3] [] [] (by rw [setRow_eL (y := true) hx7 rfl]; first | done | kernel_rfl) ?_
    refine awp_seq ?_
    refine rk tt_ok [(40, .b (((nth q (Int.toNat (dn ((q.length : Int) - 1) k0))).1 == (6 : Int)) || ((nth q (Int.toNat (dn ((q.length : Int) - 1) k0))).1 == (7 : Int))))] [6] [] [] [] (o0) ?_
    refine ck (((nth q (Int.toNat (dn ((q.length : Int) - 1) k0))).1 == (6 : Int)) || ((nth q (Int.toNat (dn ((q.length : Int) - 1) k0))).1 == (7 : Int))) (fun h10 => ?_) (fun h10 => ?_)
    ·
     have h10k := qlr_bc (vq_spec h1n) (by omega) (by omega) h10
     refine awp_seq ?_
     refine wdT 3 0 (.own true 832) (List.set s0 (Int.toNat ((nth q (Int.toNat (dn ((q.length : Int) - 1) k0))).2.1)) true) (fun hw12 => ?_)
     have hl13 : List.length (List.set s0 (Int.toNat ((nth q (Int.toNat (dn ((q.length : Int) - 1) k0))).2.1)) true) ≤ 1073741824 := wide_len (hw12)
     have hx11 : (List.set s0 (Int.toNat ((nth q (Int.toNat (dn ((q.length : Int) - 1) k0))).2.1)) true)[(Int.toNat (dn ((q.length : Int) - 1) k0))]? = some (nth (List.set s0 (Int.toNat ((nth q (Int.toNat (dn ((q.length : Int) - 1) k0))).2.1)) true) (Int.toNat (dn ((q.length : Int) - 1) k0))) := nth_get (by first | omega | (simp only [List.length_set]; omega))
     have hx14 : (List.set s0 (Int.toNat ((nth q (Int.toNat (dn ((q.length : Int) - 1) k0))).2.1)) true)[(Int.toNat ((nth q (Int.toNat (dn ((q.length : Int) - 1) k0))).2.1))]? = some (nth (List.set s0 (Int.toNat ((nth q (Int.toNat (dn ((q.length : Int) - 1) k0))).2.1)) true) (Int.toNat ((nth q (Int.toNat (dn ((q.length : Int) - 1) k0))).2.1))) := nth_get (by first | omega | (simp only [List.length_set]; omega))
     refine rd' tt_ok tt_mx [(3, .one (.slc (.own true 832) 1 (setRow (eL (List.set s0 (Int.toNat ((nth q (Int.toNat (dn ((q.length : Int) - 1) k0))).2.1)) true)) (Int.toNat ((nth q (Int.toNat (dn ((q.length : Int) - 1) k0))).2.1)) 0 [.b (nth (List.set s0 (Int.toNat ((nth q (Int.toNat (dn ((q.length : Int) - 1) k0))).2.1)) true) (Int.toNat (dn ((q.length : Int) - 1) k0)))])))] [3, 40] [] [] [(5, .rowE [.b (nth (List.set s0 (Int.toNat ((nth q (Int.toNat (dn ((q.length : Int) - 1) k0))).2.1)) true) (Int.toNat (dn ((q.length : Int) - 1) k0)))]), (7, .rowE [.b (nth (List.set s0 (Int.toNat ((nth q (Int.toNat (dn ((q.length : Int) - 1) k0))).2.1)) true) (Int.toNat ((nth q (Int.toNat (dn ((q.length : Int) - 1) k0))).2.1)))])] (o2 (ob_elem (el_of (i := (dn ((q.length : Int) - 1) k0)) (by omega) rfl hx11)) (o1 (ob_elem (el_of (i := (nth q (Int.toNat (dn ((q.length : Int) - 1) k0))).2.1) (by omega) rfl hx14)))) ?_
     refine eqn [(3, .o 832 (List.set (List.set s0 (Int.toNat ((nth q (Int.toNat (dn ((q.length : Int) - 1) k0))).2.1)) true) (Int.toNat ((nth q (Int.toNat (dn ((q.length : Int) - 1) k0))).2.1)) (nth (List.set s0 (Int.toNat ((nth q (Int.toNat (dn ((q.length : Int) - 1) k0))).2.1)) true) (Int.toNat (dn ((q.length : Int) - 1) k0)))))] [3] [] [] (by rw [setRow_eL (y := (nth (List.set s0 (Int.toNat ((nth q (Int.toNat (dn ((q.length : Int) - 1) k0))).2.1)) true) (Int.toNat (dn ((q.length : Int) - 1) k0)))) hx14 rfl]; first | done | kernel_rfl) ?_
     refine wdT 3 0 (.own true 832) (List.set (List.set s0 (Int.toNat ((nth q (Int.toNat (dn ((q.length : Int) - 1) k0))).2.1)) true) (Int.toNat ((nth q (Int.toNat (dn ((q.length : Int) - 1) k0))).2.1)) (nth (List.set s0 (Int.toNat ((nth q (Int.toNat (dn ((q.length : Int) - 1) k0))).2.1)) true) (Int.toNat (dn ((q.length : Int) - 1) k0)))) (fun hw16 => ?_)
     have hl17 : List.length (List.set (List.set s0 (Int.toNat ((nth q (Int.toNat (dn ((q.length : Int) - 1) k0))).2.1)) true) (Int.toNat ((nth q (Int.toNat (dn ((q.length : Int) - 1) k0))).2.1)) (nth (List.set s0 (Int.toNat ((nth q (Int.toNat (dn ((q.length : Int) - 1) k0))).2.1)) true) (Int.toNat (dn ((q.length : Int) - 1) k0)))) ≤ 1073741824 := wide_len (hw16)
     have hx15 : (List.set (List.set s0 (Int.toNat ((nth q (Int.toNat (dn ((q.length : Int) - 1) k0))).2.1)) true) (Int.toNat ((nth q (Int.toNat (dn ((q.length : Int) - 1) k0))).2.1)) (nth (List.set s0 (Int.toNat ((nth q (Int.toNat (dn ((q.length : Int) - 1) k0))).2.1)) true) (Int.toNat (dn ((q.length : Int) - 1) k0))))[(Int.toNat (dn ((q.length : Int) - 1) k0))]? = some (nth (List.set (List.set s0 (Int.toNat ((nth q (Int.toNat (dn ((q.length : Int) - 1) k0))).2.1)) true) (Int.toNat ((nth q (Int.toNat (dn ((q.length : Int) - 1) k0))).2.1)) (nth (List.set s0 (Int.toNat ((nth q (Int.toNat (dn ((q.length : Int) - 1) k0))).2.1)) true) (Int.toNat (dn ((q.length : Int) - 1) k0)))) (Int.toNat (dn ((q.length : Int) - 1) k0))) := nth_get (by first | omega | (simp only [List.length_set]; omega))
     have hx18 : (List.set (List.set s0 (Int.toNat ((nth q (Int.toNat (dn ((q.length : Int) - 1) k0))).2.1)) true) (Int.toNat ((nth q (Int.toNat (dn ((q.length : Int) - 1) k0))).2.1)) (nth (List.set s0 (Int.toNat ((nth q (Int.toNat (dn ((q.length : Int) - 1) k0))).2.1)) true) (Int.toNat (dn ((q.length : Int) - 1) k0))))[(Int.toNat ((nth q (Int.toNat (dn ((q.length : Int) - 1) k0))).2.2.1))]? = some (nth (List.set (List.set s0 (Int.toNat ((nth q (Int.toNat (dn ((q.length : Int) - 1) k0))).2.1)) true) (Int.toNat ((nth q (Int.toNat (dn ((q.length : Int) - 1) k0))).2.1)) (nth (List.set s0 (Int.toNat ((nth q (Int.toNat (dn ((q.length : Int) - 1) k0))).2.1)) true) (Int.toNat (dn ((q.length : Int) - 1) k0)))) (Int.toNat ((nth q (Int.toNat (dn ((q.length : Int) - 1) k0))).2.2.1))) := nth_get (by first | omega | (simp only [List.length_set]; omega))
     refine rd' tt_ok tt_mx [(3, .one (.slc (.own true 832) 1 (setRow (eL (List.set (List.set s0 (Int.toNat ((nth q (Int.toNat (dn ((q.length : Int) - 1) k0))).2.1)) true) (Int.toNat ((nth q (Int.toNat (dn ((q.length : Int) - 1) k0))).2.1)) (nth (List.set s0 (Int.toNat ((nth q (Int.toNat (dn ((q.length : Int) - 1) k0))).2.1)) true) (Int.toNat (dn ((q.length : Int) - 1) k0))))) (Int.toNat ((nth q (Int.toNat (dn ((q.length : Int) - 1) k0))).2.2.1)) 0 [.b (nth (List.set (List.set s0 (Int.toNat ((nth q (Int.toNat (dn ((q.length : Int) - 1) k0))).2.1)) true) (Int.toNat ((nth q (Int.toNat (dn ((q.length : Int) - 1) k0))).2.1)) (nth (List.set s0 (Int.toNat ((nth q (Int.toNat (dn ((q.length : Int) - 1) k0))).2.1)) true) (Int.toNat (dn ((q.length : Int) - 1) k0)))) (Int.toNat (dn ((q.length : Int) - 1) k0)))])))] [3, 5] [] [5] [(5, .rowE [.b (nth (List.set (List.set s0 (Int.toNat ((nth q (Int.toNat (dn ((q.length : Int) - 1) k0))).2.1)) true) (Int.toNat ((nth q (Int.toNat (dn ((q.length : Int) - 1) k0))).2.1)) (nth (List.set s0 (Int.toNat ((nth q (Int.toNat (dn ((q.length : Int) - 1) k0))).2.1)) true) (Int.toNat (dn ((q.length : Int) - 1) k0)))) (Int.toNat (dn ((q.length : Int) - 1) k0)))]), (7, .rowE [.b (nth (List.set (List.set s0 (Int.toNat ((nth q (Int.toNat (dn ((q.length : Int) - 1) k0))).2.1)) true) (Int.toNat ((nth q (Int.toNat (dn ((q.length : Int) - 1) k0))).2.1)) (nth (List.set s0 (Int.toNat ((nth q (Int.toNat (dn ((q.length : Int) - 1) k0))).2.1)) true) (Int.toNat (dn ((q.length : Int) - 1) k0)))) (Int.toNat ((nth q (Int.toNat (dn ((q.length : Int) - 1) k0))).2.2.1)))])] (o2 (ob_elem (el_of (i := (dn ((q.length : Int) - 1) k0)) (by omega) rfl hx15)) (o1 (ob_elem (el_of (i := (nth q (Int.toNat (dn ((q.length : Int) - 1) k0))).2.2.1) (by omega) rfl hx18)))) ?_
     refine eqn [(3, .o 832 (List.set (List.set (List.set s0 (Int.toNat ((nth q (Int.toNat (dn ((q.length : Int) - 1) k0))).2.1)) true) (Int.toNat ((nth q (Int.toNat (dn ((q.length : Int) - 1) k0))).2.1)) (nth (List.set s0 (Int.toNat ((nth q (Int.toNat (dn ((q.length : Int) - 1) k0))).2.1)) true) (Int.toNat (dn ((q.length : Int) - 1) k0)))) (Int.toNat ((nth q (Int.toNat (dn ((q.length : Int) - 1) k0))).2.2.1)) (nth (List.set (List.set s0 (Int.toNat ((nth q (Int.toNat (dn ((q.length : Int) - 1) k0))).2.1)) true) (Int.toNat ((nth q (Int.toNat (dn ((q.length : Int) - 1) k0))).2.1)) (nth (List.set s0 (Int.toNat ((nth q (Int.toNat (dn ((q.length : Int) - 1) k0))).2.1)) true) (Int.toNat (dn ((q.length : Int) - 1) k0)))) (Int.toNat (dn ((q.length : Int) - 1) k0)))))] [3] [] [] (by rw [setRow_eL (y := (nth (List.set (List.set s0 (Int.toNat ((nth q (Int.toNat (dn ((q.length : Int) - 1) k0))).2.1)) true) (Int.toNat ((nth q (Int.toNat (dn ((q.length : Int) - 1) k0))).2.1)) (nth (List.set s0 (Int.toNat ((nth q (Int.toNat (dn ((q.length : Int) - 1) k0))).2.1)) true) (Int.toNat (dn ((q.length : Int) - 1) k0)))) (Int.toNat (dn ((q.length : Int) - 1) k0)))) hx18 rfl]; first | done | kernel_rfl) ?_
     refine rk tt_ok [(4, .i (dn ((q.length : Int) - 1) (k0 + 1)))] [4] [] [] [(1, .val (.i (dn ((q.length : Int) - 1) (k0 + 1))))] (o1 (ob_eq (show .i (IntKind.i64.wrap ((dn ((q.length : Int) - 1) k0) - 1)) = .i (dn ((q.length : Int) - 1) (k0 + 1)) from av_i (show IntKind.i64.wrap ((dn ((q.length : Int) - 1) k0) - 1) = (dn ((q.length : Int) - 1) (k0 + 1)) from IntWalk.i64_in ((dn ((q.length : Int) - 1) k0) - 1) (by omega))))) ?_
     exact Exists.intro (List.set (List.set (List.set s0 (Int.toNat ((nth q (Int.toNat (dn ((q.length : Int) - 1) k0))).2.1)) true) (Int.toNat ((nth q (Int.toNat (dn ((q.length : Int) - 1) k0))).2.1)) (nth (List.set s0 (Int.toNat ((nth q (Int.toNat (dn ((q.length : Int) - 1) k0))).2.1)) true) (Int.toNat (dn ((q.length : Int) - 1) k0)))) (Int.toNat ((nth q (Int.toNat (dn ((q.length : Int) - 1) k0))).2.2.1)) (nth (List.set (List.set s0 (Int.toNat ((nth q (Int.toNat (dn ((q.length : Int) - 1) k0))).2.1)) true) (Int.toNat ((nth q (Int.toNat (dn ((q.length : Int) - 1) k0))).2.1)) (nth (List.set s0 (Int.toNat ((nth q (Int.toNat (dn ((q.length : Int) - 1) k0))).2.1)) true) (Int.toNat (dn ((q.length : Int) - 1) k0)))) (Int.toNat (dn ((q.length : Int) - 1) k0)))) (And.intro (weak_fit (by kernel_rfl)) ⟨forN_next hk0 (bif_t h6 (bif_t h10 (rfl))) hI0.1, (by first | omega | (simp only [List.length_set]; omega))⟩)
    ·
     have h10l : (((nth q (Int.toNat (dn ((q.length : Int) - 1) k0))).1 == (6 : Int))) = false := or_l h10
     have h10ld := ne_of_beq h10l
     have h10r : (((nth q (Int.toNat (dn ((q.length : Int) - 1) k0))).1 == (7 : Int))) = false := or_r h10
     have h10rd := ne_of_beq h10r
     refine awp_skip ?_
     refine rk tt_ok [(4, .i (dn ((q.length : Int) - 1) (k0 + 1)))] [4, 5, 40] [] [5] [(1, .val (.i (dn ((q.length : Int) - 1) (k0 + 1))))] (o1 (ob_eq (show .i (IntKind.i64.wrap ((dn ((q.length : Int) - 1) k0) - 1)) = .i (dn ((q.length : Int) - 1) (k0 + 1)) from av_i (show IntKind.i64.wrap ((dn ((q.length : Int) - 1) k0) - 1) = (dn ((q.length : Int) - 1) (k0 + 1)) from IntWalk.i64_in ((dn ((q.length : Int) - 1) k0) - 1) (by omega))))) ?_
     exact Exists.intro (List.set s0 (Int.toNat ((nth q (Int.toNat (dn ((q.length : Int) - 1) k0))).2.1)) true) (And.intro (weak_fit (by kernel_rfl)) ⟨forN_next hk0 (bif_t h6 (bif_f h10 (rfl))) hI0.1, (by first | omega | (simp only [List.length_set]; omega))⟩)
   ·
    have h6d := ne_of_beq h6
    refine awp_skip ?_
    refine awp_seq ?_
    refine rk tt_ok [(40, .b (((nth q (Int.toNat (dn ((q.length : Int) - 1) k0))).1 == (6 : Int)) || ((nth q (Int.toNat (dn ((q.length : Int) - 1) k0))).1 == (7 : Int))))] [6, 35] [] [] [] (o0) ?_
    refine ck (((nth q (Int.toNat (dn ((q.length : Int) - 1) k0))).1 == (6 : Int)) || ((nth q (Int.toNat (dn ((q.length : Int) - 1) k0))).1 == (7 : Int))) (fun h19 => ?_) (fun h19 => ?_)
    ·
     have h19k := qlr_bc (vq_spec h1n) (by omega) (by omega) h19
     refine awp_seq ?_
     refine wdT 3 0 (.own true 832) s0 (fun hw21 => ?_)
     have hl22 : List.length s0 ≤ 1073741824 := wide_len (hw21)
     have hx20 : s0[(Int.toNat (dn ((q.length : Int) - 1) k0))]? = some (nth s0 (Int.toNat (dn ((q.length : Int) - 1) k0))) := nth_get (by omega)
     have hx23 : s0[(Int.toNat ((nth q (Int.toNat (dn ((q.length : Int) - 1) k0))).2.1))]? = some (nth s0 (Int.toNat ((nth q (Int.toNat (dn ((q.length : Int) - 1) k0))).2.1))) := nth_get (by omega)
     refine rd' tt_ok tt_mx [(3, .one (.slc (.own true 832) 1 (setRow (eL s0) (Int.toNat ((nth q (Int.toNat (dn ((q.length : Int) - 1) k0))).2.1)) 0 [.b (nth s0 (Int.toNat (dn ((q.length : Int) - 1) k0)))])))] [3, 40] [] [] [(5, .rowE [.b (nth s0 (Int.toNat (dn ((q.length : Int) - 1) k0)))]), (7, .rowE [.b (nth s0 (Int.toNat ((nth q (Int.toNat (dn ((q.length : Int) - 1) k0))).2.1)))])] (o2 (ob_elem (el_of (i := (dn ((q.length : Int) - 1) k0)) (by omega) rfl hx20)) (o1 (ob_elem (el_of (i := (nth q (Int.toNat (dn ((q.length : Int) - 1) k0))).2.1) (by omega) rfl hx23)))) ?_
     refine eqn [(3, .o 832 (List.set s0 (Int.toNat ((nth q (Int.toNat (dn ((q.length : Int) - 1) k0))).2.1)) (nth s0 (Int.toNat (dn ((q.length : Int) - 1) k0)))))] [3] [] [] (by rw [setRow_eL (y := (nth s0 (Int.toNat (dn ((q.length : Int) - 1) k0)))) hx23 rfl]; first | done | kernel_rfl) ?_
     refine wdT 3 0 (.own true 832) (List.set s0 (Int.toNat ((nth q (Int.toNat (dn ((q.length : Int) - 1) k0))).2.1)) (nth s0 (Int.toNat (dn ((q.length : Int) - 1) k0)))) (fun hw25 => ?_)
     have hl26 : List.length (List.set s0 (Int.toNat ((nth q (Int.toNat (dn ((q.length : Int) - 1) k0))).2.1)) (nth s0 (Int.toNat (dn ((q.length : Int) - 1) k0)))) ≤ 1073741824 := wide_len (hw25)
     have hx24 : (List.set s0 (Int.toNat ((nth q (Int.toNat (dn ((q.length : Int) - 1) k0))).2.1)) (nth s0 (Int.toNat (dn ((q.length : Int) - 1) k0))))[(Int.toNat (dn ((q.length : Int) - 1) k0))]? = some (nth (List.set s0 (Int.toNat ((nth q (Int.toNat (dn ((q.length : Int) - 1) k0))).2.1)) (nth s0 (Int.toNat (dn ((q.length : Int) - 1) k0)))) (Int.toNat (dn ((q.length : Int) - 1) k0))) := nth_get (by first | omega | (simp only [List.length_set]; omega))
     have hx27 : (List.set s0 (Int.toNat ((nth q (Int.toNat (dn ((q.length : Int) - 1) k0))).2.1)) (nth s0 (Int.toNat (dn ((q.length : Int) - 1) k0))))[(Int.toNat ((nth q (Int.toNat (dn ((q.length : Int) - 1) k0))).2.2.1))]? = some (nth (List.set s0 (Int.toNat ((nth q (Int.toNat (dn ((q.length : Int) - 1) k0))).2.1)) (nth s0 (Int.toNat (dn ((q.length : Int) - 1) k0)))) (Int.toNat ((nth q (Int.toNat (dn ((q.length : Int) - 1) k0))).2.2.1))) := nth_get (by first | omega | (simp only [List.length_set]; omega))
     refine rd' tt_ok tt_mx [(3, .one (.slc (.own true 832) 1 (setRow (eL (List.set s0 (Int.toNat ((nth q (Int.toNat (dn ((q.length : Int) - 1) k0))).2.1)) (nth s0 (Int.toNat (dn ((q.length : Int) - 1) k0))))) (Int.toNat ((nth q (Int.toNat (dn ((q.length : Int) - 1) k0))).2.2.1)) 0 [.b (nth (List.set s0 (Int.toNat ((nth q (Int.toNat (dn ((q.length : Int) - 1) k0))).2.1)) (nth s0 (Int.toNat (dn ((q.length : Int) - 1) k0)))) (Int.toNat (dn ((q.length : Int) - 1) k0)))])))] [3, 5] [] [5] [(5, .rowE [.b (nth (List.set s0 (Int.toNat ((nth q (Int.toNat (dn ((q.length : Int) - 1) k0))).2.1)) (nth s0 (Int.toNat (dn ((q.length : Int) - 1) k0)))) (Int.toNat (dn ((q.length : Int) - 1) k0)))]), (7, .rowE [.b (nth (List.set s0 (Int.toNat ((nth q (Int.toNat (dn ((q.length : Int) - 1) k0))).2.1)) (nth s0 (Int.toNat (dn ((q.length : Int) - 1) k0)))) (Int.toNat ((nth q (Int.toNat (dn ((q.length : Int) - 1) k0))).2.2.1)))])] (o2 (ob_elem (el_of (i := (dn ((q.length : Int) - 1) k0)) (by omega) rfl hx24)) (o1 (ob_elem (el_of (i := (nth q (Int.toNat (dn ((q.length : Int) - 1) k0))).2.2.1) (by omega) rfl hx27)))) ?_
     refine eqn [(3, .o 832 (List.set (List.set s0 (Int.toNat ((nth q (Int.toNat (dn ((q.length : Int) - 1) k0))).2.1)) (nth s0 (Int.toNat (dn ((q.length : Int) - 1) k0)))) (Int.toNat ((nth q (Int.toNat (dn ((q.length : Int) - 1) k0))).2.2.1)) (nth (List.set s0 (Int.toNat ((nth q (Int.toNat (dn ((q.length : Int) - 1) k0))).2.1)) (nth s0 (Int.toNat (dn ((q.length : Int) - 1) k0)))) (Int.toNat (dn ((q.length : Int) - 1) k0)))))] [3] [] [] (by rw [setRow_eL (y := (nth (List.set s0 (Int.toNat ((nth q (Int.toNat (dn ((q.length : Int) - 1) k0))).2.1)) (nth s0 (Int.toNat (dn ((q.length : Int) - 1) k0)))) (Int.toNat (dn ((q.length : Int) - 1) k0)))) hx27 rfl]; first | done | kernel_rfl) ?_
     refine rk tt_ok [(4, .i (dn ((q.length : Int) - 1) (k0 + 1)))] [4] [] [] [(1, .val (.i (dn ((q.length : Int) - 1) (k0 + 1))))] (o1 (ob_eq (show .i (IntKind.i64.wrap ((dn ((q.length : Int) - 1) k0) - 1)) = .i (dn ((q.length : Int) - 1) (k0 + 1)) from av_i (show IntKind.i64.wrap ((dn ((q.length : Int) - 1) k0) - 1) = (dn ((q.length : Int) - 1) (k0 + 1)) from IntWalk.i64_in ((dn ((q.length : Int) - 1) k0) - 1) (by omega))))) ?_
     exact Exists.intro (List.set (List.set s0 (Int.toNat ((nth q (Int.toNat (dn ((q.length : Int) - 1) k0))).2.1)) (nth s0 (Int.toNat (dn ((q.length : Int) - 1) k0)))) (Int.toNat ((nth q (Int.toNat (dn ((q.length : Int) - 1) k0))).2.2.1)) (nth (List.set s0 (Int.toNat ((nth q (Int.toNat (dn ((q.length : Int) - 1) k0))).2.1)) (nth s0 (Int.toNat (dn ((q.length : Int) - 1) k0)))) (Int.toNat (dn ((q.length : Int) - 1) k0)))) (And.intro (weak_fit (by kernel_rfl)) ⟨forN_next hk0 (bif_f h6 (bif_t h19 (rfl))) hI0.1, (by first | omega | (simp only [List.length_set]; omega))⟩)
    ·
     have h19l : (((nth q (Int.toNat (dn ((q.length : Int) - 1) k0))).1 == (6 : Int))) = false := or_l h19
     have h19ld := ne_of_beq h19l
     have h19r : (((nth q (Int.toNat (dn ((q.length : Int) - 1) k0))).1 == (7 : Int))) = false := or_r h19
     have h19rd := ne_of_beq h19r
     refine awp_skip ?_
     refine rk tt_ok [(4, .i (dn ((q.length : Int) - 1) (k0 + 1)))] [4, 5, 40] [] [5] [(1, .val (.i (dn ((q.length : Int) - 1) (k0 + 1))))] (o1 (ob_eq (show .i (IntKind.i64.wrap ((dn ((q.length : Int) - 1) k0) - 1)) = .i (dn ((q.length : Int) - 1) (k0 + 1)) from av_i (show IntKind.i64.wrap ((dn ((q.length : Int) - 1) k0) - 1) = (dn ((q.length : Int) - 1) (k0 + 1)) from IntWalk.i64_in ((dn ((q.length : Int) - 1) k0) - 1) (by omega))))) ?_
     exact Exists.intro s0 (And.intro (weak_fit (by kernel_rfl)) ⟨forN_next hk0 (bif_f h6 (bif_f h19 (rfl))) hI0.1, (by first | omega | (simp only [List.length_set]; omega))⟩)
  ·
   have hA0_0 := hI0.2
   have hdn0 := dn_eq ((q.length : Int) - 1) k0
   refine awp_seq ?_
   refine awp_seq ?_
   refine rk tt_ok [(18, .b false)] [] [] [] [(1, .val (.b false))] (o1 (ob_eq (av_bool (decide_eq_false (p := (dn ((q.length : Int) - 1) k0) ≥ (0 : Int)) (by omega))))) ?_
   refine ckF ?_
   refine awp_exit ?_
   exact Exists.intro s0 (And.intro (weak_fit (by kernel_rfl)) ⟨forN_end hk0 (rfl) hI0.1, by first | omega | (simp only [List.length_set]; omega)⟩)
  ·
   have hD0_0 := hD0.2
   refine awp_seq ?_
   refine rk tt_ok [(2, .o 832 y0)] [2, 3] [] [] [] (o0) ?_
   refine awp_ret ?_
   exact pret [] (congrArg (fun z => (.o 0 z : AV)) (show specNegatedNodes q = y0 from bif_f h1 (on_b hD0.1 (rfl))).symm)
end Go.Proofs.YtnhmnfmhnepjmaaGreat
