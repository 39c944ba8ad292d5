/- What functions compute, and that they do (printed by am2.py): each function as a Lean function, then its contract. -/
import Derived.Test.YtnhmnfmhnepjmaaGreatDpb
import Derived.KernelRfl
set_option linter.unusedVariables false
set_option linter.unusedSimpArgs false
namespace Go.Proofs.YtnhmnfmhnepjmaaGreat
open Go.RowKit
open GoE (enc wide)
def implnamesDir (n : NodeD) : Bool := ((n.1 == (8 : Int)) || (n.1 == (9 : Int)))
theorem implnamesDir_a (n : NodeD) : ACalls Tryz.prog 228 [.a [.i n.1, .i n.2.1, .i n.2.2.1, .s n.2.2.2.1, .i n.2.2.2.2.1, .i n.2.2.2.2.2.1, .s n.2.2.2.2.2.2]] (.b (implnamesDir n)) := by
 refine acalls_of (tt := tt) tt_ok Tryz.func228 (fn := Tryz.f228) rfl (by unfold FnOk; kernel_rfl) (Nat.le_of_ble_eq_true rfl) fun w0 F0 => ?_
 refine awp_seq ?_
 refine rk tt_ok [(1, .p 1 0), (2, .b false)] [0] [(1, [.i n.1, .i n.2.1, .i n.2.2.1, .s n.2.2.2.1, .i n.2.2.2.2.1, .i n.2.2.2.2.2.1, .s n.2.2.2.2.2.2])] [] [] (o0) ?_
 refine awp_seq ?_
 refine jn [(2, .b ((n.1 == (8 : Int)) || (n.1 == (9 : Int))))] [1, 2] [] [1] (n.1 == (8 : Int)) (fun h1 => ?_) (fun h1 => ?_) ?_
 ·
  refine rk tt_ok [(2, .b true)] [1, 2] [] [1] [(2, .val (.b true))] (o1 (ob_eq (av_bool h1))) ?_
  exact ⟨rfl, weak_fit (by rw [h1]; first | done | kernel_rfl)⟩
 ·
  refine rk tt_ok [(2, .b (n.1 == (9 : Int)))] [1, 2] [] [1] [(2, .val (.b false))] (o1 (ob_eq (av_bool h1))) ?_
  exact ⟨rfl, weak_fit (by rw [h1]; first | done | kernel_rfl)⟩
 refine awp_ret ?_
 exact pret [] (congrArg (fun z => (.b z : AV)) (show implnamesDir n = ((n.1 == (8 : Int)) || (n.1 == (9 : Int))) from rfl).symm)
def implsortedOnce (l : (List ByteArray)) : (List ByteArray) := compS (sortS l)
theorem implsortedOnce_a (l : (List ByteArray)) : ACalls Tryz.prog 229 [.h l] (.h (implsortedOnce l)) := by
 refine acalls_of (tt := tt) tt_ok Tryz.func229 (fn := Tryz.f229) rfl (by unfold FnOk; kernel_rfl) (Nat.le_of_ble_eq_true rfl) fun w0 F0 => ?_
 refine awp_seq ?_
 refine rk tt_ok [(2, .e 0)] [] [] [] [] (o0) ?_
 refine awp_seq ?_
 refine rk tt_ok [(3, .o 320 l)] [0] [] [] [(1, .val (.o 0 l))] (o1 (ob_call (cloneString_a l))) ?_
 refine awp_seq ?_
 refine awp_demotes [320] rfl ?_
 refine rk tt_ok [(3, .one (.slc (.own false 320) 1 (putR (eL l) 0 4294967296 (List.flatten (eL (sortS l))))))] [3] [] [] [(1, .take false true (eL (sortS l)))] (o1 (ob_take (sortS_a l))) ?_
 refine eqn [(3, .q 320 (sortS l))] [3] [] [] (by rw [putR_all (fun _ => rfl) (sortS_len _)]; first | done | kernel_rfl) ?_
 refine awp_seq ?_
 refine rk tt_ok [(2, .q 576 (compS (sortS l)))] [2, 3] [] [] [(1, .take false false (eL (compS (sortS l))))] (o1 (ob_take (compS_a (sortS l)))) ?_
 refine awp_ret ?_
 exact pret [576] (congrArg (fun z => (.h z : AV)) (show implsortedOnce l = compS (sortS l) from rfl).symm)
def impldepsBelow_f0 (q : (List NodeD)) (negated : Bool) (k0 : Nat) (a0 : Bool) (s0 : (List ByteArray)) : Rd ((List ByteArray)) ((List ByteArray)) ((List ByteArray)) := (bif ((implnamesDir (nth q k0)) && (a0 == negated)) then (.next (s0 ++ [(nth q k0).2.2.2.1])) else (.next s0))
def impldepsBelow_e0 (_ : Nat) (s0 : (List ByteArray)) : (List ByteArray) := s0
def impldepsBelow (q : (List NodeD)) (negated : Bool) : (List ByteArray) := (Out.on (forL (impldepsBelow_f0 q negated) impldepsBelow_e0 (implNegatedNodes q) 0 []) (fun y0 => (implsortedOnce y0)))
theorem impldepsBelow_a (q : (List NodeD)) (negated : Bool) : ACalls Tryz.prog 217 [.h q, .b negated] (.h (impldepsBelow q negated)) := by
 refine acalls_of (tt := tt) tt_ok Tryz.func217 (fn := Tryz.f217) rfl (by unfold FnOk; kernel_rfl) (Nat.le_of_ble_eq_true rfl) fun w0 F0 => ?_
 have hnl := negated_len q
 refine awp_seq ?_
 refine rk tt_ok [(4, .e 0)] [] [] [] [] (o0) ?_
 refine awp_seq ?_
 refine rk tt_ok [(5, .one (.slc (.own true 512) 1 []))] [] [] [] [] (o0) ?_
 refine awp_seq ?_
 refine awp_seq ?_
 refine rk tt_ok [(10, .o 640 (implNegatedNodes q)), (11, .i ((implNegatedNodes q).length : Int)), (12, .i 0)] [] [] [] [(1, .val (.o 0 (implNegatedNodes q))), (2, .val (.i ((implNegatedNodes q).length : Int)))] (o2 (ob_call (implNegatedNodes_a q)) (o1 (ob_eq (av_len (implNegatedNodes q))))) ?_
 refine wdT 10 0 (.own true 640) (implNegatedNodes q) (fun hw1 => ?_)
 have hl2 : List.length (implNegatedNodes q) ≤ 1073741824 := wide_len (hw1)
 refine blk (fun (k0 : Nat) (s0 : (List ByteArray)) => [(5, .o 147203 s0), (12, .i ((k0 : Nat) : Int))]) [5, 12] (fun k0 s0 => []) [] (fun (y0 : (List ByteArray)) => [(5, .o 147353 y0)]) [0, 1, 5, 10, 11, 12] (fun y0 => []) [] (fun (k0 : Nat) (s0 : (List ByteArray)) => (forL (impldepsBelow_f0 q negated) impldepsBelow_e0 (implNegatedNodes q) 0 []) = forL (impldepsBelow_f0 q negated) impldepsBelow_e0 (List.drop k0 (implNegatedNodes q)) k0 s0 ∧ List.length s0 ≤ k0) (fun (y0 : (List ByteArray)) => (forL (impldepsBelow_f0 q negated) impldepsBelow_e0 (implNegatedNodes q) 0 []) = .brk y0) ((implNegatedNodes q).length) [] (weak_sf [(512, 147203)] (by kernel_rfl)) ⟨rfl, (by simp)⟩ (fun k0 s0 hk0 hI0 => ?_) (fun k0 s0 hk0 hI0 => ?_) (fun y0 hD0 => ?_)
 ·
  have hA0_0 := hI0.2
  obtain ⟨a0, hx0⟩ := get_some (l := implNegatedNodes q) (i := k0) hk0
  refine awp_seq ?_
  refine rk tt_ok [(13, .b true)] [] [] [] [(0, .val (.b true))] (o1 (ob_eq (av_bool (decide_eq_true (p := ((k0 : Nat) : Int) < ((implNegatedNodes q).length : Int)) (by omega))))) ?_
  refine awp_seq ?_
  refine ckT ?_
  refine awp_skip ?_
  refine awp_seq ?_
  refine awp_block ?_
  refine awp_seq ?_
  refine rk tt_ok [(6, .i ((k0 : Nat) : Int)), (7, .b a0)] [13] [] [] [(1, .rowE [.b a0])] (o1 (ob_elem (el_of (i := ((k0 : Nat) : Int)) (by omega) rfl hx0))) ?_
  refine awp_seq ?_
  refine jn [(26, .b ((implnamesDir (nth q k0)) && (a0 == negated)))] [7] [] [] (implnamesDir (nth q k0)) (fun h3 => ?_) (fun h3 => ?_) ?_
  ·
   refine wdT 0 0 .sh q (fun hw5 => ?_)
   have hl6 : List.length q ≤ 1073741824 := wide_len (hw5)
   have hx4 : q[k0]? = some (nth q k0) := nth_get (by omega)
   refine rk tt_ok [(26, .b (a0 == negated))] [7] [] [] [(2, .row [.i ((nth q k0).1), .i ((nth q k0).2.1), .i ((nth q k0).2.2.1), .s ((nth q k0).2.2.2.1), .i ((nth q k0).2.2.2.2.1), .i ((nth q k0).2.2.2.2.2.1), .s ((nth q k0).2.2.2.2.2.2)]), (4, .val (.b true))] (o2 (ob_elem (el_of (i := ((k0 : Nat) : Int)) (by omega) rfl hx4)) (o1 (ob_call (cb h3 (implnamesDir_a (nth q k0)))))) ?_
   exact ⟨rfl, weak_fit (by rw [h3]; first | done | kernel_rfl)⟩
  ·
   refine wdT 0 0 .sh q (fun hw8 => ?_)
   have hl9 : List.length q ≤ 1073741824 := wide_len (hw8)
   have hx7 : q[k0]? = some (nth q k0) := nth_get (by omega)
   refine rk tt_ok [(26, .b false)] [7] [] [] [(2, .row [.i ((nth q k0).1), .i ((nth q k0).2.1), .i ((nth q k0).2.2.1), .s ((nth q k0).2.2.2.1), .i ((nth q k0).2.2.2.2.1), .i ((nth q k0).2.2.2.2.2.1), .s ((nth q k0).2.2.2.2.2.2)]), (4, .val (.b false))] (o2 (ob_elem (el_of (i := ((k0 : Nat) : Int)) (by omega) rfl hx7)) (o1 (ob_call (cb h3 (implnamesDir_a (nth q k0)))))) ?_
   exact ⟨rfl, weak_fit (by rw [h3]; first | done | kernel_rfl)⟩
  refine ck ((implnamesDir (nth q k0)) && (a0 == negated)) (fun h10 => ?_) (fun h10 => ?_)
  ·
   have h10r : ((a0 == negated)) = true := and_r h10
   have h10rd := eq_of_beq h10r
   refine wdT 0 0 .sh q (fun hw12 => ?_)
   have hl13 : List.length q ≤ 1073741824 := wide_len (hw12)
   have hx11 : q[k0]? = some (nth q k0) := nth_get (by omega)
   refine wdT 5 0 (.own true 147203) s0 (fun hw14 => ?_)
   have hl15 : List.length s0 ≤ 1073741824 := wide_len (hw14)
   refine rk tt_ok [(5, .one (.slc (.own true 2176) 1 ((eL s0) ++ [[.s ((nth q k0).2.2.2.1)]])))] [5, 6, 26] [] [] [(3, .row [.i ((nth q k0).1), .i ((nth q k0).2.1), .i ((nth q k0).2.2.1), .s ((nth q k0).2.2.2.1), .i ((nth q k0).2.2.2.2.1), .i ((nth q k0).2.2.2.2.2.1), .s ((nth q k0).2.2.2.2.2.2)])] (o2 (ob_elem (el_of (i := ((k0 : Nat) : Int)) (by omega) rfl hx11)) (o1 (ob_len (len_of (eL_length s0) (eL_length [(nth q k0).2.2.2.1]) (by first | omega | (simp; omega) | simp))))) ?_
   refine eqn [(5, .o 2176 (s0 ++ [(nth q k0).2.2.2.1]))] [5] [] [] (by rw [show ((eL s0) ++ [[.s ((nth q k0).2.2.2.1)]]) = (eL (s0 ++ [(nth q k0).2.2.2.1])) from app_eL (rfl) (rfl)]; first | done | kernel_rfl) ?_
   refine rk tt_ok [(12, .i ((k0 + 1 : Nat) : Int))] [12] [] [] [(0, .val (.i ((k0 + 1 : Nat) : Int)))] (o1 (ob_eq (av_i (wrap_succ k0 (by omega))))) ?_
   exact Exists.intro (s0 ++ [(nth q k0).2.2.2.1]) (And.intro (weak_sf [(2176, 147203)] (by kernel_rfl)) ⟨forL_next hx0 (bif_t h10 (rfl)) hI0.1, by first | omega | (simp; omega) | simp⟩)
  ·
   refine awp_skip ?_
   refine rk tt_ok [(12, .i ((k0 + 1 : Nat) : Int))] [6, 12, 26] [] [] [(0, .val (.i ((k0 + 1 : Nat) : Int)))] (o1 (ob_eq (av_i (wrap_succ k0 (by omega))))) ?_
   exact Exists.intro s0 (And.intro (weak_fit (by kernel_rfl)) ⟨forL_next hx0 (bif_f h10 (rfl)) hI0.1, by first | omega | (simp; omega) | simp⟩)
 ·
  have hA0_0 := hI0.2
  refine awp_seq ?_
  refine rk tt_ok [(13, .b false)] [] [] [] [(0, .val (.b false))] (o1 (ob_eq (av_bool (decide_eq_false (p := ((k0 : Nat) : Int) < ((implNegatedNodes q).length : Int)) (by omega))))) ?_
  refine awp_seq ?_
  refine ckF ?_
  refine awp_exit ?_
  exact Exists.intro s0 (And.intro (weak_sf [(147203, 147353)] (by kernel_rfl)) (forL_end hk0 (rfl) hI0.1))
 ·
  refine awp_seq ?_
  refine rk tt_ok [(4, .h (implsortedOnce y0))] [4, 5] [] [] [(1, .val (.h (implsortedOnce y0)))] (o1 (ob_call (implsortedOnce_a y0))) ?_
  refine awp_ret ?_
  exact pret [] (congrArg (fun z => (.h z : AV)) (show impldepsBelow q negated = (implsortedOnce y0) from on_b hD0 (rfl)).symm)
def implPositiveDeps (q : (List NodeD)) : (List ByteArray) := (impldepsBelow q false)
theorem implPositiveDeps_a (q : (List NodeD)) : ACalls Tryz.prog 202 [.h q] (.h (implPositiveDeps q)) := by
 refine acalls_of (tt := tt) tt_ok Tryz.func202 (fn := Tryz.f202) rfl (by unfold FnOk; kernel_rfl) (Nat.le_of_ble_eq_true rfl) fun w0 F0 => ?_
 refine awp_seq ?_
 refine rk tt_ok [(2, .e 0)] [] [] [] [] (o0) ?_
 refine awp_seq ?_
 refine rk tt_ok [(2, .h (impldepsBelow q false))] [0, 2] [] [] [(1, .val (.h (impldepsBelow q false)))] (o1 (ob_call (impldepsBelow_a q false))) ?_
 refine awp_ret ?_
 exact pret [] (congrArg (fun z => (.h z : AV)) (show implPositiveDeps q = (impldepsBelow q false) from rfl).symm)
def implNegativeDeps (q : (List NodeD)) : (List ByteArray) := (impldepsBelow q true)
theorem implNegativeDeps_a (q : (List NodeD)) : ACalls Tryz.prog 203 [.h q] (.h (implNegativeDeps q)) := by
 refine acalls_of (tt := tt) tt_ok Tryz.func203 (fn := Tryz.f203) rfl (by unfold FnOk; kernel_rfl) (Nat.le_of_ble_eq_true rfl) fun w0 F0 => ?_
 refine awp_seq ?_
 refine rk tt_ok [(2, .e 0)] [] [] [] [] (o0) ?_
 refine awp_seq ?_
 refine rk tt_ok [(2, .h (impldepsBelow q true))] [0, 2] [] [] [(1, .val (.h (impldepsBelow q true)))] (o1 (ob_call (impldepsBelow_a q true))) ?_
 refine awp_ret ?_
 exact pret [] (congrArg (fun z => (.h z : AV)) (show implNegativeDeps q = (impldepsBelow q true) from rfl).symm)
def specl12Names_f0 (q : (List NodeD)) (under : Bool) (k0 : Nat) (a0 : Bool) (s0 : (List ByteArray)) : Rd ((List ByteArray)) ((List ByteArray)) ((List ByteArray)) := (bif ((specl01In ((nth q k0).1) 8 9) && (a0 == under)) then (.next (specl04Put s0 ((nth q k0).2.2.2.1))) else (.next s0))
def specl12Names_e0 (_ : Nat) (s0 : (List ByteArray)) : (List ByteArray) := s0
def specl12Names (q : (List NodeD)) (under : Bool) : (List ByteArray) := (Out.on (forL (specl12Names_f0 q under) specl12Names_e0 (specNegatedNodes q) 0 []) (fun y0 => y0))
theorem specl12Names_a (q : (List NodeD)) (under : Bool) : ACalls Tryz.prog 221 [.h q, .b under] (.o 0 (specl12Names q under)) := by
 refine acalls_of (tt := tt) tt_ok Tryz.func221 (fn := Tryz.f221) rfl (by unfold FnOk; kernel_rfl) (Nat.le_of_ble_eq_true rfl) fun w0 F0 => ?_
 have hnl := negated_lenS q
 refine awp_seq ?_
 refine rk tt_ok [(4, .e 0)] [] [] [] [] (o0) ?_
 refine awp_seq ?_
 refine rk tt_ok [(5, .one (.slc (.own true 512) 1 []))] [] [] [] [] (o0) ?_
 refine awp_seq ?_
 refine rk tt_ok [(6, .o 640 (specNegatedNodes q))] [] [] [] [(1, .val (.o 0 (specNegatedNodes q)))] (o1 (ob_call (specNegatedNodes_a q))) ?_
 refine awp_seq ?_
 refine awp_seq ?_
 refine rk tt_ok [(7, .i 0)] [] [] [] [] (o0) ?_
 refine wdT 6 0 (.own true 640) (specNegatedNodes q) (fun hw1 => ?_)
 have hl2 : List.length (specNegatedNodes q) ≤ 1073741824 := wide_len (hw1)
 refine blk (fun (k0 : Nat) (s0 : (List ByteArray)) => [(5, .h s0), (7, .i ((k0 : Nat) : Int))]) [5, 7] (fun k0 s0 => []) [] (fun (y0 : (List ByteArray)) => [(5, .h y0)]) [0, 1, 5, 6, 7] (fun y0 => []) [] (fun (k0 : Nat) (s0 : (List ByteArray)) => (forL (specl12Names_f0 q under) specl12Names_e0 (specNegatedNodes q) 0 []) = forL (specl12Names_f0 q under) specl12Names_e0 (List.drop k0 (specNegatedNodes q)) k0 s0 ∧ List.length s0 ≤ k0) (fun (y0 : (List ByteArray)) => (forL (specl12Names_f0 q under) specl12Names_e0 (specNegatedNodes q) 0 []) = .brk y0) ((specNegatedNodes q).length) [] (weak_gf [] [512] [] [] (by kernel_rfl)) ⟨rfl, (by simp)⟩ (fun k0 s0 hk0 hI0 => ?_) (fun k0 s0 hk0 hI0 => ?_) (fun y0 hD0 => ?_)
 ·
  have hA0_0 := hI0.2
  obtain ⟨a0, hx0⟩ := get_some (l := specNegatedNodes q) (i := k0) hk0
  refine awp_seq ?_
  refine awp_seq ?_
  refine rk tt_ok [(14, .b true)] [] [] [] [(2, .val (.i ((specNegatedNodes q).length : Int))), (3, .val (.b true))] (o2 (ob_eq (av_len (specNegatedNodes q))) (o1 (ob_eq (av_bool (decide_eq_true (p := ((k0 : Nat) : Int) < ((specNegatedNodes q).length : Int)) (by omega)))))) ?_
  refine ckT ?_
  refine awp_skip ?_
  refine awp_seq ?_
  refine awp_block ?_
  refine awp_seq ?_
  refine jn [(30, .b ((specl01In ((nth q k0).1) 8 9) && (a0 == under)))] [14] [] [] (specl01In ((nth q k0).1) 8 9) (fun h3 => ?_) (fun h3 => ?_) ?_
  ·
   refine wdT 0 0 .sh q (fun hw5 => ?_)
   have hl6 : List.length q ≤ 1073741824 := wide_len (hw5)
   have hx4 : q[k0]? = some (nth q k0) := nth_get (by omega)
   refine rk tt_ok [(30, .b (a0 == under))] [14] [] [] [(2, .row [.i ((nth q k0).1), .i ((nth q k0).2.1), .i ((nth q k0).2.2.1), .s ((nth q k0).2.2.2.1), .i ((nth q k0).2.2.2.2.1), .i ((nth q k0).2.2.2.2.2.1), .s ((nth q k0).2.2.2.2.2.2)]), (5, .val (.b true)), (9, .rowE [.b a0])] (o2 (ob_elem (el_of (i := ((k0 : Nat) : Int)) (by omega) rfl hx4)) (o2 (ob_call (cb h3 (specl01In_a ((nth q k0).1) 8 9))) (o1 (ob_elem (el_of (i := ((k0 : Nat) : Int)) (by omega) rfl hx0))))) ?_
   exact ⟨rfl, weak_fit (by rw [h3]; first | done | kernel_rfl)⟩
  ·
   refine wdT 0 0 .sh q (fun hw8 => ?_)
   have hl9 : List.length q ≤ 1073741824 := wide_len (hw8)
   have hx7 : q[k0]? = some (nth q k0) := nth_get (by omega)
   refine rk tt_ok [(30, .b false)] [14] [] [] [(2, .row [.i ((nth q k0).1), .i ((nth q k0).2.1), .i ((nth q k0).2.2.1), .s ((nth q k0).2.2.2.1), .i ((nth q k0).2.2.2.2.1), .i ((nth q k0).2.2.2.2.2.1), .s ((nth q k0).2.2.2.2.2.2)]), (5, .val (.b false))] (o2 (ob_elem (el_of (i := ((k0 : Nat) : Int)) (by omega) rfl hx7)) (o1 (ob_call (cb h3 (specl01In_a ((nth q k0).1) 8 9))))) ?_
   exact ⟨rfl, weak_fit (by rw [h3]; first | done | kernel_rfl)⟩
  refine ck ((specl01In ((nth q k0).1) 8 9) && (a0 == under)) (fun h10 => ?_) (fun h10 => ?_)
  ·
   have h10r : ((a0 == under)) = true := and_r h10
   have h10rd := eq_of_beq h10r
   refine wdT 0 0 .sh q (fun hw12 => ?_)
   have hl13 : List.length q ≤ 1073741824 := wide_len (hw12)
   have hx11 : q[k0]? = some (nth q k0) := nth_get (by omega)
   refine rk tt_ok [(5, .h (specl04Put s0 ((nth q k0).2.2.2.1)))] [5, 30] [] [] [(3, .row [.i ((nth q k0).1), .i ((nth q k0).2.1), .i ((nth q k0).2.2.1), .s ((nth q k0).2.2.2.1), .i ((nth q k0).2.2.2.2.1), .i ((nth q k0).2.2.2.2.2.1), .s ((nth q k0).2.2.2.2.2.2)]), (6, .val (.h (specl04Put s0 ((nth q k0).2.2.2.1))))] (o2 (ob_elem (el_of (i := ((k0 : Nat) : Int)) (by omega) rfl hx11)) (o1 (ob_call (specl04Put_a s0 ((nth q k0).2.2.2.1) (by omega))))) ?_
   refine rk tt_ok [(7, .i ((k0 + 1 : Nat) : Int))] [7] [] [] [(1, .val (.i ((k0 + 1 : Nat) : Int)))] (o1 (ob_eq (av_i (wrap_succ k0 (by omega))))) ?_
   exact Exists.intro (specl04Put s0 ((nth q k0).2.2.2.1)) (And.intro (weak_fit (by kernel_rfl)) ⟨forL_next hx0 (bif_t h10 (rfl)) hI0.1, (by first | omega | (have hz := put_len s0 (nth q k0).2.2.2.1; omega))⟩)
  ·
   refine awp_skip ?_
   refine rk tt_ok [(7, .i ((k0 + 1 : Nat) : Int))] [7, 30] [] [] [(1, .val (.i ((k0 + 1 : Nat) : Int)))] (o1 (ob_eq (av_i (wrap_succ k0 (by omega))))) ?_
   exact Exists.intro s0 (And.intro (weak_fit (by kernel_rfl)) ⟨forL_next hx0 (bif_f h10 (rfl)) hI0.1, (by first | omega | (have hz := put_len s0 (nth q k0).2.2.2.1; omega))⟩)
 ·
  have hA0_0 := hI0.2
  refine awp_seq ?_
  refine awp_seq ?_
  refine rk tt_ok [(14, .b false)] [] [] [] [(2, .val (.i ((specNegatedNodes q).length : Int))), (3, .val (.b false))] (o2 (ob_eq (av_len (specNegatedNodes q))) (o1 (ob_eq (av_bool (decide_eq_false (p := ((k0 : Nat) : Int) < ((specNegatedNodes q).length : Int)) (by omega)))))) ?_
  refine ckF ?_
  refine awp_exit ?_
  exact Exists.intro s0 (And.intro (weak_fit (by kernel_rfl)) (forL_end hk0 (rfl) hI0.1))
 ·
  refine awp_seq ?_
  refine wdT 5 0 .sh y0 (fun hw14 => ?_)
  have hl15 : List.length y0 ≤ 1073741824 := wide_len (hw14)
  refine rk tt_ok [(4, .o 2560 y0)] [4, 5] [] [] [(2, .flat)] (o2 (ob_len (n := (([] : List (List PV)).length + ((eL y0) : List (List PV)).length)) (len_of (rfl) (eL_length y0) (by first | omega | (simp; omega) | simp))) (o1 (ob_flat (flat_eL y0)))) ?_
  refine awp_ret ?_
  exact pret [] (congrArg (fun z => (.o 0 z : AV)) (show specl12Names q under = y0 from on_b hD0 (rfl)).symm)
def specPositiveDeps (q : (List NodeD)) : (List ByteArray) := (specl12Names q false)
theorem specPositiveDeps_a (q : (List NodeD)) : ACalls Tryz.prog 210 [.h q] (.o 0 (specPositiveDeps q)) := by
 refine acalls_of (tt := tt) tt_ok Tryz.func210 (fn := Tryz.f210) rfl (by unfold FnOk; kernel_rfl) (Nat.le_of_ble_eq_true rfl) fun w0 F0 => ?_
 refine awp_seq ?_
 refine rk tt_ok [(2, .e 0)] [] [] [] [] (o0) ?_
 refine awp_seq ?_
 refine rk tt_ok [(2, .o 256 (specl12Names q false))] [0, 2] [] [] [(1, .val (.o 0 (specl12Names q false)))] (o1 (ob_call (specl12Names_a q false))) ?_
 refine awp_ret ?_
 exact pret [] (congrArg (fun z => (.o 0 z : AV)) (show specPositiveDeps q = (specl12Names q false) from rfl).symm)
def specNegativeDeps (q : (List NodeD)) : (List ByteArray) := (specl12Names q true)
theorem specNegativeDeps_a (q : (List NodeD)) : ACalls Tryz.prog 212 [.h q] (.o 0 (specNegativeDeps q)) := by
 refine acalls_of (tt := tt) tt_ok Tryz.func212 (fn := Tryz.f212) rfl (by unfold FnOk; kernel_rfl) (Nat.le_of_ble_eq_true rfl) fun w0 F0 => ?_
 refine awp_seq ?_
 refine rk tt_ok [(2, .e 0)] [] [] [] [] (o0) ?_
 refine awp_seq ?_
 refine rk tt_ok [(2, .o 256 (specl12Names q true))] [0, 2] [] [] [(1, .val (.o 0 (specl12Names q true)))] (o1 (ob_call (specl12Names_a q true))) ?_
 refine awp_ret ?_
 exact pret [] (congrArg (fun z => (.o 0 z : AV)) (show specNegativeDeps q = (specl12Names q true) from rfl).symm)
end Go.Proofs.YtnhmnfmhnepjmaaGreat
