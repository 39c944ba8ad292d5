/- What functions compute, and that they do (printed by am2.py): each function as a Lean function, then its contract. -/
import Derived.Test.YtnhmnfmhnepjmaaGreatNgb
import Derived.Test.YtnhmnfmhnepjmaaGreatTs
import Derived.Test.YtnhmnfmhnepjmaaGreatZd
import Derived.KernelRfl
set_option linter.unusedVariables false
set_option linter.unusedSimpArgs false
namespace Go.Proofs.YtnhmnfmhnepjmaaGreat
open Go.RowKit
open GoE (enc wide)
def specl04Put_f0 (s_ : ByteArray) (k0 : Nat) (a0 : ByteArray) (_ : Unit) : Rd ((List ByteArray)) (Unit) (Int) := (bif (Op.bytesLess a0.toList s_.toList) then (.next ()) else (.brk ((k0 : Nat) : Int)))
def specl04Put_e0 (k0 : Nat) (_ : Unit) : Int := ((k0 : Nat) : Int)
def specl04Put (list : (List ByteArray)) (s_ : ByteArray) : (List ByteArray) := (Out.on (forL (specl04Put_f0 s_) specl04Put_e0 list 0 ()) (fun y0 => (bif (decide (y0 < (list.length : Int)) && ((nth list (Int.toNat y0)).toList == s_.toList)) then list else List.take (Int.toNat y0) list ++ [s_] ++ (List.drop (Int.toNat y0) list))))
theorem specl04Put_a (list : (List ByteArray)) (s_ : ByteArray) (hp : list.length < 1073741824) : ACalls Tryz.prog 234 [.h list, .s s_] (.h (specl04Put list s_)) := by
 refine acalls_of (tt := tt) tt_ok Tryz.func234 (fn := Tryz.f234) rfl (by unfold FnOk; kernel_rfl) (Nat.le_of_ble_eq_true rfl) fun w0 F0 => ?_
 refine awp_seq ?_
 refine rk tt_ok [(4, .e 0)] [] [] [] [] (o0) ?_
 refine awp_seq ?_
 refine rk tt_ok [(5, .i 0)] [] [] [] [] (o0) ?_
 refine awp_seq ?_
 refine wdT 0 0 .sh list (fun hw1 => ?_)
 have hl2 : List.length list ≤ 1073741824 := wide_len (hw1)
 refine blk (fun (k0 : Nat) (s0 : Unit) => [(5, .i ((k0 : Nat) : Int))]) [5] (fun k0 s0 => []) [] (fun (y0 : Int) => [(5, .i y0)]) [5] (fun y0 => []) [] (fun (k0 : Nat) (s0 : Unit) => (forL (specl04Put_f0 s_) specl04Put_e0 list 0 ()) = forL (specl04Put_f0 s_) specl04Put_e0 (List.drop k0 list) k0 s0) (fun (y0 : Int) => (forL (specl04Put_f0 s_) specl04Put_e0 list 0 ()) = .brk y0 ∧ 0 ≤ y0 ∧ y0 ≤ (list.length : Int)) list.length () (weak_fit (by kernel_rfl)) rfl (fun k0 s0 hk0 hI0 => ?_) (fun k0 s0 hk0 hI0 => ?_) (fun y0 hD0 => ?_)
 ·
  obtain ⟨a0, hx0⟩ := get_some (l := list) (i := k0) hk0
  refine awp_seq ?_
  refine awp_seq ?_
  refine rk tt_ok [(18, .b (Op.bytesLess a0.toList s_.toList))] [] [] [] [(2, .val (.i (list.length : Int))), (3, .val (.b true)), (7, .row [.s a0])] (o2 (ob_eq (av_len list)) (o2 (ob_eq (av_bool (decide_eq_true (p := ((k0 : Nat) : Int) < (list.length : Int)) (by omega)))) (o1 (ob_elem (el_of (i := ((k0 : Nat) : Int)) (by omega) rfl hx0))))) ?_
  refine ck (Op.bytesLess a0.toList s_.toList) (fun h3 => ?_) (fun h3 => ?_)
  ·
   refine awp_skip ?_
   refine awp_block ?_
   refine rk tt_ok [(5, .i ((k0 + 1 : Nat) : Int))] [5, 18] [] [] [(1, .val (.i ((k0 + 1 : Nat) : Int)))] (o1 (ob_eq (av_i (wrap_succ k0 (by omega))))) ?_
   exact Exists.intro () (And.intro (weak_fit (by kernel_rfl)) (forL_next hx0 (bif_t h3 (rfl)) hI0))
  ·
   refine awp_exit ?_
   exact Exists.intro ((k0 : Nat) : Int) (And.intro (weak_fit (by kernel_rfl)) ⟨forL_brk hx0 (bif_f h3 (rfl)) hI0, by first | omega | (simp only [List.length_set]; omega)⟩)
 ·
  refine awp_seq ?_
  refine awp_seq ?_
  refine rk tt_ok [(18, .b false)] [] [] [] [(2, .val (.i (list.length : Int))), (3, .val (.b false))] (o2 (ob_eq (av_len list)) (o1 (ob_eq (av_bool (decide_eq_false (p := ((k0 : Nat) : Int) < (list.length : Int)) (by omega)))))) ?_
  refine ckF ?_
  refine awp_exit ?_
  exact Exists.intro ((k0 : Nat) : Int) (And.intro (weak_fit (by kernel_rfl)) ⟨forL_end hk0 (rfl) hI0, by first | omega | (simp only [List.length_set]; omega)⟩)
 ·
  have hD0_0 := hD0.2
  refine awp_seq ?_
  refine awp_seq ?_
  refine jn [(32, .b (decide (y0 < (list.length : Int)) && ((nth list (Int.toNat y0)).toList == s_.toList)))] [] [] [] (decide (y0 < (list.length : Int))) (fun h4 => ?_) (fun h4 => ?_) ?_
  ·
   have h4d := of_decide_eq_true h4
   have hx5 : list[(Int.toNat y0)]? = some (nth list (Int.toNat y0)) := nth_get (by omega)
   refine rk tt_ok [(32, .b ((nth list (Int.toNat y0)).toList == s_.toList))] [] [] [] [(2, .val (.i (list.length : Int))), (3, .val (.b true)), (7, .row [.s (nth list (Int.toNat y0))])] (o2 (ob_eq (av_len list)) (o2 (ob_eq (av_bool h4)) (o1 (ob_elem (el_of (i := y0) (by omega) rfl hx5))))) ?_
   exact ⟨rfl, weak_fit (by rw [h4]; first | done | kernel_rfl)⟩
  ·
   refine rk tt_ok [(32, .b false)] [] [] [] [(2, .val (.i (list.length : Int))), (3, .val (.b false))] (o2 (ob_eq (av_len list)) (o1 (ob_eq (av_bool h4)))) ?_
   exact ⟨rfl, weak_fit (by rw [h4]; first | done | kernel_rfl)⟩
  refine ck (decide (y0 < (list.length : Int)) && ((nth list (Int.toNat y0)).toList == s_.toList)) (fun h6 => ?_) (fun h6 => ?_)
  ·
   refine awp_seq ?_
   refine rk tt_ok [(4, .h list)] [4, 32] [] [] [] (o0) ?_
   refine awp_ret ?_
   exact pret [] (congrArg (fun z => (.h z : AV)) (show specl04Put list s_ = list from on_b hD0.1 (bif_t h6 (rfl))).symm)
  ·
   refine awp_skip ?_
   refine awp_seq ?_
   refine rk tt_ok [(6, .one (.slc (.own true 2624) 1 (([] ++ (eL (List.take (Int.toNat y0) list))) ++ [[.s s_]])))] [1, 32] [] [] [(3, .val (.h (List.take (Int.toNat y0) list))), (4, .flat)] (o2 (ob_eq (av_take .sh 1 (Int.toNat y0) y0 list rfl)) (o2 (ob_rng (lo := 0) (hi := y0) (n := (List.length (eL list))) (rng_of (by omega) (by omega) (by omega))) (o2 (ob_len (n := (([] : List (List PV)).length + ((eL (List.take (Int.toNat y0) list)) : List (List PV)).length)) (len_of (rfl) (eL_length (List.take (Int.toNat y0) list)) (by first | omega | (simp; omega) | simp))) (o2 (ob_flat (flat_eL (List.take (Int.toNat y0) list))) (o1 (ob_len (n := ((([] ++ (eL (List.take (Int.toNat y0) list))) : List (List PV)).length + ([[.s s_]] : List (List PV)).length)) (by simp [eL_length]; omega))))))) ?_
   refine eqn [(6, .o 2624 (List.take (Int.toNat y0) list ++ [s_]))] [6] [] [] (by rw [show (([] ++ (eL (List.take (Int.toNat y0) list))) ++ [[.s s_]]) = (eL (List.take (Int.toNat y0) list ++ [s_])) from app_eL (rfl) (rfl)]; first | done | kernel_rfl) ?_
   refine awp_seq ?_
   refine wdT 6 0 (.own true 2624) (List.take (Int.toNat y0) list ++ [s_]) (fun hw7 => ?_)
   have hl8 : List.length (List.take (Int.toNat y0) list ++ [s_]) ≤ 1073741824 := wide_len (hw7)
   refine rk tt_ok [(4, .one (.slc (.own true 2944) 1 ((eL (List.take (Int.toNat y0) list ++ [s_])) ++ (eL (List.drop (Int.toNat y0) list)))))] [0, 4, 5, 6] [] [] [(3, .val (.h (List.drop (Int.toNat y0) list))), (4, .flat)] (o2 (ob_eq (av_drop .sh 1 (Int.toNat y0) y0 list rfl)) (o2 (ob_rng (lo := y0) (hi := (((eL list) : List (List PV)).length : Int)) (n := (List.length (eL list))) (rng_all (by omega) (by omega))) (o2 (ob_len (len_of (eL_length (List.take (Int.toNat y0) list ++ [s_])) (eL_length (List.drop (Int.toNat y0) list)) (by first | omega | (simp; omega) | simp))) (o1 (ob_flat (flat_eL (List.drop (Int.toNat y0) list))))))) ?_
   refine eqn [(4, .o 2944 (List.take (Int.toNat y0) list ++ [s_] ++ (List.drop (Int.toNat y0) list)))] [4] [] [] (by rw [show ((eL (List.take (Int.toNat y0) list ++ [s_])) ++ (eL (List.drop (Int.toNat y0) list))) = (eL (List.take (Int.toNat y0) list ++ [s_] ++ (List.drop (Int.toNat y0) list))) from app_eL (rfl) (rfl)]; first | done | kernel_rfl) ?_
   refine awp_ret ?_
   exact pret [2944] (congrArg (fun z => (.h z : AV)) (show specl04Put list s_ = List.take (Int.toNat y0) list ++ [s_] ++ (List.drop (Int.toNat y0) list) from on_b hD0.1 (bif_f h6 (rfl))).symm)
end Go.Proofs.YtnhmnfmhnepjmaaGreat
