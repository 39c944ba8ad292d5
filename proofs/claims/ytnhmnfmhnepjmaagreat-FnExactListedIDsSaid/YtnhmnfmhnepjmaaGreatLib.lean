/- What functions compute, and that they do (printed by am2.py): each function as a Lean function, then its contract. -/
import Derived.Test.YtnhmnfmhnepjmaaGreatLia
import Derived.KernelRfl
set_option linter.unusedVariables false
set_option linter.unusedSimpArgs false
namespace Go.Proofs.YtnhmnfmhnepjmaaGreat
open Go.RowKit
open GoE (enc wide)
def implListedIDs_f0 (_ : Nat) (a0 : ResultD) (s0 : (List Int)) : Rd ((List Int)) ((List Int)) ((List Int)) := (.next (s0 ++ a0.2))
def implListedIDs_e0 (_ : Nat) (s0 : (List Int)) : (List Int) := s0
def implListedIDs (s_ : StoreD) (d : (List DirD)) (user : Int) : (List Int) := (Out.on (forL implListedIDs_f0 implListedIDs_e0 (((implEvaluateForUser s_ d user)).1) 0 []) (fun y0 => compI (sortI y0)))
theorem implListedIDs_a (s_ : StoreD) (d : (List DirD)) (user : Int) : ACalls Tryz.prog 12 [.a [.h s_.1, .h s_.2.1, .i s_.2.2], .h d, .i user] (.o 0 (implListedIDs s_ d user)) := by
 refine acalls_of (tt := tt) tt_ok Tryz.func12 (fn := Tryz.f12) rfl (by unfold FnOk; kernel_rfl) (Nat.le_of_ble_eq_true rfl) fun w0 F0 => ?_
 refine awp_seq ?_
 refine rk tt_ok [(3, .p 3 0), (6, .e 0)] [0] [(3, [.h s_.1, .h s_.2.1, .i s_.2.2])] [] [] (o0) ?_
 refine awp_seq ?_
 refine rk tt_ok [(7, .o 1024 (((implEvaluateForUser s_ d user)).1))] [1, 2, 3] [] [3] [(3, .val (.tup [(false, [.o 0 (((implEvaluateForUser s_ d user)).1)]), (false, [.b (((implEvaluateForUser s_ d user)).2)])]))] (o1 (ob_call (implEvaluateForUser_a s_ d user))) ?_
 refine awp_seq ?_
 refine rk tt_ok [(9, .one (.slc (.own true 1216) 1 []))] [] [] [] [] (o0) ?_
 refine awp_seq ?_
 refine awp_seq ?_
 refine rk tt_ok [(20, .o 1024 (((implEvaluateForUser s_ d user)).1)), (21, .i ((((implEvaluateForUser s_ d user)).1).length : Int)), (22, .i 0)] [7] [] [] [(1, .val (.i ((((implEvaluateForUser s_ d user)).1).length : Int)))] (o1 (ob_eq (av_len (((implEvaluateForUser s_ d user)).1)))) ?_
 refine wdT 20 0 (.own true 1024) (((implEvaluateForUser s_ d user)).1) (fun hw1 => ?_)
 have hl2 : List.length (((implEvaluateForUser s_ d user)).1) ≤ 1073741824 := wide_len (hw1)
 refine blk (fun (k0 : Nat) (s0 : (List Int)) => [(9, .o 147201 s0), (22, .i ((k0 : Nat) : Int))]) [9, 22] (fun k0 s0 => []) [] (fun (y0 : (List Int)) => [(9, .o 147351 y0)]) [9, 20, 21, 22] (fun y0 => []) [] (fun (k0 : Nat) (s0 : (List Int)) => (forL implListedIDs_f0 implListedIDs_e0 (((implEvaluateForUser s_ d user)).1) 0 []) = forL implListedIDs_f0 implListedIDs_e0 (List.drop k0 (((implEvaluateForUser s_ d user)).1)) k0 s0 ∧ List.length s0 ≤ 12 * k0) (fun (y0 : (List Int)) => (forL implListedIDs_f0 implListedIDs_e0 (((implEvaluateForUser s_ d user)).1) 0 []) = .brk y0) ((((implEvaluateForUser s_ d user)).1).length) [] (weak_sf [(1216, 147201)] (by kernel_rfl)) ⟨rfl, (by simp)⟩ (fun k0 s0 hk0 hI0 => ?_) (fun k0 s0 hk0 hI0 => ?_) (fun y0 hD0 => ?_)
 ·
  have hA0_0 := hI0.2
  obtain ⟨a0, hx0⟩ := get_some (l := ((implEvaluateForUser s_ d user)).1) (i := k0) hk0
  have hsh := user_short hx0
  have hl5 := user_len s_ d user
  refine awp_seq ?_
  refine rk tt_ok [(23, .b true)] [] [] [] [(0, .val (.b true))] (o1 (ob_eq (av_bool (decide_eq_true (p := ((k0 : Nat) : Int) < ((((implEvaluateForUser s_ d user)).1).length : Int)) (by omega))))) ?_
  refine awp_seq ?_
  refine ckT ?_
  refine awp_skip ?_
  refine awp_seq ?_
  refine awp_block ?_
  refine awp_seq ?_
  refine rk tt_ok [(11, .p 11 0)] [23] [(11, [.s a0.1, .v 1024 a0.2])] [] [(0, .rowE [.s a0.1, .h a0.2])] (o1 (ob_elem (el_of (i := ((k0 : Nat) : Int)) (by omega) rfl hx0))) ?_
  refine wdT 9 0 (.own true 147201) s0 (fun hw3 => ?_)
  have hl4 : List.length s0 ≤ 1073741824 := wide_len (hw3)
  refine wdB 11 1 (.vw 1024) a0.2 (fun hw5 => ?_)
  have hl6 : List.length a0.2 ≤ 1073741824 := wide_len (hw5)
  refine rk tt_ok [(9, .one (.slc (.own true 1856) 1 ((eL s0) ++ (eL a0.2))))] [9, 11] [] [11] [(3, .flat)] (o2 (ob_len (len_of (eL_length s0) (eL_length a0.2) (by first | omega | (simp; omega) | simp))) (o1 (ob_flat (flat_eL a0.2)))) ?_
  refine eqn [(9, .o 1856 (s0 ++ a0.2))] [9] [] [] (by rw [show ((eL s0) ++ (eL a0.2)) = (eL (s0 ++ a0.2)) from app_eL (rfl) (rfl)]; first | done | kernel_rfl) ?_
  refine rk tt_ok [(22, .i ((k0 + 1 : Nat) : Int))] [22] [] [] [(0, .val (.i ((k0 + 1 : Nat) : Int)))] (o1 (ob_eq (av_i (wrap_succ k0 (by omega))))) ?_
  exact Exists.intro (s0 ++ a0.2) (And.intro (weak_sf [(1856, 147201)] (by kernel_rfl)) ⟨forL_next hx0 (rfl) hI0.1, (by first | omega | (simp; omega))⟩)
 ·
  have hA0_0 := hI0.2
  refine awp_seq ?_
  refine rk tt_ok [(23, .b false)] [] [] [] [(0, .val (.b false))] (o1 (ob_eq (av_bool (decide_eq_false (p := ((k0 : Nat) : Int) < ((((implEvaluateForUser s_ d user)).1).length : Int)) (by omega))))) ?_
  refine awp_seq ?_
  refine ckF ?_
  refine awp_exit ?_
  exact Exists.intro s0 (And.intro (weak_sf [(147201, 147351)] (by kernel_rfl)) (forL_end hk0 (rfl) hI0.1))
 ·
  refine awp_seq ?_
  refine awp_demotes [147351] rfl ?_
  refine rk tt_ok [(9, .one (.slc (.own false 147351) 1 (putR (eL y0) 0 4294967296 (List.flatten (eL (sortI y0))))))] [9] [] [] [(1, .take false true (eL (sortI y0)))] (o1 (ob_take (sortI_a y0))) ?_
  refine eqn [(9, .q 147351 (sortI y0))] [9] [] [] (by rw [putR_all (fun _ => rfl) (sortI_len _)]; first | done | kernel_rfl) ?_
  refine awp_seq ?_
  refine rk tt_ok [(6, .q 2176 (compI (sortI y0)))] [6, 9] [] [] [(1, .take false false (eL (compI (sortI y0))))] (o1 (ob_take (compI_a (sortI y0)))) ?_
  refine awp_promote 6 (k := 2176) (n := 1) (by kernel_rfl) (flat_eL (compI (sortI y0))) ?_
  refine awp_ret ?_
  exact pret [] (congrArg (fun z => (.o 0 z : AV)) (show implListedIDs s_ d user = compI (sortI y0) from on_b hD0 (rfl)).symm)
def specListedIDs_f1 (a0 : ResultD) (k1 : Nat) (s1 : (List Int)) : Rd (Rd ((List Int)) ((List Int)) ((List Int))) ((List Int)) ((List Int)) := (.next (specl07PutId s1 (nth a0.2 k1)))
def specListedIDs_e1 (_ : Nat) (s1 : (List Int)) : (List Int) := s1
def specListedIDs_f0 (_ : Nat) (a0 : ResultD) (s0 : (List Int)) : Rd ((List Int)) ((List Int)) ((List Int)) := (Out.on (forN (specListedIDs_f1 a0) specListedIDs_e1 (List.length a0.2) 0 s0) (fun y1 => (.next y1)))
def specListedIDs_e0 (_ : Nat) (s0 : (List Int)) : (List Int) := s0
def specListedIDs (s_ : StoreD) (d : (List DirD)) (u : Int) : (List Int) := (Out.on (forL specListedIDs_f0 specListedIDs_e0 (((specEvaluateForUser s_ d u)).1) 0 []) (fun y0 => y0))
theorem specListedIDs_a (s_ : StoreD) (d : (List DirD)) (u : Int) : ACalls Tryz.prog 9 [.a [.h s_.1, .h s_.2.1, .i s_.2.2], .h d, .i u] (.o 0 (specListedIDs s_ d u)) := by
 refine acalls_of (tt := tt) tt_ok Tryz.func9 (fn := Tryz.f9) rfl (by unfold FnOk; kernel_rfl) (Nat.le_of_ble_eq_true rfl) fun w0 F0 => ?_
 refine awp_seq ?_
 refine rk tt_ok [(3, .p 3 0), (6, .e 0)] [0] [(3, [.h s_.1, .h s_.2.1, .i s_.2.2])] [] [] (o0) ?_
 refine awp_seq ?_
 refine rk tt_ok [(7, .one (.slc (.own true 768) 1 []))] [] [] [] [] (o0) ?_
 refine awp_seq ?_
 refine rk tt_ok [(8, .o 1088 (((specEvaluateForUser s_ d u)).1))] [1, 2, 3] [] [3] [(3, .val (.tup [(false, [.o 0 (((specEvaluateForUser s_ d u)).1)]), (false, [.b (((specEvaluateForUser s_ d u)).2)])]))] (o1 (ob_call (specEvaluateForUser_a s_ d u))) ?_
 refine awp_seq ?_
 refine awp_seq ?_
 refine rk tt_ok [(10, .i 0)] [] [] [] [] (o0) ?_
 refine wdT 8 0 (.own true 1088) (((specEvaluateForUser s_ d u)).1) (fun hw1 => ?_)
 have hl2 : List.length (((specEvaluateForUser s_ d u)).1) ≤ 1073741824 := wide_len (hw1)
 refine blk (fun (k0 : Nat) (s0 : (List Int)) => [(7, .h s0), (10, .i ((k0 : Nat) : Int))]) [7, 10] (fun k0 s0 => []) [] (fun (y0 : (List Int)) => [(7, .h y0)]) [7, 8, 10] (fun y0 => []) [] (fun (k0 : Nat) (s0 : (List Int)) => (forL specListedIDs_f0 specListedIDs_e0 (((specEvaluateForUser s_ d u)).1) 0 []) = forL specListedIDs_f0 specListedIDs_e0 (List.drop k0 (((specEvaluateForUser s_ d u)).1)) k0 s0 ∧ List.length s0 ≤ 12 * k0) (fun (y0 : (List Int)) => (forL specListedIDs_f0 specListedIDs_e0 (((specEvaluateForUser s_ d u)).1) 0 []) = .brk y0) ((((specEvaluateForUser s_ d u)).1).length) [] (weak_gf [] [768] [] [] (by kernel_rfl)) ⟨rfl, (by simp)⟩ (fun k0 s0 hk0 hI0 => ?_) (fun k0 s0 hk0 hI0 => ?_) (fun y0 hD0 => ?_)
 ·
  have hA0_0 := hI0.2
  obtain ⟨a0, hx0⟩ := get_some (l := ((specEvaluateForUser s_ d u)).1) (i := k0) hk0
  have hsh := user_shortS hx0
  have hl5 := user_lenS s_ d u
  refine awp_seq ?_
  refine awp_seq ?_
  refine rk tt_ok [(23, .b true)] [] [] [] [(2, .val (.i ((((specEvaluateForUser s_ d u)).1).length : Int))), (3, .val (.b true))] (o2 (ob_eq (av_len (((specEvaluateForUser s_ d u)).1))) (o1 (ob_eq (av_bool (decide_eq_true (p := ((k0 : Nat) : Int) < ((((specEvaluateForUser s_ d u)).1).length : Int)) (by omega)))))) ?_
  refine ckT ?_
  refine awp_skip ?_
  refine awp_seq ?_
  refine awp_block ?_
  refine awp_seq ?_
  refine rk tt_ok [(11, .i 0)] [23] [] [] [] (o0) ?_
  refine blk (fun (k1 : Nat) (s1 : (List Int)) => [(7, .h s1), (11, .i ((k1 : Nat) : Int))]) [7, 11] (fun k1 s1 => []) [] (fun (y1 : (List Int)) => [(7, .h y1)]) [7, 11] (fun y1 => []) [] (fun (k1 : Nat) (s1 : (List Int)) => (forN (specListedIDs_f1 a0) specListedIDs_e1 (List.length a0.2) 0 s0) = forN (specListedIDs_f1 a0) specListedIDs_e1 ((List.length a0.2) - k1) k1 s1 ∧ List.length s1 ≤ List.length s0 + k1) (fun (y1 : (List Int)) => (forN (specListedIDs_f1 a0) specListedIDs_e1 (List.length a0.2) 0 s0) = .brk y1 ∧ List.length y1 ≤ List.length s0 + List.length a0.2) (List.length a0.2) s0 (weak_fit (by kernel_rfl)) ⟨rfl, (by simp)⟩ (fun k1 s1 hk1 hI1 => ?_) (fun k1 s1 hk1 hI1 => ?_) (fun y1 hD1 => ?_)
  ·
   have hA1_0 := hI1.2
   refine awp_seq ?_
   refine awp_seq ?_
   refine rk tt_ok [(33, .b true)] [] [] [] [(3, .rowE [.s a0.1, .h a0.2]), (6, .val (.i (a0.2.length : Int))), (7, .val (.b true))] (o2 (ob_elem (el_of (i := ((k0 : Nat) : Int)) (by omega) rfl hx0)) (o2 (ob_eq (av_len a0.2)) (o1 (ob_eq (av_bool (decide_eq_true (p := ((k1 : Nat) : Int) < (a0.2.length : Int)) (by omega))))))) ?_
   refine ckT ?_
   refine awp_skip ?_
   refine awp_seq ?_
   refine awp_block ?_
   have hl4 : List.length a0.2 ≤ 1073741824 := wide_len (wide_snd (wide_get hx0 (hw1)))
   have hx3 : a0.2[k1]? = some (nth a0.2 k1) := nth_get (by omega)
   refine rk tt_ok [(7, .h (specl07PutId s1 (nth a0.2 k1)))] [7, 33] [] [] [(3, .rowE [.s a0.1, .h a0.2]), (7, .row [.i (nth a0.2 k1)]), (9, .val (.h (specl07PutId s1 (nth a0.2 k1))))] (o2 (ob_elem (el_of (i := ((k0 : Nat) : Int)) (by omega) rfl hx0)) (o2 (ob_elem (el_of (i := ((k1 : Nat) : Int)) (by omega) rfl hx3)) (o1 (ob_call (specl07PutId_a s1 (nth a0.2 k1) (by omega)))))) ?_
   refine rk tt_ok [(11, .i ((k1 + 1 : Nat) : Int))] [11] [] [] [(1, .val (.i ((k1 + 1 : Nat) : Int)))] (o1 (ob_eq (av_i (wrap_succ k1 (by omega))))) ?_
   exact Exists.intro (specl07PutId s1 (nth a0.2 k1)) (And.intro (weak_fit (by kernel_rfl)) ⟨forN_next hk1 (rfl) hI1.1, (by have hz := putI_len s1 (nth a0.2 k1); omega)⟩)
  ·
   have hA1_0 := hI1.2
   refine awp_seq ?_
   refine awp_seq ?_
   refine rk tt_ok [(33, .b false)] [] [] [] [(3, .rowE [.s a0.1, .h a0.2]), (6, .val (.i (a0.2.length : Int))), (7, .val (.b false))] (o2 (ob_elem (el_of (i := ((k0 : Nat) : Int)) (by omega) rfl hx0)) (o2 (ob_eq (av_len a0.2)) (o1 (ob_eq (av_bool (decide_eq_false (p := ((k1 : Nat) : Int) < (a0.2.length : Int)) (by omega))))))) ?_
   refine ckF ?_
   refine awp_exit ?_
   exact Exists.intro s1 (And.intro (weak_fit (by kernel_rfl)) ⟨forN_end hk1 (rfl) hI1.1, by first | omega | (simp only [List.length_set]; omega)⟩)
  ·
   have hD1_0 := hD1.2
   refine rk tt_ok [(10, .i ((k0 + 1 : Nat) : Int))] [10] [] [] [(1, .val (.i ((k0 + 1 : Nat) : Int)))] (o1 (ob_eq (av_i (wrap_succ k0 (by omega))))) ?_
   exact Exists.intro y1 (And.intro (weak_fit (by kernel_rfl)) ⟨forL_next hx0 (on_b hD1.1 (rfl)) hI0.1, (by first | omega | (simp; omega))⟩)
 ·
  have hA0_0 := hI0.2
  refine awp_seq ?_
  refine awp_seq ?_
  refine rk tt_ok [(23, .b false)] [] [] [] [(2, .val (.i ((((specEvaluateForUser s_ d u)).1).length : Int))), (3, .val (.b false))] (o2 (ob_eq (av_len (((specEvaluateForUser s_ d u)).1))) (o1 (ob_eq (av_bool (decide_eq_false (p := ((k0 : Nat) : Int) < ((((specEvaluateForUser s_ d u)).1).length : Int)) (by omega)))))) ?_
  refine ckF ?_
  refine awp_exit ?_
  exact Exists.intro s0 (And.intro (weak_fit (by kernel_rfl)) (forL_end hk0 (rfl) hI0.1))
 ·
  refine awp_seq ?_
  refine wdT 7 0 .sh y0 (fun hw5 => ?_)
  have hl6 : List.length y0 ≤ 1073741824 := wide_len (hw5)
  refine rk tt_ok [(6, .o 3072 y0)] [6, 7] [] [] [(2, .flat)] (o2 (ob_len (n := (([] : List (List PV)).length + ((eL y0) : List (List PV)).length)) (len_of (rfl) (eL_length y0) (by first | omega | (simp; omega) | simp))) (o1 (ob_flat (flat_eL y0)))) ?_
  refine awp_ret ?_
  exact pret [] (congrArg (fun z => (.o 0 z : AV)) (show specListedIDs s_ d u = y0 from on_b hD0 (rfl)).symm)
end Go.Proofs.YtnhmnfmhnepjmaaGreat
