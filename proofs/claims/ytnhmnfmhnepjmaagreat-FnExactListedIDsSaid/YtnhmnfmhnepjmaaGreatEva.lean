/- What functions compute, and that they do (printed by am2.py): each function as a Lean function, then its contract. -/
import Derived.Test.YtnhmnfmhnepjmaaGreatEy
import Derived.KernelRfl
set_option linter.unusedVariables false
set_option linter.unusedSimpArgs false
namespace Go.Proofs.YtnhmnfmhnepjmaaGreat
open Go.RowKit
open GoE (enc wide)
def implDirNames_f0 (_ : Nat) (a0 : DirD) (s0 : (List ByteArray)) : Rd ((List ByteArray)) ((List ByteArray)) ((List ByteArray)) := (.next (s0 ++ [a0.1]))
def implDirNames_e0 (_ : Nat) (s0 : (List ByteArray)) : (List ByteArray) := s0
def implDirNames (d : (List DirD)) : (List ByteArray) := (Out.on (forL implDirNames_f0 implDirNames_e0 d 0 []) (fun y0 => y0))
theorem implDirNames_a (d : (List DirD)) : ACalls Tryz.prog 135 [.h d] (.o 0 (implDirNames d)) := by
 refine acalls_of (tt := tt) tt_ok Tryz.func135 (fn := Tryz.f135) rfl (by unfold FnOk; kernel_rfl) (Nat.le_of_ble_eq_true rfl) fun w0 F0 => ?_
 refine awp_seq ?_
 refine rk tt_ok [(2, .e 0)] [] [] [] [] (o0) ?_
 refine awp_seq ?_
 refine rk tt_ok [(3, .one (.slc (.own true 384) 1 []))] [] [] [] [] (o0) ?_
 refine awp_seq ?_
 refine awp_seq ?_
 refine rk tt_ok [(7, .h d), (8, .i (d.length : Int)), (9, .i 0)] [0] [] [] [(1, .val (.i (d.length : Int)))] (o1 (ob_eq (av_len d))) ?_
 refine wdT 7 0 .sh d (fun hw1 => ?_)
 have hl2 : List.length d ≤ 1073741824 := wide_len (hw1)
 refine blk (fun (k0 : Nat) (s0 : (List ByteArray)) => [(3, .o 147201 s0), (9, .i ((k0 : Nat) : Int))]) [3, 9] (fun k0 s0 => []) [] (fun (y0 : (List ByteArray)) => [(3, .o 147351 y0)]) [3, 7, 8, 9] (fun y0 => []) [] (fun (k0 : Nat) (s0 : (List ByteArray)) => (forL implDirNames_f0 implDirNames_e0 d 0 []) = forL implDirNames_f0 implDirNames_e0 (List.drop k0 d) k0 s0 ∧ List.length s0 ≤ k0) (fun (y0 : (List ByteArray)) => (forL implDirNames_f0 implDirNames_e0 d 0 []) = .brk y0) d.length [] (weak_sf [(384, 147201)] (by kernel_rfl)) ⟨rfl, (by simp)⟩ (fun k0 s0 hk0 hI0 => ?_) (fun k0 s0 hk0 hI0 => ?_) (fun y0 hD0 => ?_)
 ·
  have hA0_0 := hI0.2
  obtain ⟨a0, hx0⟩ := get_some (l := d) (i := k0) hk0
  refine awp_seq ?_
  refine rk tt_ok [(10, .b true)] [] [] [] [(0, .val (.b true))] (o1 (ob_eq (av_bool (decide_eq_true (p := ((k0 : Nat) : Int) < (d.length : Int)) (by omega))))) ?_
  refine awp_seq ?_
  refine ckT ?_
  refine awp_skip ?_
  refine awp_seq ?_
  refine awp_block ?_
  refine awp_seq ?_
  refine rk tt_ok [(5, .p 5 0)] [10] [(5, [.s a0.1, .h a0.2])] [] [(0, .row [.s a0.1, .h a0.2])] (o1 (ob_elem (el_of (i := ((k0 : Nat) : Int)) (by omega) rfl hx0))) ?_
  refine wdT 3 0 (.own true 147201) s0 (fun hw3 => ?_)
  have hl4 : List.length s0 ≤ 1073741824 := wide_len (hw3)
  refine rk tt_ok [(3, .one (.slc (.own true 1088) 1 ((eL s0) ++ [[.s a0.1]])))] [3, 5] [] [5] [] (o1 (ob_len (len_of (eL_length s0) (eL_length [a0.1]) (by first | omega | (simp; omega) | simp)))) ?_
  refine eqn [(3, .o 1088 (s0 ++ [a0.1]))] [3] [] [] (by rw [show ((eL s0) ++ [[.s a0.1]]) = (eL (s0 ++ [a0.1])) from app_eL (rfl) (rfl)]; first | done | kernel_rfl) ?_
  refine rk tt_ok [(9, .i ((k0 + 1 : Nat) : Int))] [9] [] [] [(0, .val (.i ((k0 + 1 : Nat) : Int)))] (o1 (ob_eq (av_i (wrap_succ k0 (by omega))))) ?_
  exact Exists.intro (s0 ++ [a0.1]) (And.intro (weak_sf [(1088, 147201)] (by kernel_rfl)) ⟨forL_next hx0 (rfl) hI0.1, by first | omega | (simp; omega) | simp⟩)
 ·
  have hA0_0 := hI0.2
  refine awp_seq ?_
  refine rk tt_ok [(10, .b false)] [] [] [] [(0, .val (.b false))] (o1 (ob_eq (av_bool (decide_eq_false (p := ((k0 : Nat) : Int) < (d.length : Int)) (by omega))))) ?_
  refine awp_seq ?_
  refine ckF ?_
  refine awp_exit ?_
  exact Exists.intro s0 (And.intro (weak_sf [(147201, 147351)] (by kernel_rfl)) (forL_end hk0 (rfl) hI0.1))
 ·
  refine awp_seq ?_
  refine rk tt_ok [(2, .o 147351 y0)] [2, 3] [] [] [] (o0) ?_
  refine awp_ret ?_
  exact pret [] (congrArg (fun z => (.o 0 z : AV)) (show implDirNames d = y0 from on_b hD0 (rfl)).symm)
def slicesIndex_string_f0 (v : ByteArray) (k0 : Nat) (a0 : ByteArray) (_ : Unit) : Rd (Int) (Unit) (Unit) := (bif (v.toList == a0.toList) then (.ret ((k0 : Nat) : Int)) else (.next ()))
def slicesIndex_string_e0 (_ : Nat) (_ : Unit) : Unit := ()
def slicesIndex_string (s_ : (List ByteArray)) (v : ByteArray) : Int := (Out.on (forL (slicesIndex_string_f0 v) slicesIndex_string_e0 s_ 0 ()) (fun _ => -1))
theorem slicesIndex_string_a (s_ : (List ByteArray)) (v : ByteArray) : ACalls Tryz.prog 204 [.h s_, .s v] (.i (slicesIndex_string s_ v)) := by
 refine acalls_of (tt := tt) tt_ok Tryz.func204 (fn := Tryz.f204) rfl (by unfold FnOk; kernel_rfl) (Nat.le_of_ble_eq_true rfl) fun w0 F0 => ?_
 refine awp_seq ?_
 refine rk tt_ok [(4, .i 0)] [] [] [] [] (o0) ?_
 refine awp_seq ?_
 refine awp_seq ?_
 refine rk tt_ok [(7, .i (s_.length : Int)), (8, .i 0)] [] [] [] [(1, .val (.i (s_.length : Int)))] (o1 (ob_eq (av_len s_))) ?_
 refine wdT 0 0 .sh s_ (fun hw1 => ?_)
 have hl2 : List.length s_ ≤ 1073741824 := wide_len (hw1)
 refine blk (fun (k0 : Nat) (s0 : Unit) => [(8, .i ((k0 : Nat) : Int))]) [8] (fun k0 s0 => []) [] (fun (y0 : Unit) => []) [0, 1, 7, 8] (fun y0 => []) [] (fun (k0 : Nat) (s0 : Unit) => (forL (slicesIndex_string_f0 v) slicesIndex_string_e0 s_ 0 ()) = forL (slicesIndex_string_f0 v) slicesIndex_string_e0 (List.drop k0 s_) k0 s0) (fun (y0 : Unit) => (forL (slicesIndex_string_f0 v) slicesIndex_string_e0 s_ 0 ()) = .brk y0) s_.length () (weak_fit (by kernel_rfl)) rfl (fun k0 s0 hk0 hI0 => ?_) (fun k0 s0 hk0 hI0 => ?_) (fun y0 hD0 => ?_)
 ·
  obtain ⟨a0, hx0⟩ := get_some (l := s_) (i := k0) hk0
  refine awp_seq ?_
  refine rk tt_ok [(9, .b true)] [] [] [] [(0, .val (.b true))] (o1 (ob_eq (av_bool (decide_eq_true (p := ((k0 : Nat) : Int) < (s_.length : Int)) (by omega))))) ?_
  refine awp_seq ?_
  refine ckT ?_
  refine awp_skip ?_
  refine awp_seq ?_
  refine awp_block ?_
  refine awp_seq ?_
  refine rk tt_ok [(5, .i ((k0 : Nat) : Int))] [9] [] [] [] (o0) ?_
  refine awp_seq ?_
  refine rk tt_ok [(16, .b (v.toList == a0.toList))] [] [] [] [(3, .row [.s a0])] (o1 (ob_elem (el_of (i := ((k0 : Nat) : Int)) (by omega) rfl hx0))) ?_
  refine ck (v.toList == a0.toList) (fun h3 => ?_) (fun h3 => ?_)
  ·
   refine awp_seq ?_
   refine rk tt_ok [(4, .i ((k0 : Nat) : Int))] [4, 5, 16] [] [] [] (o0) ?_
   refine awp_ret ?_
   have hr4 : (forL (slicesIndex_string_f0 v) slicesIndex_string_e0 s_ 0 ()) = .ret ((k0 : Nat) : Int) := forL_ret hx0 (bif_t h3 (rfl)) hI0
   exact pret [] (congrArg (fun z => (.i z : AV)) (show slicesIndex_string s_ v = ((k0 : Nat) : Int) from on_r hr4).symm)
  ·
   refine awp_skip ?_
   refine rk tt_ok [(8, .i ((k0 + 1 : Nat) : Int))] [5, 8, 16] [] [] [(0, .val (.i ((k0 + 1 : Nat) : Int)))] (o1 (ob_eq (av_i (wrap_succ k0 (by omega))))) ?_
   exact Exists.intro () (And.intro (weak_fit (by kernel_rfl)) (forL_next hx0 (bif_f h3 (rfl)) hI0))
 ·
  refine awp_seq ?_
  refine rk tt_ok [(9, .b false)] [] [] [] [(0, .val (.b false))] (o1 (ob_eq (av_bool (decide_eq_false (p := ((k0 : Nat) : Int) < (s_.length : Int)) (by omega))))) ?_
  refine awp_seq ?_
  refine ckF ?_
  refine awp_exit ?_
  exact Exists.intro () (And.intro (weak_fit (by kernel_rfl)) (forL_end hk0 (rfl) hI0))
 ·
  refine awp_seq ?_
  refine rk tt_ok [(4, .i (-1))] [4] [] [] [] (o0) ?_
  refine awp_ret ?_
  exact pret [] (congrArg (fun z => (.i z : AV)) (show slicesIndex_string s_ v = -1 from on_b hD0 (rfl)).symm)
def slicesContains_string (s_ : (List ByteArray)) (v : ByteArray) : Bool := decide ((slicesIndex_string s_ v) ≥ (0 : Int))
theorem slicesContains_string_a (s_ : (List ByteArray)) (v : ByteArray) : ACalls Tryz.prog 176 [.h s_, .s v] (.b (slicesContains_string s_ v)) := by
 refine acalls_of (tt := tt) tt_ok Tryz.func176 (fn := Tryz.f176) rfl (by unfold FnOk; kernel_rfl) (Nat.le_of_ble_eq_true rfl) fun w0 F0 => ?_
 refine awp_seq ?_
 refine rk tt_ok [(4, .b false)] [] [] [] [] (o0) ?_
 refine awp_seq ?_
 refine rk tt_ok [(4, .b (decide ((slicesIndex_string s_ v) ≥ (0 : Int))))] [0, 1, 4] [] [] [(2, .val (.i (slicesIndex_string s_ v)))] (o1 (ob_call (slicesIndex_string_a s_ v))) ?_
 refine awp_ret ?_
 exact pret [] (congrArg (fun z => (.b z : AV)) (show slicesContains_string s_ v = decide ((slicesIndex_string s_ v) ≥ (0 : Int)) from rfl).symm)
def slicesMax_int_f0 (x : (List Int)) (k0 : Nat) (s0 : Int) : Rd (Int) (Int) (Int) := (.next (max s0 (nth x (k0 + 1))))
def slicesMax_int_e0 (_ : Nat) (s0 : Int) : Int := s0
def slicesMax_int (x : (List Int)) : Int := (Out.on (forN (slicesMax_int_f0 x) slicesMax_int_e0 (x.length - 1) 0 (nth x 0)) (fun y0 => y0))
theorem slicesMax_int_a (x : (List Int)) (hp : 0 < x.length) : ACalls Tryz.prog 205 [.h x] (.i (slicesMax_int x)) := by
 refine acalls_of (tt := tt) tt_ok Tryz.func205 (fn := Tryz.f205) rfl (by unfold FnOk; kernel_rfl) (Nat.le_of_ble_eq_true rfl) fun w0 F0 => ?_
 refine awp_seq ?_
 refine rk tt_ok [(2, .i 0)] [] [] [] [] (o0) ?_
 refine awp_seq ?_
 refine awp_seq ?_
 refine rk tt_ok [(7, .b false)] [] [] [] [(1, .val (.i (x.length : Int))), (2, .val (.b false))] (o2 (ob_eq (av_len x)) (o1 (ob_eq (show .b (decide ((x.length : Int) < (1 : Int))) = .b false from av_bool (decide_eq_false (by omega)))))) ?_
 refine ckF ?_
 refine awp_skip ?_
 refine awp_seq ?_
 refine wdT 0 0 .sh x (fun hw2 => ?_)
 have hl3 : List.length x ≤ 1073741824 := wide_len (hw2)
 have hx1 : x[0]? = some (nth x 0) := nth_get (by omega)
 refine rk tt_ok [(3, .i (nth x 0))] [7] [] [] [(1, .row [.i (nth x 0)])] (o1 (ob_elem (el_of (i := 0) (by omega) rfl hx1))) ?_
 refine awp_seq ?_
 refine awp_seq ?_
 refine rk tt_ok [(4, .i 1)] [] [] [] [] (o0) ?_
 refine blk (fun (k0 : Nat) (s0 : Int) => [(3, .i s0), (4, .i ((k0 + 1 : Nat) : Int))]) [3, 4] (fun k0 s0 => []) [] (fun (y0 : Int) => [(3, .i y0)]) [0, 3, 4] (fun y0 => []) [] (fun (k0 : Nat) (s0 : Int) => (forN (slicesMax_int_f0 x) slicesMax_int_e0 (x.length - 1) 0 (nth x 0)) = forN (slicesMax_int_f0 x) slicesMax_int_e0 ((x.length - 1) - k0) k0 s0) (fun (y0 : Int) => (forN (slicesMax_int_f0 x) slicesMax_int_e0 (x.length - 1) 0 (nth x 0)) = .brk y0) (x.length - 1) (nth x 0) (weak_fit (by kernel_rfl)) rfl (fun k0 s0 hk0 hI0 => ?_) (fun k0 s0 hk0 hI0 => ?_) (fun y0 hD0 => ?_)
 ·
  refine awp_seq ?_
  refine awp_seq ?_
  refine rk tt_ok [(15, .b true)] [] [] [] [(2, .val (.i (x.length : Int))), (3, .val (.b true))] (o2 (ob_eq (av_len x)) (o1 (ob_eq (av_bool (decide_eq_true (p := ((k0 + 1 : Nat) : Int) < (x.length : Int)) (by omega)))))) ?_
  refine ckT ?_
  refine awp_skip ?_
  refine awp_seq ?_
  refine awp_block ?_
  have hx4 : x[(k0 + 1)]? = some (nth x (k0 + 1)) := nth_get (by omega)
  refine rk tt_ok [(3, .i (max s0 (nth x (k0 + 1))))] [3, 15] [] [] [(3, .row [.i (nth x (k0 + 1))])] (o1 (ob_elem (el_of (i := ((k0 + 1 : Nat) : Int)) (by omega) rfl hx4))) ?_
  refine rk tt_ok [(4, .i ((k0 + 2 : Nat) : Int))] [4] [] [] [(1, .val (.i ((k0 + 2 : Nat) : Int)))] (o1 (ob_eq (show .i (IntKind.i64.wrap (((k0 + 1 : Nat) : Int) + 1)) = .i ((k0 + 2 : Nat) : Int) from av_i ((IntWalk.i64_in _ (by omega)).trans (by omega))))) ?_
  exact Exists.intro (max s0 (nth x (k0 + 1))) (And.intro (weak_fit (by kernel_rfl)) (forN_next hk0 (rfl) hI0))
 ·
  refine awp_seq ?_
  refine awp_seq ?_
  refine rk tt_ok [(15, .b false)] [] [] [] [(2, .val (.i (x.length : Int))), (3, .val (.b false))] (o2 (ob_eq (av_len x)) (o1 (ob_eq (av_bool (decide_eq_false (p := ((k0 + 1 : Nat) : Int) < (x.length : Int)) (by omega)))))) ?_
  refine ckF ?_
  refine awp_exit ?_
  exact Exists.intro s0 (And.intro (weak_fit (by kernel_rfl)) (forN_end hk0 (rfl) hI0))
 ·
  refine awp_seq ?_
  refine rk tt_ok [(2, .i y0)] [2, 3] [] [] [] (o0) ?_
  refine awp_ret ?_
  exact pret [] (congrArg (fun z => (.i z : AV)) (show slicesMax_int x = y0 from on_b hD0 (rfl)).symm)
def implMaxStratum (d : (List DirD)) : Int := (bif ((!(((implStrata d)).2)) || (((((implStrata d)).1).length : Int) == (0 : Int))) then -1 else (slicesMax_int (((implStrata d)).1)))
theorem implMaxStratum_a (d : (List DirD)) : ACalls Tryz.prog 177 [.h d] (.i (implMaxStratum d)) := by
 refine acalls_of (tt := tt) tt_ok Tryz.func177 (fn := Tryz.f177) rfl (by unfold FnOk; kernel_rfl) (Nat.le_of_ble_eq_true rfl) fun w0 F0 => ?_
 refine awp_seq ?_
 refine rk tt_ok [(2, .i 0)] [] [] [] [] (o0) ?_
 refine awp_seq ?_
 refine rk tt_ok [(3, .o 448 (((implStrata d)).1)), (4, .b (((implStrata d)).2))] [0] [] [] [(1, .val (.tup [(false, [.o 0 (((implStrata d)).1)]), (false, [.b (((implStrata d)).2)])]))] (o1 (ob_call (implStrata_a d))) ?_
 refine awp_seq ?_
 refine awp_seq ?_
 refine jn [(16, .b ((!(((implStrata d)).2)) || (((((implStrata d)).1).length : Int) == (0 : Int))))] [4] [] [] (!(((implStrata d)).2)) (fun h1 => ?_) (fun h1 => ?_) ?_
 ·
  have h1n : (((implStrata d)).2) = false := bnot_t h1
  refine rk tt_ok [(16, .b true)] [4] [] [] [(0, .val (.b false)), (1, .val (.b true))] (o2 (ob_eq (av_bool h1n)) (o1 (ob_eq (show .b (!false) = .b true from rfl)))) ?_
  exact ⟨rfl, weak_fit (by rw [h1]; first | done | kernel_rfl)⟩
 ·
  have h1n : (((implStrata d)).2) = true := bnot_f h1
  refine rk tt_ok [(16, .b (((((implStrata d)).1).length : Int) == (0 : Int)))] [4] [] [] [(0, .val (.b true)), (1, .val (.b false)), (4, .val (.i ((((implStrata d)).1).length : Int)))] (o2 (ob_eq (av_bool h1n)) (o2 (ob_eq (show .b (!true) = .b false from rfl)) (o1 (ob_eq (av_len (((implStrata d)).1)))))) ?_
  exact ⟨rfl, weak_fit (by rw [h1]; first | done | kernel_rfl)⟩
 refine ck ((!(((implStrata d)).2)) || (((((implStrata d)).1).length : Int) == (0 : Int))) (fun h2 => ?_) (fun h2 => ?_)
 ·
  refine awp_seq ?_
  refine rk tt_ok [(2, .i (-1))] [2, 16] [] [] [] (o0) ?_
  refine awp_ret ?_
  exact pret [] (congrArg (fun z => (.i z : AV)) (show implMaxStratum d = -1 from bif_t h2 (rfl)).symm)
 ·
  have h2l : ((!(((implStrata d)).2))) = false := or_l h2
  have h2ln : (((implStrata d)).2) = true := bnot_f h2l
  have h2r : ((((((implStrata d)).1).length : Int) == (0 : Int))) = false := or_r h2
  have h2rd := ne_of_beq h2r
  refine awp_skip ?_
  refine awp_seq ?_
  refine rk tt_ok [(2, .i (slicesMax_int (((implStrata d)).1)))] [2, 3, 16] [] [] [(1, .val (.i (slicesMax_int (((implStrata d)).1))))] (o1 (ob_call (slicesMax_int_a (((implStrata d)).1) (by first | omega | (simp_all; omega))))) ?_
  refine awp_ret ?_
  exact pret [] (congrArg (fun z => (.i z : AV)) (show implMaxStratum d = (slicesMax_int (((implStrata d)).1)) from bif_f h2 (rfl)).symm)
def slicesEqual_int_f0 (s2_ : (List Int)) (k0 : Nat) (a0 : Int) (_ : Unit) : Rd (Bool) (Unit) (Unit) := (bif (a0 != (nth s2_ k0)) then (.ret false) else (.next ()))
def slicesEqual_int_e0 (_ : Nat) (_ : Unit) : Unit := ()
def slicesEqual_int (s1_ : (List Int)) (s2_ : (List Int)) : Bool := (bif ((s1_.length : Int) != (s2_.length : Int)) then false else (Out.on (forL (slicesEqual_int_f0 s2_) slicesEqual_int_e0 s1_ 0 ()) (fun _ => true)))
theorem slicesEqual_int_a (s1_ : (List Int)) (s2_ : (List Int)) : ACalls Tryz.prog 78 [.h s1_, .h s2_] (.b (slicesEqual_int s1_ s2_)) := by
 refine acalls_of (tt := tt) tt_ok Tryz.func78 (fn := Tryz.f78) rfl (by unfold FnOk; kernel_rfl) (Nat.le_of_ble_eq_true rfl) fun w0 F0 => ?_
 refine awp_seq ?_
 refine rk tt_ok [(4, .b false)] [] [] [] [] (o0) ?_
 refine awp_seq ?_
 refine awp_seq ?_
 refine rk tt_ok [(10, .b ((s1_.length : Int) != (s2_.length : Int)))] [] [] [] [(1, .val (.i (s1_.length : Int))), (3, .val (.i (s2_.length : Int)))] (o2 (ob_eq (av_len s1_)) (o1 (ob_eq (av_len s2_)))) ?_
 refine ck ((s1_.length : Int) != (s2_.length : Int)) (fun h1 => ?_) (fun h1 => ?_)
 ·
  refine awp_seq ?_
  refine rk tt_ok [] [10] [] [] [] (o0) ?_
  refine awp_ret ?_
  exact pret [] (congrArg (fun z => (.b z : AV)) (show slicesEqual_int s1_ s2_ = false from bif_t h1 (rfl)).symm)
 ·
  have h1d := eq_of_bne h1
  refine awp_skip ?_
  refine awp_seq ?_
  refine awp_seq ?_
  refine rk tt_ok [(12, .i (s1_.length : Int)), (13, .i 0)] [10] [] [] [(1, .val (.i (s1_.length : Int)))] (o1 (ob_eq (av_len s1_))) ?_
  refine wdT 0 0 .sh s1_ (fun hw2 => ?_)
  have hl3 : List.length s1_ ≤ 1073741824 := wide_len (hw2)
  refine blk (fun (k0 : Nat) (s0 : Unit) => [(13, .i ((k0 : Nat) : Int))]) [13] (fun k0 s0 => []) [] (fun (y0 : Unit) => []) [0, 1, 12, 13] (fun y0 => []) [] (fun (k0 : Nat) (s0 : Unit) => (forL (slicesEqual_int_f0 s2_) slicesEqual_int_e0 s1_ 0 ()) = forL (slicesEqual_int_f0 s2_) slicesEqual_int_e0 (List.drop k0 s1_) k0 s0) (fun (y0 : Unit) => (forL (slicesEqual_int_f0 s2_) slicesEqual_int_e0 s1_ 0 ()) = .brk y0) s1_.length () (weak_fit (by kernel_rfl)) rfl (fun k0 s0 hk0 hI0 => ?_) (fun k0 s0 hk0 hI0 => ?_) (fun y0 hD0 => ?_)
  ·
   obtain ⟨a0, hx0⟩ := get_some (l := s1_) (i := k0) hk0
   refine awp_seq ?_
   refine rk tt_ok [(14, .b true)] [] [] [] [(0, .val (.b true))] (o1 (ob_eq (av_bool (decide_eq_true (p := ((k0 : Nat) : Int) < (s1_.length : Int)) (by omega))))) ?_
   refine awp_seq ?_
   refine ckT ?_
   refine awp_skip ?_
   refine awp_seq ?_
   refine awp_block ?_
   refine awp_seq ?_
   refine rk tt_ok [(5, .i ((k0 : Nat) : Int))] [14] [] [] [] (o0) ?_
   refine awp_seq ?_
   refine wdT 1 0 .sh s2_ (fun hw5 => ?_)
   have hl6 : List.length s2_ ≤ 1073741824 := wide_len (hw5)
   have hx4 : s2_[k0]? = some (nth s2_ k0) := nth_get (by omega)
   refine rd' tt_ok tt_mx [(24, .b (a0 != (nth s2_ k0)))] [5] [] [] [(2, .row [.i a0]), (6, .row [.i (nth s2_ k0)])] (o2 (ob_elem (el_of (i := ((k0 : Nat) : Int)) (by omega) rfl hx0)) (o1 (ob_elem (el_of (i := ((k0 : Nat) : Int)) (by omega) rfl hx4)))) ?_
   refine ck (a0 != (nth s2_ k0)) (fun h7 => ?_) (fun h7 => ?_)
   ·
    refine awp_seq ?_
    refine rk tt_ok [] [24] [] [] [] (o0) ?_
    refine awp_ret ?_
    have hr8 : (forL (slicesEqual_int_f0 s2_) slicesEqual_int_e0 s1_ 0 ()) = .ret false := forL_ret hx0 (bif_t h7 (rfl)) hI0
    exact pret [] (congrArg (fun z => (.b z : AV)) (show slicesEqual_int s1_ s2_ = false from bif_f h1 (on_r hr8)).symm)
   ·
    have h7d := eq_of_bne h7
    refine awp_skip ?_
    refine rk tt_ok [(13, .i ((k0 + 1 : Nat) : Int))] [13, 24] [] [] [(0, .val (.i ((k0 + 1 : Nat) : Int)))] (o1 (ob_eq (av_i (wrap_succ k0 (by omega))))) ?_
    exact Exists.intro () (And.intro (weak_fit (by kernel_rfl)) (forL_next hx0 (bif_f h7 (rfl)) hI0))
  ·
   refine awp_seq ?_
   refine rk tt_ok [(14, .b false)] [] [] [] [(0, .val (.b false))] (o1 (ob_eq (av_bool (decide_eq_false (p := ((k0 : Nat) : Int) < (s1_.length : Int)) (by omega))))) ?_
   refine awp_seq ?_
   refine ckF ?_
   refine awp_exit ?_
   exact Exists.intro () (And.intro (weak_fit (by kernel_rfl)) (forL_end hk0 (rfl) hI0))
  ·
   refine awp_seq ?_
   refine rk tt_ok [(4, .b true)] [4] [] [] [] (o0) ?_
   refine awp_ret ?_
   exact pret [] (congrArg (fun z => (.b z : AV)) (show slicesEqual_int s1_ s2_ = true from bif_f h1 (on_b hD0 (rfl))).symm)
def implevaluated_f0 (r : (List ResultD)) (names : (List ByteArray)) (_ : Nat) (a0 : DirD) (s0 : (List ResultD)) : Rd ((List ResultD) × Int × Bool) ((List ResultD)) ((List ResultD)) := (bif (!(slicesContains_string names a0.1)) then (.next (s0 ++ [(a0.1, (implResultIDs r a0.1))])) else (.next (s0 ++ [((a0.1, []) : ResultD)])))
def implevaluated_e0 (_ : Nat) (s0 : (List ResultD)) : (List ResultD) := s0
def implevaluated_f3 (s_ : StoreD) (d : (List DirD)) (names : (List ByteArray)) (k1 : Nat) (k3 : Nat) (a3 : DirD) (s3 : (List ResultD) × Bool) : Rd (Rd (Rd ((List ResultD) × Int × Bool) ((List ResultD) × Int) ((List ResultD) × Int)) ((List ResultD) × Int × Bool) ((List ResultD) × Int)) ((List ResultD) × Bool) ((List ResultD) × Bool) := (bif (((nth (((implStrata d)).1) k3) != ((k1 : Nat) : Int)) || (!(slicesContains_string names a3.1))) then (.next (s3.1, s3.2)) else (bif (!(slicesEqual_int (implSelectFiles s_ a3.2 s3.1) ((nth s3.1 k3).2))) then (.next (List.set s3.1 k3 ((nth s3.1 k3).1, (implSelectFiles s_ a3.2 s3.1)), true)) else (.next (s3.1, s3.2))))
def implevaluated_e3 (_ : Nat) (s3 : (List ResultD) × Bool) : (List ResultD) × Bool := (s3.1, s3.2)
def implevaluated_f2 (s_ : StoreD) (d : (List DirD)) (names : (List ByteArray)) (k1 : Nat) (s2 : (List ResultD) × Int × Bool) : Rd (Rd ((List ResultD) × Int × Bool) ((List ResultD) × Int) ((List ResultD) × Int)) ((List ResultD) × Int × Bool) ((List ResultD) × Int) := (bif s2.2.2 then (Out.on (forL (implevaluated_f3 s_ d names k1) implevaluated_e3 d 0 (s2.1, false)) (fun y3 => (.next (y3.1, IntKind.i64.wrap (s2.2.1 + 1), y3.2)))) else (.brk (s2.1, s2.2.1)))
def implevaluated_f1 (s_ : StoreD) (d : (List DirD)) (names : (List ByteArray)) (k1 : Nat) (s1 : (List ResultD) × Int) : Rd ((List ResultD) × Int × Bool) ((List ResultD) × Int) ((List ResultD) × Int) := (Out.on (whlD (implevaluated_f2 s_ d names k1) (List.length d * List.length s_.2.1 + 2) (s1.1, s1.2, true)) (fun y2 => (.next (y2.1, y2.2))))
def implevaluated_e1 (_ : Nat) (s1 : (List ResultD) × Int) : (List ResultD) × Int := (s1.1, s1.2)
def implevaluated (s_ : StoreD) (d : (List DirD)) (r : (List ResultD)) (names : (List ByteArray)) : (List ResultD) × Int × Bool := (bif ((!(((implStrata d)).2)) || (!(implIsValidStore s_))) then ([], 0, false) else (Out.on (forL (implevaluated_f0 r names) implevaluated_e0 d 0 []) (fun y0 => (Out.on (forN (implevaluated_f1 s_ d names) implevaluated_e1 (Int.toNat ((implMaxStratum d) + 1)) 0 (y0, 0)) (fun y1 => (y1.1, y1.2, true))))))
theorem max_go {B : Int} {x : List Int} (hx : ∀ a, a ∈ x → a ≤ B) (hB : 0 ≤ B) : ∀ (n k : Nat) (s : Int), s ≤ B → ∃ t, forN (slicesMax_int_f0 x) slicesMax_int_e0 n k s = .brk t ∧ t ≤ B
 | 0, k, s, h => ⟨s, rfl, h⟩
 | n + 1, k, s, h => by
  obtain ⟨t, h1, h2⟩ := max_go hx hB n (k + 1) (max s (nth x (k + 1))) (by
   by_cases hk : k + 1 < x.length
   · have := hx _ (nth_mem hk); omega
   · rw [nth_out (by omega)]; omega)
  exact ⟨t, by simp only [forN, slicesMax_int_f0]; exact h1, h2⟩
theorem strata_factsI {d : List DirD} (h : ((implStrata d)).2 = true) : List.length ((implStrata d)).1 = List.length d ∧ List.length d ≤ 5 ∧ implMaxStratum d ≤ 5 := by
 obtain ⟨h1, h2, h3⟩ := strata_small h
 refine ⟨h1, h2, ?_⟩
 unfold implMaxStratum
 rw [h]
 simp only [Bool.not_true, Bool.false_or]
 cases hl : (((((implStrata d)).1).length : Int) == (0 : Int)) with
 | true => simp only [cond_true]; omega
 | false =>
  simp only [cond_false]
  have hp : 0 < (((implStrata d)).1).length := by have := ne_of_beq hl; omega
  unfold slicesMax_int
  obtain ⟨t, e, ht⟩ := max_go (B := 5) (x := ((implStrata d)).1) (fun a ha => (h3 a ha).2) (by omega) ((((implStrata d)).1).length - 1) 0 (nth ((implStrata d)).1 0) (h3 _ (nth_mem hp)).2
  rw [e]; exact ht
theorem eqI_dec (a b : List Int) : slicesEqual_int a b = decide (a = b) := ints_dec a b
def onD (d : List DirD) (names : List ByteArray) (j : Nat) : Bool := slicesContains_string names (nth d j).1
theorem evaluated_step (s_ : StoreD) (d : List DirD) (names : List ByteArray) (k1 : Nat) : StepE s_ d (implStrata d).1 (onD d names) (k1 : Int) (implevaluated_f3 s_ d names k1) := by
 intro k a o c hk
 have ha : nth d k = a := nth_of hk
 unfold implevaluated_f3 actD onD
 rw [ha, eqI_dec]
 simp only [bne]
 cases (nth (implStrata d).1 k == (k1 : Int)) <;> cases slicesContains_string names a.1 <;> rfl
section
variable {s_ : StoreD} {d : List DirD} {names : List ByteArray} {k1 : Nat} {o : List ResultD} {p : Int}
theorem evaluated_run (hS : ((implStrata d)).2 = true) (h : EvS d ((implStrata d)).1 (onD d names) (List.length s_.2.1) (k1 : Int) o) : ∃ o' p', whl (implevaluated_f2 s_ d names k1) (List.length d * List.length s_.2.1 + 2) (o, p, true) = some (.brk (o', p')) ∧ EvS d ((implStrata d)).1 (onD d names) (List.length s_.2.1) ((k1 : Int) + 1) o' :=
 ev_run (f := implevaluated_f3 s_ d names k1) (e := implevaluated_e3) (evaluated_step s_ d names k1) (fun _ _ => rfl) (fun _ => rfl) (Prod.ext rfl hS) h p
theorem evaluated_w (hS : ((implStrata d)).2 = true) (h : EvS d ((implStrata d)).1 (onD d names) (List.length s_.2.1) (((k1 : Nat)) : Int) o) : (whl (implevaluated_f2 s_ d names k1) (List.length d * List.length s_.2.1 + 2) (o, p, true)).isSome = true := by
 obtain ⟨o', p', h1, _⟩ := evaluated_run (p := p) hS h
 rw [h1]; rfl
theorem evaluated_next {y : List ResultD × Int} (hS : ((implStrata d)).2 = true) (h : EvS d ((implStrata d)).1 (onD d names) (List.length s_.2.1) (((k1 : Nat)) : Int) o) (hy : whlD (implevaluated_f2 s_ d names k1) (List.length d * List.length s_.2.1 + 2) (o, p, true) = .brk y) : EvS d ((implStrata d)).1 (onD d names) (List.length s_.2.1) ((((k1 + 1) : Nat)) : Int) y.1 := by
 obtain ⟨o', p', h1, h2⟩ := evaluated_run (p := p) hS h
 unfold whlD at hy
 rw [h1] at hy
 have e : (o', p') = y := by simpa using hy
 rw [← e, Int.natCast_add]; exact h2
def startG (r : List ResultD) (names : List ByteArray) (a : DirD) : List Int := bif (!(slicesContains_string names a.1)) then (implResultIDs r a.1) else []
theorem evaluated_start {r : List ResultD} (hy : forL (implevaluated_f0 r names) implevaluated_e0 d 0 [] = .brk o) : EvS d ((implStrata d)).1 (onD d names) (List.length s_.2.1) (((0 : Nat)) : Int) o := by
 obtain ⟨h1, h2⟩ := ev_start (L := ((implStrata d)).1) (on := onD d names) (B := List.length s_.2.1) (g := startG r names) (f := implevaluated_f0 r names) (e := implevaluated_e0) (d := d) (fun k a s => by
  unfold implevaluated_f0 startG
  cases slicesContains_string names a.1 <;> rfl) (fun j _ hj => by unfold onD at hj; unfold startG; rw [hj]; rfl)
 rw [h1] at hy
 have e : (d.map fun a => ((a.1, startG r names a) : ResultD)) = o := Out.brk.inj hy
 rw [← e]; exact h2
end
theorem implevaluated_a (s_ : StoreD) (d : (List DirD)) (r : (List ResultD)) (names : (List ByteArray)) : ACalls Tryz.prog 134 [.a [.h s_.1, .h s_.2.1, .i s_.2.2], .h d, .h r, .h names] (.tup [(false, [.o 0 (((implevaluated s_ d r names)).1)]), (false, [.i (((implevaluated s_ d r names)).2.1)]), (false, [.b (((implevaluated s_ d r names)).2.2)])]) := by
 refine acalls_of (tt := tt) tt_ok Tryz.func134 (fn := Tryz.f134) rfl (by unfold FnOk; kernel_rfl) (Nat.le_of_ble_eq_true rfl) fun w0 F0 => ?_
 refine awp_seq ?_
 refine rk tt_ok [(4, .p 4 0), (8, .e 0), (9, .i 0), (10, .b false)] [0] [(4, [.h s_.1, .h s_.2.1, .i s_.2.2])] [] [] (o0) ?_
 refine awp_seq ?_
 refine rk tt_ok [(11, .o 1600 (((implStrata d)).1)), (12, .b (((implStrata d)).2))] [] [] [] [(1, .val (.tup [(false, [.o 0 (((implStrata d)).1)]), (false, [.b (((implStrata d)).2)])]))] (o1 (ob_call (implStrata_a d))) ?_
 refine awp_seq ?_
 refine awp_seq ?_
 refine jn [(34, .b ((!(((implStrata d)).2)) || (!(implIsValidStore s_))))] [12] [] [] (!(((implStrata d)).2)) (fun h1 => ?_) (fun h1 => ?_) ?_
 ·
  have h1n : (((implStrata d)).2) = false := bnot_t h1
  refine rk tt_ok [(34, .b true)] [12] [] [] [(0, .val (.b false)), (1, .val (.b true))] (o2 (ob_eq (av_bool h1n)) (o1 (ob_eq (show .b (!false) = .b true from rfl)))) ?_
  exact ⟨rfl, weak_fit (by rw [h1]; first | done | kernel_rfl)⟩
 ·
  have h1n : (((implStrata d)).2) = true := bnot_f h1
  have h1nsf := strata_factsI h1n
  refine rk tt_ok [(34, .b (!(implIsValidStore s_)))] [12] [] [] [(0, .val (.b true)), (1, .val (.b false)), (4, .val (.b (implIsValidStore s_)))] (o2 (ob_eq (av_bool h1n)) (o2 (ob_eq (show .b (!true) = .b false from rfl)) (o1 (ob_call (implIsValidStore_a s_))))) ?_
  exact ⟨rfl, weak_fit (by rw [h1]; first | done | kernel_rfl)⟩
 refine ck ((!(((implStrata d)).2)) || (!(implIsValidStore s_))) (fun h2 => ?_) (fun h2 => ?_)
 ·
  refine awp_seq ?_
  refine rk tt_ok [] [34] [] [] [] (o0) ?_
  refine opn [(false, 8, 0, true, 384000, 2)] ?_
  refine awp_ret ?_
  exact pret [] (congrArg (fun z => (.tup [(false, [.o 0 z.1]), (false, [.i z.2.1]), (false, [.b z.2.2])] : AV)) (show implevaluated s_ d r names = ([], 0, false) from bif_t h2 (rfl)).symm)
 ·
  have h2l : ((!(((implStrata d)).2))) = false := or_l h2
  have h2ln : (((implStrata d)).2) = true := bnot_f h2l
  have h2lnsf := strata_factsI h2ln
  have h2r : ((!(implIsValidStore s_))) = false := or_r h2
  have h2rn : (implIsValidStore s_) = true := bnot_f h2r
  refine awp_skip ?_
  refine awp_seq ?_
  refine rk tt_ok [(13, .one (.slc (.own true 2240) 2 []))] [34] [] [] [] (o0) ?_
  refine awp_seq ?_
  refine awp_seq ?_
  refine rk tt_ok [(36, .h d), (37, .i (d.length : Int)), (38, .i 0)] [] [] [] [(1, .val (.i (d.length : Int)))] (o1 (ob_eq (av_len d))) ?_
  refine wdT 1 0 .sh d (fun hw3 => ?_)
  have hl4 : List.length d ≤ 1073741824 := wide_len (hw3)
  refine blk (fun (k0 : Nat) (s0 : (List ResultD)) => [(13, .o 147208 s0), (38, .i ((k0 : Nat) : Int))]) [13, 38] (fun k0 s0 => []) [] (fun (y0 : (List ResultD)) => [(13, .o 147358 y0)]) [2, 13, 36, 37, 38] (fun y0 => []) [] (fun (k0 : Nat) (s0 : (List ResultD)) => (forL (implevaluated_f0 r names) implevaluated_e0 d 0 []) = forL (implevaluated_f0 r names) implevaluated_e0 (List.drop k0 d) k0 s0 ∧ List.length s0 ≤ k0) (fun (y0 : (List ResultD)) => (forL (implevaluated_f0 r names) implevaluated_e0 d 0 []) = .brk y0) d.length [] (weak_sf [(2240, 147208)] (by kernel_rfl)) ⟨rfl, (by simp)⟩ (fun k0 s0 hk0 hI0 => ?_) (fun k0 s0 hk0 hI0 => ?_) (fun y0 hD0 => ?_)
  ·
   have hA0_0 := hI0.2
   obtain ⟨a0, hx0⟩ := get_some (l := d) (i := k0) hk0
   refine awp_seq ?_
   refine rk tt_ok [(39, .b true)] [] [] [] [(0, .val (.b true))] (o1 (ob_eq (av_bool (decide_eq_true (p := ((k0 : Nat) : Int) < (d.length : Int)) (by omega))))) ?_
   refine awp_seq ?_
   refine ckT ?_
   refine awp_skip ?_
   refine awp_seq ?_
   refine awp_block ?_
   refine awp_seq ?_
   refine rk tt_ok [(15, .p 15 0)] [39] [(15, [.s a0.1, .h a0.2])] [] [(0, .row [.s a0.1, .h a0.2])] (o1 (ob_elem (el_of (i := ((k0 : Nat) : Int)) (by omega) rfl hx0))) ?_
   refine awp_seq ?_
   refine rk tt_ok [(16, .p 16 0)] [] [(16, [.s a0.1, .e 1])] [] [] (o0) ?_
   refine awp_seq ?_
   refine awp_seq ?_
   refine rk tt_ok [(49, .b (!(slicesContains_string names a0.1)))] [] [] [] [(3, .val (.b (slicesContains_string names a0.1)))] (o1 (ob_call (slicesContains_string_a names a0.1))) ?_
   refine ck (!(slicesContains_string names a0.1)) (fun h5 => ?_) (fun h5 => ?_)
   ·
    have h5n : (slicesContains_string names a0.1) = false := bnot_t h5
    refine rk tt_ok [] [15, 49] [(16, [.s a0.1, .o 3392 (implResultIDs r a0.1)])] [15, 16] [(3, .val (.o 0 (implResultIDs r a0.1)))] (o1 (ob_call (implResultIDs_a r a0.1))) ?_
    refine wdT 13 0 (.own true 147208) s0 (fun hw6 => ?_)
    have hl7 : List.length s0 ≤ 1073741824 := wide_len (hw6)
    refine rk tt_ok [(13, .one (.slc (.own true 3712) 2 ((eL s0) ++ [[.s a0.1, .h (implResultIDs r a0.1)]])))] [13, 16] [] [16] [] (o1 (ob_len (len_of (eL_length s0) (eL_length [(a0.1, (implResultIDs r a0.1))]) (by first | omega | (simp; omega) | simp)))) ?_
    refine eqn [(13, .o 3712 (s0 ++ [(a0.1, (implResultIDs r a0.1))]))] [13] [] [] (by rw [show ((eL s0) ++ [[.s a0.1, .h (implResultIDs r a0.1)]]) = (eL (s0 ++ [(a0.1, (implResultIDs r a0.1))])) from app_eL (rfl) (rfl)]; first | done | kernel_rfl) ?_
    refine rk tt_ok [(38, .i ((k0 + 1 : Nat) : Int))] [38] [] [] [(0, .val (.i ((k0 + 1 : Nat) : Int)))] (o1 (ob_eq (av_i (wrap_succ k0 (by omega))))) ?_
    exact Exists.intro (s0 ++ [(a0.1, (implResultIDs r a0.1))]) (And.intro (weak_sf [(3712, 147208)] (by kernel_rfl)) ⟨forL_next hx0 (bif_t h5 (rfl)) hI0.1, by first | omega | (simp; omega) | simp⟩)
   ·
    have h5n : (slicesContains_string names a0.1) = true := bnot_f h5
    refine awp_skip ?_
    refine wdT 13 0 (.own true 147208) s0 (fun hw8 => ?_)
    have hl9 : List.length s0 ≤ 1073741824 := wide_len (hw8)
    refine rk tt_ok [(13, .one (.slc (.own true 3712) 2 ((eL s0) ++ [[.s a0.1, .slc 1 []]])))] [13, 15, 16, 49] [] [15, 16] [] (o1 (ob_len (len_of (eL_length s0) (eL_length [((a0.1, []) : ResultD)]) (by first | omega | (simp; omega) | simp)))) ?_
    refine eqn [(13, .o 3712 (s0 ++ [((a0.1, []) : ResultD)]))] [13] [] [] (by rw [show ((eL s0) ++ [[.s a0.1, .slc 1 []]]) = (eL (s0 ++ [((a0.1, []) : ResultD)])) from app_eL (rfl) (rfl)]; first | done | kernel_rfl) ?_
    refine rk tt_ok [(38, .i ((k0 + 1 : Nat) : Int))] [38] [] [] [(0, .val (.i ((k0 + 1 : Nat) : Int)))] (o1 (ob_eq (av_i (wrap_succ k0 (by omega))))) ?_
    exact Exists.intro (s0 ++ [((a0.1, []) : ResultD)]) (And.intro (weak_sf [(3712, 147208)] (by kernel_rfl)) ⟨forL_next hx0 (bif_f h5 (rfl)) hI0.1, by first | omega | (simp; omega) | simp⟩)
  ·
   have hA0_0 := hI0.2
   refine awp_seq ?_
   refine rk tt_ok [(39, .b false)] [] [] [] [(0, .val (.b false))] (o1 (ob_eq (av_bool (decide_eq_false (p := ((k0 : Nat) : Int) < (d.length : Int)) (by omega))))) ?_
   refine awp_seq ?_
   refine ckF ?_
   refine awp_exit ?_
   exact Exists.intro s0 (And.intro (weak_sf [(147208, 147358)] (by kernel_rfl)) (forL_end hk0 (rfl) hI0.1))
  ·
   refine awp_seq ?_
   refine rk tt_ok [(17, .i 0)] [] [] [] [] (o0) ?_
   refine awp_seq ?_
   refine awp_seq ?_
   refine rk tt_ok [(18, .i 0)] [] [] [] [] (o0) ?_
   refine blk (fun (k1 : Nat) (s1 : (List ResultD) × Int) => [(13, .o 147358 s1.1), (17, .i s1.2), (18, .i ((k1 : Nat) : Int))]) [13, 17, 18] (fun k1 s1 => []) [] (fun (y1 : (List ResultD) × Int) => [(13, .o 147358 y1.1), (17, .i y1.2)]) [1, 3, 4, 11, 13, 17, 18] (fun y1 => []) [4] (fun (k1 : Nat) (s1 : (List ResultD) × Int) => (forN (implevaluated_f1 s_ d names) implevaluated_e1 (Int.toNat ((implMaxStratum d) + 1)) 0 (y0, 0)) = forN (implevaluated_f1 s_ d names) implevaluated_e1 ((Int.toNat ((implMaxStratum d) + 1)) - k1) k1 s1 ∧ EvS d ((implStrata d)).1 (onD d names) (List.length s_.2.1) (((k1 : Nat)) : Int) s1.1 ∧ List.length s1.1 = List.length d) (fun (y1 : (List ResultD) × Int) => (forN (implevaluated_f1 s_ d names) implevaluated_e1 (Int.toNat ((implMaxStratum d) + 1)) 0 (y0, 0)) = .brk y1) (Int.toNat ((implMaxStratum d) + 1)) (y0, 0) (weak_fit (by kernel_rfl)) ⟨rfl, (by first | exact evaluated_start hD0 | exact evaluated_start hD0.1 | exact evS_len (B := List.length s_.2.1) (evaluated_start hD0) | exact evS_len (B := List.length s_.2.1) (evaluated_start hD0.1)), (by first | exact evaluated_start hD0 | exact evaluated_start hD0.1 | exact evS_len (B := List.length s_.2.1) (evaluated_start hD0) | exact evS_len (B := List.length s_.2.1) (evaluated_start hD0.1))⟩ (fun k1 s1 hk1 hI1 => ?_) (fun k1 s1 hk1 hI1 => ?_) (fun y1 hD1 => ?_)
   ·
    have hA1_0 := hI1.2.1
    have hA1_1 := hI1.2.2
    refine awp_seq ?_
    refine awp_seq ?_
    refine rk tt_ok [(63, .b true)] [] [] [] [(2, .val (.i (implMaxStratum d))), (3, .val (.b true))] (o2 (ob_call (implMaxStratum_a d)) (o1 (ob_eq (av_bool (decide_eq_true (p := ((k1 : Nat) : Int) ≤ (implMaxStratum d)) (by omega)))))) ?_
    refine ckT ?_
    refine awp_skip ?_
    refine awp_seq ?_
    refine awp_block ?_
    refine awp_seq ?_
    refine rk tt_ok [(19, .b true)] [63] [] [] [] (o0) ?_
    refine blw (fun (s2 : (List ResultD) × Int × Bool) => [(13, .o 147358 s2.1), (17, .i s2.2.1), (19, .b s2.2.2)]) [13, 17, 19] (fun s2 => []) [] (fun (y2 : (List ResultD) × Int) => [(13, .o 147358 y2.1), (17, .i y2.2)]) [13, 17, 19] (fun y2 => []) [] (fun (k2 : Nat) (s2 : (List ResultD) × Int × Bool) => whl (implevaluated_f2 s_ d names k1) k2 s2 = some (whlD (implevaluated_f2 s_ d names k1) (List.length d * List.length s_.2.1 + 2) (s1.1, s1.2, true)) ∧ List.length s2.1 = List.length d) (fun (y2 : (List ResultD) × Int) => (whlD (implevaluated_f2 s_ d names k1) (List.length d * List.length s_.2.1 + 2) (s1.1, s1.2, true)) = .brk y2) (List.length d * List.length s_.2.1 + 2) (s1.1, s1.2, true) (weak_fit (by kernel_rfl)) ⟨whl_some (evaluated_w (by assumption) (by assumption)), (by assumption)⟩ (fun _ h => whl_zero h.1) (fun k2 s2 hI2 => ?_) (fun y2 hD2 => ?_)
    ·
     have hA2_0 := hI2.2
     refine awp_seq ?_
     refine awp_seq ?_
     refine rk tt_ok [(66, .b s2.2.2)] [] [] [] [] (o0) ?_
     refine ck s2.2.2 (fun h10 => ?_) (fun h10 => ?_)
     ·
      refine awp_skip ?_
      refine awp_block ?_
      refine awp_seq ?_
      refine rk tt_ok [(19, .b false)] [19, 66] [] [] [] (o0) ?_
      refine awp_seq ?_
      refine rk tt_ok [(17, .i (IntKind.i64.wrap (s2.2.1 + 1)))] [17] [] [] [] (o0) ?_
      refine awp_seq ?_
      refine rk tt_ok [(69, .h d), (70, .i (d.length : Int)), (71, .i 0)] [] [] [] [(1, .val (.i (d.length : Int)))] (o1 (ob_eq (av_len d))) ?_
      refine blk (fun (k3 : Nat) (s3 : (List ResultD) × Bool) => [(13, .o 147358 s3.1), (19, .b s3.2), (71, .i ((k3 : Nat) : Int))]) [13, 19, 71] (fun k3 s3 => []) [] (fun (y3 : (List ResultD) × Bool) => [(13, .o 147358 y3.1), (19, .b y3.2)]) [13, 19, 69, 70, 71] (fun y3 => []) [] (fun (k3 : Nat) (s3 : (List ResultD) × Bool) => (forL (implevaluated_f3 s_ d names k1) implevaluated_e3 d 0 (s2.1, false)) = forL (implevaluated_f3 s_ d names k1) implevaluated_e3 (List.drop k3 d) k3 s3 ∧ List.length s3.1 = List.length s2.1) (fun (y3 : (List ResultD) × Bool) => (forL (implevaluated_f3 s_ d names k1) implevaluated_e3 d 0 (s2.1, false)) = .brk y3 ∧ List.length y3.1 = List.length s2.1) d.length (s2.1, false) (weak_fit (by kernel_rfl)) ⟨rfl, (by simp)⟩ (fun k3 s3 hk3 hI3 => ?_) (fun k3 s3 hk3 hI3 => ?_) (fun y3 hD3 => ?_)
      ·
       have hA3_0 := hI3.2
       obtain ⟨a3, hx3⟩ := get_some (l := d) (i := k3) hk3
       refine awp_seq ?_
       refine rk tt_ok [(72, .b true)] [] [] [] [(0, .val (.b true))] (o1 (ob_eq (av_bool (decide_eq_true (p := ((k3 : Nat) : Int) < (d.length : Int)) (by omega))))) ?_
       refine awp_seq ?_
       refine ckT ?_
       refine awp_skip ?_
       refine awp_seq ?_
       refine awp_block ?_
       refine awp_seq ?_
       refine rk tt_ok [(20, .i ((k3 : Nat) : Int)), (21, .p 21 0)] [72] [(21, [.s a3.1, .h a3.2])] [] [(1, .row [.s a3.1, .h a3.2])] (o1 (ob_elem (el_of (i := ((k3 : Nat) : Int)) (by omega) rfl hx3))) ?_
       refine awp_seq ?_
       refine awp_seq ?_
       refine jn [(88, .b (((nth (((implStrata d)).1) k3) != ((k1 : Nat) : Int)) || (!(slicesContains_string names a3.1))))] [] [] [] ((nth (((implStrata d)).1) k3) != ((k1 : Nat) : Int)) (fun h11 => ?_) (fun h11 => ?_) ?_
       ·
        have h11d := ne_of_bne h11
        refine wdT 11 0 (.own true 1600) (((implStrata d)).1) (fun hw13 => ?_)
        have hl14 : List.length (((implStrata d)).1) ≤ 1073741824 := wide_len (hw13)
        have hx12 : (((implStrata d)).1)[k3]? = some (nth (((implStrata d)).1) k3) := nth_get (by omega)
        refine rk tt_ok [(88, .b true)] [] [] [] [(2, .rowE [.i (nth (((implStrata d)).1) k3)]), (5, .val (.b true))] (o2 (ob_elem (el_of (i := ((k3 : Nat) : Int)) (by omega) rfl hx12)) (o1 (ob_eq (av_bool h11)))) ?_
        exact ⟨rfl, weak_fit (by rw [h11]; first | done | kernel_rfl)⟩
       ·
        have h11d := eq_of_bne h11
        refine wdT 11 0 (.own true 1600) (((implStrata d)).1) (fun hw16 => ?_)
        have hl17 : List.length (((implStrata d)).1) ≤ 1073741824 := wide_len (hw16)
        have hx15 : (((implStrata d)).1)[k3]? = some (nth (((implStrata d)).1) k3) := nth_get (by omega)
        refine rk tt_ok [(88, .b (!(slicesContains_string names a3.1)))] [] [] [] [(2, .rowE [.i (nth (((implStrata d)).1) k3)]), (5, .val (.b false)), (10, .val (.b (slicesContains_string names a3.1)))] (o2 (ob_elem (el_of (i := ((k3 : Nat) : Int)) (by omega) rfl hx15)) (o2 (ob_eq (av_bool h11)) (o1 (ob_call (slicesContains_string_a names a3.1))))) ?_
        exact ⟨rfl, weak_fit (by rw [h11]; first | done | kernel_rfl)⟩
       refine ck (((nth (((implStrata d)).1) k3) != ((k1 : Nat) : Int)) || (!(slicesContains_string names a3.1))) (fun h18 => ?_) (fun h18 => ?_)
       ·
        refine awp_exit ?_
        refine rk tt_ok [(71, .i ((k3 + 1 : Nat) : Int))] [20, 21, 71, 88] [] [21] [(0, .val (.i ((k3 + 1 : Nat) : Int)))] (o1 (ob_eq (av_i (wrap_succ k3 (by omega))))) ?_
        exact Exists.intro (s3.1, s3.2) (And.intro (weak_fit (by kernel_rfl)) ⟨forL_next hx3 (bif_t h18 (rfl)) hI3.1, (by first | omega | (simp only [List.length_set]; omega))⟩)
       ·
        have h18l : (((nth (((implStrata d)).1) k3) != ((k1 : Nat) : Int))) = false := or_l h18
        have h18ld := eq_of_bne h18l
        have h18r : ((!(slicesContains_string names a3.1))) = false := or_r h18
        have h18rn : (slicesContains_string names a3.1) = true := bnot_f h18r
        refine awp_skip ?_
        refine awp_seq ?_
        refine rk tt_ok [(22, .o 5952 (implSelectFiles s_ a3.2 s3.1))] [21, 88] [] [21] [(4, .val (.o 0 (implSelectFiles s_ a3.2 s3.1)))] (o1 (ob_call (implSelectFiles_a s_ a3.2 s3.1))) ?_
        refine awp_seq ?_
        refine wdT 13 0 (.own true 147358) s3.1 (fun hw20 => ?_)
        have hl21 : List.length s3.1 ≤ 1073741824 := wide_len (hw20)
        have hx19 : s3.1[k3]? = some (nth s3.1 k3) := nth_get (by omega)
        refine rk tt_ok [(101, .b (!(slicesEqual_int (implSelectFiles s_ a3.2 s3.1) ((nth s3.1 k3).2))))] [] [] [] [(3, .rowE [.s ((nth s3.1 k3).1), .h ((nth s3.1 k3).2)]), (6, .val (.b (slicesEqual_int (implSelectFiles s_ a3.2 s3.1) ((nth s3.1 k3).2))))] (o2 (ob_elem (el_of (i := ((k3 : Nat) : Int)) (by omega) rfl hx19)) (o1 (ob_call (slicesEqual_int_a (implSelectFiles s_ a3.2 s3.1) ((nth s3.1 k3).2))))) ?_
        refine ck (!(slicesEqual_int (implSelectFiles s_ a3.2 s3.1) ((nth s3.1 k3).2))) (fun h22 => ?_) (fun h22 => ?_)
        ·
         have h22n : (slicesEqual_int (implSelectFiles s_ a3.2 s3.1) ((nth s3.1 k3).2)) = false := bnot_t h22
         refine awp_seq ?_
         refine rk tt_ok [(13, .one (.slc (.own true 147358) 2 (setRow (eL s3.1) k3 1 [.h (implSelectFiles s_ a3.2 s3.1)])))] [13, 20, 22, 101] [] [] [(3, .rowE [.s ((nth s3.1 k3).1), .h ((nth s3.1 k3).2)])] (o1 (ob_elem (el_of (i := ((k3 : Nat) : Int)) (by omega) rfl hx19))) ?_
         refine eqn [(13, .o 147358 (List.set s3.1 k3 ((nth s3.1 k3).1, (implSelectFiles s_ a3.2 s3.1))))] [13] [] [] (by rw [setRow_eL (y := ((nth s3.1 k3).1, (implSelectFiles s_ a3.2 s3.1))) hx19 rfl]; first | done | kernel_rfl) ?_
         refine rk tt_ok [(19, .b true)] [19] [] [] [] (o0) ?_
         refine rk tt_ok [(71, .i ((k3 + 1 : Nat) : Int))] [71] [] [] [(0, .val (.i ((k3 + 1 : Nat) : Int)))] (o1 (ob_eq (av_i (wrap_succ k3 (by omega))))) ?_
         exact Exists.intro (List.set s3.1 k3 ((nth s3.1 k3).1, (implSelectFiles s_ a3.2 s3.1)), true) (And.intro (weak_fit (by kernel_rfl)) ⟨forL_next hx3 (bif_f h18 (bif_t h22 (rfl))) hI3.1, (by first | omega | (simp only [List.length_set]; omega))⟩)
        ·
         have h22n : (slicesEqual_int (implSelectFiles s_ a3.2 s3.1) ((nth s3.1 k3).2)) = true := bnot_f h22
         refine awp_skip ?_
         refine rk tt_ok [(71, .i ((k3 + 1 : Nat) : Int))] [20, 22, 71, 101] [] [] [(0, .val (.i ((k3 + 1 : Nat) : Int)))] (o1 (ob_eq (av_i (wrap_succ k3 (by omega))))) ?_
         exact Exists.intro (s3.1, s3.2) (And.intro (weak_fit (by kernel_rfl)) ⟨forL_next hx3 (bif_f h18 (bif_f h22 (rfl))) hI3.1, (by first | omega | (simp only [List.length_set]; omega))⟩)
      ·
       have hA3_0 := hI3.2
       refine awp_seq ?_
       refine rk tt_ok [(72, .b false)] [] [] [] [(0, .val (.b false))] (o1 (ob_eq (av_bool (decide_eq_false (p := ((k3 : Nat) : Int) < (d.length : Int)) (by omega))))) ?_
       refine awp_seq ?_
       refine ckF ?_
       refine awp_exit ?_
       exact Exists.intro (s3.1, s3.2) (And.intro (weak_fit (by kernel_rfl)) ⟨forL_end hk3 (rfl) hI3.1, by first | omega | (simp only [List.length_set]; omega)⟩)
      ·
       have hD3_0 := hD3.2
       exact Exists.intro (y3.1, IntKind.i64.wrap (s2.2.1 + 1), y3.2) (And.intro (weak_fit (by kernel_rfl)) ⟨whl_next (bif_t h10 (on_b hD3.1 (rfl))) hI2.1, (by first | omega | (simp only [List.length_set]; omega))⟩)
     ·
      refine awp_exit ?_
      exact Exists.intro (s2.1, s2.2.1) (And.intro (weak_fit (by kernel_rfl)) (whl_brk (bif_f h10 (rfl)) hI2.1))
    ·
     refine rk tt_ok [(18, .i ((k1 + 1 : Nat) : Int))] [18] [] [] [(1, .val (.i ((k1 + 1 : Nat) : Int)))] (o1 (ob_eq (av_i (wrap_succ k1 (by omega))))) ?_
     exact Exists.intro (y2.1, y2.2) (And.intro (weak_fit (by kernel_rfl)) ⟨forN_next hk1 (on_b hD2 (rfl)) hI1.1, (by first | exact evaluated_next (by assumption) (by assumption) (by assumption) | exact evS_len (B := List.length s_.2.1) (evaluated_next (by assumption) (by assumption) (by assumption))), (by first | exact evaluated_next (by assumption) (by assumption) (by assumption) | exact evS_len (B := List.length s_.2.1) (evaluated_next (by assumption) (by assumption) (by assumption)))⟩)
   ·
    have hA1_0 := hI1.2.1
    have hA1_1 := hI1.2.2
    refine awp_seq ?_
    refine awp_seq ?_
    refine rk tt_ok [(63, .b false)] [] [] [] [(2, .val (.i (implMaxStratum d))), (3, .val (.b false))] (o2 (ob_call (implMaxStratum_a d)) (o1 (ob_eq (av_bool (decide_eq_false (p := ((k1 : Nat) : Int) ≤ (implMaxStratum d)) (by omega)))))) ?_
    refine ckF ?_
    refine awp_exit ?_
    exact Exists.intro (s1.1, s1.2) (And.intro (weak_fit (by kernel_rfl)) (forN_end hk1 (rfl) hI1.1))
   ·
    refine awp_seq ?_
    refine rk tt_ok [(8, .o 147358 y1.1), (9, .i y1.2), (10, .b true)] [8, 9, 10, 13, 17] [] [] [] (o0) ?_
    refine awp_ret ?_
    exact pret [] (congrArg (fun z => (.tup [(false, [.o 0 z.1]), (false, [.i z.2.1]), (false, [.b z.2.2])] : AV)) (show implevaluated s_ d r names = (y1.1, y1.2, true) from bif_f h2 (on_b hD0 (on_b hD1 (rfl)))).symm)
def implEvaluate (s_ : StoreD) (d : (List DirD)) : (List ResultD) × Bool := (((implevaluated s_ d [] (implDirNames d))).1, ((implevaluated s_ d [] (implDirNames d))).2.2)
theorem implEvaluate_a (s_ : StoreD) (d : (List DirD)) : ACalls Tryz.prog 95 [.a [.h s_.1, .h s_.2.1, .i s_.2.2], .h d] (.tup [(false, [.o 0 (((implEvaluate s_ d)).1)]), (false, [.b (((implEvaluate s_ d)).2)])]) := by
 refine acalls_of (tt := tt) tt_ok Tryz.func95 (fn := Tryz.f95) rfl (by unfold FnOk; kernel_rfl) (Nat.le_of_ble_eq_true rfl) fun w0 F0 => ?_
 refine awp_seq ?_
 refine rk tt_ok [(2, .p 2 0), (4, .e 0), (5, .b false)] [0] [(2, [.h s_.1, .h s_.2.1, .i s_.2.2])] [] [] (o0) ?_
 refine awp_seq ?_
 refine rd' tt_ok tt_mx [(6, .o 896 (((implevaluated s_ d [] (implDirNames d))).1)), (8, .b (((implevaluated s_ d [] (implDirNames d))).2.2))] [1, 2] [] [2] [(3, .val (.o 0 (implDirNames d))), (4, .val (.tup [(false, [.o 0 (((implevaluated s_ d [] (implDirNames d))).1)]), (false, [.i (((implevaluated s_ d [] (implDirNames d))).2.1)]), (false, [.b (((implevaluated s_ d [] (implDirNames d))).2.2)])]))] (o2 (ob_call (implDirNames_a d)) (o1 (ob_call (acalls_args (.cons (ArgLe.rfl _) ( .cons (ArgLe.rfl _) ( .cons (ArgLe.nil 2) ( .cons (ArgLe.rfl _) (.nil))))) (implevaluated_a s_ d [] (implDirNames d)))))) ?_
 refine awp_seq ?_
 refine rk tt_ok [(4, .o 896 (((implevaluated s_ d [] (implDirNames d))).1)), (5, .b (((implevaluated s_ d [] (implDirNames d))).2.2))] [4, 5, 6, 8] [] [] [] (o0) ?_
 refine awp_ret ?_
 exact pret [] (congrArg (fun z => (.tup [(false, [.o 0 z.1]), (false, [.b z.2])] : AV)) (show implEvaluate s_ d = (((implevaluated s_ d [] (implDirNames d))).1, ((implevaluated s_ d [] (implDirNames d))).2.2) from rfl).symm)
def specMaxStratum_f0 (_ : Nat) (a0 : Int) (s0 : Int) : Rd (Int) (Int) (Int) := (bif decide (a0 > s0) then (.next a0) else (.next s0))
def specMaxStratum_e0 (_ : Nat) (s0 : Int) : Int := s0
def specMaxStratum (d : (List DirD)) : Int := (Out.on (forL specMaxStratum_f0 specMaxStratum_e0 (((specStrata d)).1) 0 (-1)) (fun y0 => y0))
theorem specMaxStratum_a (d : (List DirD)) : ACalls Tryz.prog 169 [.h d] (.i (specMaxStratum d)) := by
 refine acalls_of (tt := tt) tt_ok Tryz.func169 (fn := Tryz.f169) rfl (by unfold FnOk; kernel_rfl) (Nat.le_of_ble_eq_true rfl) fun w0 F0 => ?_
 refine awp_seq ?_
 refine rk tt_ok [(2, .i 0)] [] [] [] [] (o0) ?_
 refine awp_seq ?_
 refine rk tt_ok [(3, .o 576 (((specStrata d)).1))] [0] [] [] [(1, .val (.tup [(false, [.o 0 (((specStrata d)).1)]), (false, [.b (((specStrata d)).2)])]))] (o1 (ob_call (specStrata_a d))) ?_
 refine awp_seq ?_
 refine rk tt_ok [(5, .i (-1))] [] [] [] [] (o0) ?_
 refine awp_seq ?_
 refine awp_seq ?_
 refine rk tt_ok [(6, .i 0)] [] [] [] [] (o0) ?_
 refine wdT 3 0 (.own true 576) (((specStrata d)).1) (fun hw1 => ?_)
 have hl2 : List.length (((specStrata d)).1) ≤ 1073741824 := wide_len (hw1)
 refine blk (fun (k0 : Nat) (s0 : Int) => [(5, .i s0), (6, .i ((k0 : Nat) : Int))]) [5, 6] (fun k0 s0 => []) [] (fun (y0 : Int) => [(5, .i y0)]) [3, 5, 6] (fun y0 => []) [] (fun (k0 : Nat) (s0 : Int) => (forL specMaxStratum_f0 specMaxStratum_e0 (((specStrata d)).1) 0 (-1)) = forL specMaxStratum_f0 specMaxStratum_e0 (List.drop k0 (((specStrata d)).1)) k0 s0) (fun (y0 : Int) => (forL specMaxStratum_f0 specMaxStratum_e0 (((specStrata d)).1) 0 (-1)) = .brk y0) ((((specStrata d)).1).length) (-1) (weak_fit (by kernel_rfl)) rfl (fun k0 s0 hk0 hI0 => ?_) (fun k0 s0 hk0 hI0 => ?_) (fun y0 hD0 => ?_)
 ·
  obtain ⟨a0, hx0⟩ := get_some (l := ((specStrata d)).1) (i := k0) hk0
  refine awp_seq ?_
  refine awp_seq ?_
  refine rk tt_ok [(15, .b true)] [] [] [] [(2, .val (.i ((((specStrata d)).1).length : Int))), (3, .val (.b true))] (o2 (ob_eq (av_len (((specStrata d)).1))) (o1 (ob_eq (av_bool (decide_eq_true (p := ((k0 : Nat) : Int) < ((((specStrata d)).1).length : Int)) (by omega)))))) ?_
  refine ckT ?_
  refine awp_skip ?_
  refine awp_seq ?_
  refine awp_block ?_
  refine awp_seq ?_
  refine rk tt_ok [(23, .b (decide (a0 > s0)))] [15] [] [] [(2, .rowE [.i a0])] (o1 (ob_elem (el_of (i := ((k0 : Nat) : Int)) (by omega) rfl hx0))) ?_
  refine ck (decide (a0 > s0)) (fun h3 => ?_) (fun h3 => ?_)
  ·
   have h3d := of_decide_eq_true h3
   refine rk tt_ok [(5, .i a0)] [5, 23] [] [] [(2, .rowE [.i a0])] (o1 (ob_elem (el_of (i := ((k0 : Nat) : Int)) (by omega) rfl hx0))) ?_
   refine rk tt_ok [(6, .i ((k0 + 1 : Nat) : Int))] [6] [] [] [(1, .val (.i ((k0 + 1 : Nat) : Int)))] (o1 (ob_eq (av_i (wrap_succ k0 (by omega))))) ?_
   exact Exists.intro a0 (And.intro (weak_fit (by kernel_rfl)) (forL_next hx0 (bif_t h3 (rfl)) hI0))
  ·
   have h3d := of_decide_eq_false h3
   refine awp_skip ?_
   refine rk tt_ok [(6, .i ((k0 + 1 : Nat) : Int))] [6, 23] [] [] [(1, .val (.i ((k0 + 1 : Nat) : Int)))] (o1 (ob_eq (av_i (wrap_succ k0 (by omega))))) ?_
   exact Exists.intro s0 (And.intro (weak_fit (by kernel_rfl)) (forL_next hx0 (bif_f h3 (rfl)) hI0))
 ·
  refine awp_seq ?_
  refine awp_seq ?_
  refine rk tt_ok [(15, .b false)] [] [] [] [(2, .val (.i ((((specStrata d)).1).length : Int))), (3, .val (.b false))] (o2 (ob_eq (av_len (((specStrata d)).1))) (o1 (ob_eq (av_bool (decide_eq_false (p := ((k0 : Nat) : Int) < ((((specStrata d)).1).length : Int)) (by omega)))))) ?_
  refine ckF ?_
  refine awp_exit ?_
  exact Exists.intro s0 (And.intro (weak_fit (by kernel_rfl)) (forL_end hk0 (rfl) hI0))
 ·
  refine awp_seq ?_
  refine rk tt_ok [(2, .i y0)] [2, 5] [] [] [] (o0) ?_
  refine awp_ret ?_
  exact pret [] (congrArg (fun z => (.i z : AV)) (show specMaxStratum d = y0 from on_b hD0 (rfl)).symm)
def specl15Run_f0 (_ : Nat) (a0 : DirD) (s0 : (List ResultD)) : Rd ((List ResultD) × Int × Bool) ((List ResultD)) ((List ResultD)) := (.next (s0 ++ [((a0.1, []) : ResultD)]))
def specl15Run_e0 (_ : Nat) (s0 : (List ResultD)) : (List ResultD) := s0
def specl15Run_f3 (s_ : StoreD) (d : (List DirD)) (k1 : Nat) (k3 : Nat) (a3 : DirD) (s3 : (List ResultD) × Bool) : Rd (Rd (Rd ((List ResultD) × Int × Bool) ((List ResultD) × Int) ((List ResultD) × Int)) ((List ResultD) × Int × Bool) ((List ResultD) × Int)) ((List ResultD) × Bool) ((List ResultD) × Bool) := (bif ((nth (((specStrata d)).1) k3) != ((k1 : Nat) : Int)) then (.next (s3.1, s3.2)) else (bif (!(specl07Ints (specSelectFiles s_ a3.2 s3.1) ((nth s3.1 k3).2))) then (.next (List.set s3.1 k3 ((nth s3.1 k3).1, (specSelectFiles s_ a3.2 s3.1)), true)) else (.next (s3.1, s3.2))))
def specl15Run_e3 (_ : Nat) (s3 : (List ResultD) × Bool) : (List ResultD) × Bool := (s3.1, s3.2)
def specl15Run_f2 (s_ : StoreD) (d : (List DirD)) (k1 : Nat) (s2 : (List ResultD) × Int × Bool) : Rd (Rd ((List ResultD) × Int × Bool) ((List ResultD) × Int) ((List ResultD) × Int)) ((List ResultD) × Int × Bool) ((List ResultD) × Int) := (bif s2.2.2 then (Out.on (forL (specl15Run_f3 s_ d k1) specl15Run_e3 d 0 (s2.1, false)) (fun y3 => (.next (y3.1, IntKind.i64.wrap (s2.2.1 + 1), y3.2)))) else (.brk (s2.1, s2.2.1)))
def specl15Run_f1 (s_ : StoreD) (d : (List DirD)) (k1 : Nat) (s1 : (List ResultD) × Int) : Rd ((List ResultD) × Int × Bool) ((List ResultD) × Int) ((List ResultD) × Int) := (Out.on (whlD (specl15Run_f2 s_ d k1) (List.length d * List.length s_.2.1 + 2) (s1.1, s1.2, true)) (fun y2 => (.next (y2.1, y2.2))))
def specl15Run_e1 (_ : Nat) (s1 : (List ResultD) × Int) : (List ResultD) × Int := (s1.1, s1.2)
def specl15Run (s_ : StoreD) (d : (List DirD)) : (List ResultD) × Int × Bool := (bif ((!(((specStrata d)).2)) || (!(specIsValidStore s_))) then ([], 0, false) else (Out.on (forL specl15Run_f0 specl15Run_e0 d 0 []) (fun y0 => (Out.on (forN (specl15Run_f1 s_ d) specl15Run_e1 (Int.toNat ((specMaxStratum d) + 1)) 0 (y0, 0)) (fun y1 => (y1.1, y1.2, true))))))
theorem maxS_go {B : Int} : ∀ (x : List Int) (k : Nat) (s : Int), (∀ a, a ∈ x → a ≤ B) → s ≤ B → ∃ t, forL specMaxStratum_f0 specMaxStratum_e0 x k s = .brk t ∧ t ≤ B
 | [], k, s, _, h => ⟨s, rfl, h⟩
 | a :: x, k, s, hx, h => by
  simp only [forL, specMaxStratum_f0]
  cases hc : decide (a > s) with
  | true => exact maxS_go x (k + 1) a (fun b hb => hx b (List.mem_cons_of_mem _ hb)) (hx a (List.mem_cons_self ..))
  | false => exact maxS_go x (k + 1) s (fun b hb => hx b (List.mem_cons_of_mem _ hb)) h
theorem strata_factsS {d : List DirD} (h : ((specStrata d)).2 = true) : List.length ((specStrata d)).1 = List.length d ∧ List.length d ≤ 5 ∧ specMaxStratum d ≤ 5 := by
 have h' := h
 rw [strata_alike] at h'
 obtain ⟨h1, h2, h3⟩ := strata_small h'
 unfold specMaxStratum
 rw [strata_alike]
 obtain ⟨t, e, ht⟩ := maxS_go (B := 5) ((implStrata d)).1 0 (-1) (fun a ha => (h3 a ha).2) (by omega)
 refine ⟨h1, h2, ?_⟩
 rw [e]; exact ht
theorem l15Run_step (s_ : StoreD) (d : List DirD) (k1 : Nat) : StepE s_ d (implStrata d).1 (fun _ => true) (k1 : Int) (specl15Run_f3 s_ d k1) := by
 intro k a o c hk
 unfold specl15Run_f3 actD
 rw [ints_dec, strata_alike, ← select_eq]
 simp only [bne]
 cases (nth (implStrata d).1 k == (k1 : Int)) <;> rfl
section
variable {s_ : StoreD} {d : List DirD} {k1 : Nat} {o : List ResultD} {p : Int}
theorem l15Run_run (hS : ((specStrata d)).2 = true) (h : EvS d ((specStrata d)).1 (fun _ => true) (List.length s_.2.1) (k1 : Int) o) : ∃ o' p', whl (specl15Run_f2 s_ d k1) (List.length d * List.length s_.2.1 + 2) (o, p, true) = some (.brk (o', p')) ∧ EvS d ((specStrata d)).1 (fun _ => true) (List.length s_.2.1) ((k1 : Int) + 1) o' := by
 rw [strata_alike] at hS h ⊢
 exact ev_run (f := specl15Run_f3 s_ d k1) (e := specl15Run_e3) (l15Run_step s_ d k1) (fun _ _ => rfl) (fun _ => rfl) (Prod.ext rfl hS) h p
theorem l15Run_w (hS : ((specStrata d)).2 = true) (h : EvS d ((specStrata d)).1 (fun _ => true) (List.length s_.2.1) (((k1 : Nat)) : Int) o) : (whl (specl15Run_f2 s_ d k1) (List.length d * List.length s_.2.1 + 2) (o, p, true)).isSome = true := by
 obtain ⟨o', p', h1, _⟩ := l15Run_run (p := p) hS h
 rw [h1]; rfl
theorem l15Run_next {y : List ResultD × Int} (hS : ((specStrata d)).2 = true) (h : EvS d ((specStrata d)).1 (fun _ => true) (List.length s_.2.1) (((k1 : Nat)) : Int) o) (hy : whlD (specl15Run_f2 s_ d k1) (List.length d * List.length s_.2.1 + 2) (o, p, true) = .brk y) : EvS d ((specStrata d)).1 (fun _ => true) (List.length s_.2.1) ((((k1 + 1) : Nat)) : Int) y.1 := by
 obtain ⟨o', p', h1, h2⟩ := l15Run_run (p := p) hS h
 unfold whlD at hy
 rw [h1] at hy
 have e : (o', p') = y := by simpa using hy
 rw [← e, Int.natCast_add]; exact h2
theorem l15Run_start (hy : forL specl15Run_f0 specl15Run_e0 d 0 [] = .brk o) : EvS d ((specStrata d)).1 (fun _ => true) (List.length s_.2.1) (((0 : Nat)) : Int) o := by
 obtain ⟨h1, h2⟩ := ev_start (L := ((specStrata d)).1) (on := fun _ => true) (B := List.length s_.2.1) (g := fun _ => []) (f := specl15Run_f0) (e := specl15Run_e0) (d := d) (fun k a s => rfl) (fun j _ hj => rfl)
 rw [h1] at hy
 have e : (d.map fun a => ((a.1, ([] : List Int)) : ResultD)) = o := Out.brk.inj hy
 rw [← e]; exact h2
end
theorem specl15Run_a (s_ : StoreD) (d : (List DirD)) : ACalls Tryz.prog 126 [.a [.h s_.1, .h s_.2.1, .i s_.2.2], .h d] (.tup [(false, [.o 0 (((specl15Run s_ d)).1)]), (false, [.i (((specl15Run s_ d)).2.1)]), (false, [.b (((specl15Run s_ d)).2.2)])]) := by
 refine acalls_of (tt := tt) tt_ok Tryz.func126 (fn := Tryz.f126) rfl (by unfold FnOk; kernel_rfl) (Nat.le_of_ble_eq_true rfl) fun w0 F0 => ?_
 refine awp_seq ?_
 refine rk tt_ok [(2, .p 2 0), (4, .e 0), (5, .i 0), (6, .b false)] [0] [(2, [.h s_.1, .h s_.2.1, .i s_.2.2])] [] [] (o0) ?_
 refine awp_seq ?_
 refine rk tt_ok [(7, .o 1152 (((specStrata d)).1)), (8, .b (((specStrata d)).2))] [] [] [] [(1, .val (.tup [(false, [.o 0 (((specStrata d)).1)]), (false, [.b (((specStrata d)).2)])]))] (o1 (ob_call (specStrata_a d))) ?_
 refine awp_seq ?_
 refine awp_seq ?_
 refine jn [(27, .b ((!(((specStrata d)).2)) || (!(specIsValidStore s_))))] [8] [] [] (!(((specStrata d)).2)) (fun h1 => ?_) (fun h1 => ?_) ?_
 ·
  have h1n : (((specStrata d)).2) = false := bnot_t h1
  refine rk tt_ok [(27, .b true)] [8] [] [] [(0, .val (.b false)), (1, .val (.b true))] (o2 (ob_eq (av_bool h1n)) (o1 (ob_eq (show .b (!false) = .b true from rfl)))) ?_
  exact ⟨rfl, weak_fit (by rw [h1]; first | done | kernel_rfl)⟩
 ·
  have h1n : (((specStrata d)).2) = true := bnot_f h1
  have h1nsf := strata_factsS h1n
  refine rk tt_ok [(27, .b (!(specIsValidStore s_)))] [8] [] [] [(0, .val (.b true)), (1, .val (.b false)), (4, .val (.b (specIsValidStore s_)))] (o2 (ob_eq (av_bool h1n)) (o2 (ob_eq (show .b (!true) = .b false from rfl)) (o1 (ob_call (specIsValidStore_a s_))))) ?_
  exact ⟨rfl, weak_fit (by rw [h1]; first | done | kernel_rfl)⟩
 refine ck ((!(((specStrata d)).2)) || (!(specIsValidStore s_))) (fun h2 => ?_) (fun h2 => ?_)
 ·
  refine awp_seq ?_
  refine rk tt_ok [(4, .one (.slc (.own true 1792) 2 []))] [4, 27] [] [] [] (o0) ?_
  refine awp_ret ?_
  exact pret [] (congrArg (fun z => (.tup [(false, [.o 0 z.1]), (false, [.i z.2.1]), (false, [.b z.2.2])] : AV)) (show specl15Run s_ d = ([], 0, false) from bif_t h2 (rfl)).symm)
 ·
  have h2l : ((!(((specStrata d)).2))) = false := or_l h2
  have h2ln : (((specStrata d)).2) = true := bnot_f h2l
  have h2lnsf := strata_factsS h2ln
  have h2r : ((!(specIsValidStore s_))) = false := or_r h2
  have h2rn : (specIsValidStore s_) = true := bnot_f h2r
  refine awp_skip ?_
  refine awp_seq ?_
  refine rk tt_ok [(9, .one (.slc (.own true 1856) 2 []))] [27] [] [] [] (o0) ?_
  refine awp_seq ?_
  refine awp_seq ?_
  refine rk tt_ok [(10, .i 0)] [] [] [] [] (o0) ?_
  refine wdT 1 0 .sh d (fun hw3 => ?_)
  have hl4 : List.length d ≤ 1073741824 := wide_len (hw3)
  refine blk (fun (k0 : Nat) (s0 : (List ResultD)) => [(9, .o 147206 s0), (10, .i ((k0 : Nat) : Int))]) [9, 10] (fun k0 s0 => []) [] (fun (y0 : (List ResultD)) => [(9, .o 147356 y0)]) [9, 10] (fun y0 => []) [] (fun (k0 : Nat) (s0 : (List ResultD)) => (forL specl15Run_f0 specl15Run_e0 d 0 []) = forL specl15Run_f0 specl15Run_e0 (List.drop k0 d) k0 s0 ∧ List.length s0 ≤ k0) (fun (y0 : (List ResultD)) => (forL specl15Run_f0 specl15Run_e0 d 0 []) = .brk y0) d.length [] (weak_sf [(1856, 147206)] (by kernel_rfl)) ⟨rfl, (by simp)⟩ (fun k0 s0 hk0 hI0 => ?_) (fun k0 s0 hk0 hI0 => ?_) (fun y0 hD0 => ?_)
  ·
   have hA0_0 := hI0.2
   obtain ⟨a0, hx0⟩ := get_some (l := d) (i := k0) hk0
   refine awp_seq ?_
   refine awp_seq ?_
   refine rk tt_ok [(33, .b true)] [] [] [] [(2, .val (.i (d.length : Int))), (3, .val (.b true))] (o2 (ob_eq (av_len d)) (o1 (ob_eq (av_bool (decide_eq_true (p := ((k0 : Nat) : Int) < (d.length : Int)) (by omega)))))) ?_
   refine ckT ?_
   refine awp_skip ?_
   refine awp_seq ?_
   refine awp_block ?_
   refine wdT 9 0 (.own true 147206) s0 (fun hw5 => ?_)
   have hl6 : List.length s0 ≤ 1073741824 := wide_len (hw5)
   refine rk tt_ok [(9, .one (.slc (.own true 2880) 2 ((eL s0) ++ [[.s a0.1, .slc 1 []]])))] [9, 33] [] [] [(3, .row [.s a0.1, .h a0.2])] (o2 (ob_elem (el_of (i := ((k0 : Nat) : Int)) (by omega) rfl hx0)) (o1 (ob_len (len_of (eL_length s0) (eL_length [((a0.1, []) : ResultD)]) (by first | omega | (simp; omega) | simp))))) ?_
   refine eqn [(9, .o 2880 (s0 ++ [((a0.1, []) : ResultD)]))] [9] [] [] (by rw [show ((eL s0) ++ [[.s a0.1, .slc 1 []]]) = (eL (s0 ++ [((a0.1, []) : ResultD)])) from app_eL (rfl) (rfl)]; first | done | kernel_rfl) ?_
   refine rk tt_ok [(10, .i ((k0 + 1 : Nat) : Int))] [10] [] [] [(1, .val (.i ((k0 + 1 : Nat) : Int)))] (o1 (ob_eq (av_i (wrap_succ k0 (by omega))))) ?_
   exact Exists.intro (s0 ++ [((a0.1, []) : ResultD)]) (And.intro (weak_sf [(2880, 147206)] (by kernel_rfl)) ⟨forL_next hx0 (rfl) hI0.1, by first | omega | (simp; omega) | simp⟩)
  ·
   have hA0_0 := hI0.2
   refine awp_seq ?_
   refine awp_seq ?_
   refine rk tt_ok [(33, .b false)] [] [] [] [(2, .val (.i (d.length : Int))), (3, .val (.b false))] (o2 (ob_eq (av_len d)) (o1 (ob_eq (av_bool (decide_eq_false (p := ((k0 : Nat) : Int) < (d.length : Int)) (by omega)))))) ?_
   refine ckF ?_
   refine awp_exit ?_
   exact Exists.intro s0 (And.intro (weak_sf [(147206, 147356)] (by kernel_rfl)) (forL_end hk0 (rfl) hI0.1))
  ·
   refine awp_seq ?_
   refine rk tt_ok [(11, .i 0)] [] [] [] [] (o0) ?_
   refine awp_seq ?_
   refine awp_seq ?_
   refine rk tt_ok [(12, .i 0)] [] [] [] [] (o0) ?_
   refine blk (fun (k1 : Nat) (s1 : (List ResultD) × Int) => [(9, .o 147356 s1.1), (11, .i s1.2), (12, .i ((k1 : Nat) : Int))]) [9, 11, 12] (fun k1 s1 => []) [] (fun (y1 : (List ResultD) × Int) => [(9, .o 147356 y1.1), (11, .i y1.2)]) [1, 2, 7, 9, 11, 12] (fun y1 => []) [2] (fun (k1 : Nat) (s1 : (List ResultD) × Int) => (forN (specl15Run_f1 s_ d) specl15Run_e1 (Int.toNat ((specMaxStratum d) + 1)) 0 (y0, 0)) = forN (specl15Run_f1 s_ d) specl15Run_e1 ((Int.toNat ((specMaxStratum d) + 1)) - k1) k1 s1 ∧ EvS d ((specStrata d)).1 (fun _ => true) (List.length s_.2.1) (((k1 : Nat)) : Int) s1.1 ∧ List.length s1.1 = List.length d) (fun (y1 : (List ResultD) × Int) => (forN (specl15Run_f1 s_ d) specl15Run_e1 (Int.toNat ((specMaxStratum d) + 1)) 0 (y0, 0)) = .brk y1) (Int.toNat ((specMaxStratum d) + 1)) (y0, 0) (weak_fit (by kernel_rfl)) ⟨rfl, (by first | exact l15Run_start hD0 | exact l15Run_start hD0.1 | exact evS_len (B := List.length s_.2.1) (l15Run_start hD0) | exact evS_len (B := List.length s_.2.1) (l15Run_start hD0.1)), (by first | exact l15Run_start hD0 | exact l15Run_start hD0.1 | exact evS_len (B := List.length s_.2.1) (l15Run_start hD0) | exact evS_len (B := List.length s_.2.1) (l15Run_start hD0.1))⟩ (fun k1 s1 hk1 hI1 => ?_) (fun k1 s1 hk1 hI1 => ?_) (fun y1 hD1 => ?_)
   ·
    have hA1_0 := hI1.2.1
    have hA1_1 := hI1.2.2
    refine awp_seq ?_
    refine awp_seq ?_
    refine rk tt_ok [(49, .b true)] [] [] [] [(2, .val (.i (specMaxStratum d))), (3, .val (.b true))] (o2 (ob_call (specMaxStratum_a d)) (o1 (ob_eq (av_bool (decide_eq_true (p := ((k1 : Nat) : Int) ≤ (specMaxStratum d)) (by omega)))))) ?_
    refine ckT ?_
    refine awp_skip ?_
    refine awp_seq ?_
    refine awp_block ?_
    refine awp_seq ?_
    refine rk tt_ok [(13, .b true)] [49] [] [] [] (o0) ?_
    refine blw (fun (s2 : (List ResultD) × Int × Bool) => [(9, .o 147356 s2.1), (11, .i s2.2.1), (13, .b s2.2.2)]) [9, 11, 13] (fun s2 => []) [] (fun (y2 : (List ResultD) × Int) => [(9, .o 147356 y2.1), (11, .i y2.2)]) [9, 11, 13] (fun y2 => []) [] (fun (k2 : Nat) (s2 : (List ResultD) × Int × Bool) => whl (specl15Run_f2 s_ d k1) k2 s2 = some (whlD (specl15Run_f2 s_ d k1) (List.length d * List.length s_.2.1 + 2) (s1.1, s1.2, true)) ∧ List.length s2.1 = List.length d) (fun (y2 : (List ResultD) × Int) => (whlD (specl15Run_f2 s_ d k1) (List.length d * List.length s_.2.1 + 2) (s1.1, s1.2, true)) = .brk y2) (List.length d * List.length s_.2.1 + 2) (s1.1, s1.2, true) (weak_fit (by kernel_rfl)) ⟨whl_some (l15Run_w (by assumption) (by assumption)), (by assumption)⟩ (fun _ h => whl_zero h.1) (fun k2 s2 hI2 => ?_) (fun y2 hD2 => ?_)
    ·
     have hA2_0 := hI2.2
     refine awp_seq ?_
     refine awp_seq ?_
     refine rk tt_ok [(52, .b s2.2.2)] [] [] [] [] (o0) ?_
     refine ck s2.2.2 (fun h7 => ?_) (fun h7 => ?_)
     ·
      refine awp_skip ?_
      refine awp_block ?_
      refine awp_seq ?_
      refine rk tt_ok [(13, .b false)] [13, 52] [] [] [] (o0) ?_
      refine awp_seq ?_
      refine rk tt_ok [(11, .i (IntKind.i64.wrap (s2.2.1 + 1)))] [11] [] [] [] (o0) ?_
      refine awp_seq ?_
      refine rk tt_ok [(14, .i 0)] [] [] [] [] (o0) ?_
      refine blk (fun (k3 : Nat) (s3 : (List ResultD) × Bool) => [(9, .o 147356 s3.1), (13, .b s3.2), (14, .i ((k3 : Nat) : Int))]) [9, 13, 14] (fun k3 s3 => []) [] (fun (y3 : (List ResultD) × Bool) => [(9, .o 147356 y3.1), (13, .b y3.2)]) [9, 13, 14] (fun y3 => []) [] (fun (k3 : Nat) (s3 : (List ResultD) × Bool) => (forL (specl15Run_f3 s_ d k1) specl15Run_e3 d 0 (s2.1, false)) = forL (specl15Run_f3 s_ d k1) specl15Run_e3 (List.drop k3 d) k3 s3 ∧ List.length s3.1 = List.length s2.1) (fun (y3 : (List ResultD) × Bool) => (forL (specl15Run_f3 s_ d k1) specl15Run_e3 d 0 (s2.1, false)) = .brk y3 ∧ List.length y3.1 = List.length s2.1) d.length (s2.1, false) (weak_fit (by kernel_rfl)) ⟨rfl, (by simp)⟩ (fun k3 s3 hk3 hI3 => ?_) (fun k3 s3 hk3 hI3 => ?_) (fun y3 hD3 => ?_)
      ·
       have hA3_0 := hI3.2
       obtain ⟨a3, hx3⟩ := get_some (l := d) (i := k3) hk3
       refine awp_seq ?_
       refine awp_seq ?_
       refine rk tt_ok [(58, .b true)] [] [] [] [(2, .val (.i (d.length : Int))), (3, .val (.b true))] (o2 (ob_eq (av_len d)) (o1 (ob_eq (av_bool (decide_eq_true (p := ((k3 : Nat) : Int) < (d.length : Int)) (by omega)))))) ?_
       refine ckT ?_
       refine awp_skip ?_
       refine awp_seq ?_
       refine awp_block ?_
       refine awp_seq ?_
       refine awp_seq ?_
       refine wdT 7 0 (.own true 1152) (((specStrata d)).1) (fun hw9 => ?_)
       have hl10 : List.length (((specStrata d)).1) ≤ 1073741824 := wide_len (hw9)
       have hx8 : (((specStrata d)).1)[k3]? = some (nth (((specStrata d)).1) k3) := nth_get (by omega)
       refine rk tt_ok [(66, .b ((nth (((specStrata d)).1) k3) != ((k1 : Nat) : Int)))] [58] [] [] [(2, .rowE [.i (nth (((specStrata d)).1) k3)])] (o1 (ob_elem (el_of (i := ((k3 : Nat) : Int)) (by omega) rfl hx8))) ?_
       refine ck ((nth (((specStrata d)).1) k3) != ((k1 : Nat) : Int)) (fun h11 => ?_) (fun h11 => ?_)
       ·
        have h11d := ne_of_bne h11
        refine awp_exit ?_
        refine rk tt_ok [(14, .i ((k3 + 1 : Nat) : Int))] [14, 66] [] [] [(1, .val (.i ((k3 + 1 : Nat) : Int)))] (o1 (ob_eq (av_i (wrap_succ k3 (by omega))))) ?_
        exact Exists.intro (s3.1, s3.2) (And.intro (weak_fit (by kernel_rfl)) ⟨forL_next hx3 (bif_t h11 (rfl)) hI3.1, (by first | omega | (simp only [List.length_set]; omega))⟩)
       ·
        have h11d := eq_of_bne h11
        refine awp_skip ?_
        refine awp_seq ?_
        refine rd' tt_ok tt_mx [(15, .o 4736 (specSelectFiles s_ a3.2 s3.1))] [66] [] [] [(3, .row [.s a3.1, .h a3.2]), (7, .val (.o 0 (specSelectFiles s_ a3.2 s3.1)))] (o2 (ob_elem (el_of (i := ((k3 : Nat) : Int)) (by omega) rfl hx3)) (o1 (ob_call (specSelectFiles_a s_ a3.2 s3.1)))) ?_
        refine awp_seq ?_
        refine wdT 9 0 (.own true 147356) s3.1 (fun hw13 => ?_)
        have hl14 : List.length s3.1 ≤ 1073741824 := wide_len (hw13)
        have hx12 : s3.1[k3]? = some (nth s3.1 k3) := nth_get (by omega)
        refine rk tt_ok [(82, .b (!(specl07Ints (specSelectFiles s_ a3.2 s3.1) ((nth s3.1 k3).2))))] [] [] [] [(3, .rowE [.s ((nth s3.1 k3).1), .h ((nth s3.1 k3).2)]), (6, .val (.b (specl07Ints (specSelectFiles s_ a3.2 s3.1) ((nth s3.1 k3).2))))] (o2 (ob_elem (el_of (i := ((k3 : Nat) : Int)) (by omega) rfl hx12)) (o1 (ob_call (specl07Ints_a (specSelectFiles s_ a3.2 s3.1) ((nth s3.1 k3).2))))) ?_
        refine ck (!(specl07Ints (specSelectFiles s_ a3.2 s3.1) ((nth s3.1 k3).2))) (fun h15 => ?_) (fun h15 => ?_)
        ·
         have h15n : (specl07Ints (specSelectFiles s_ a3.2 s3.1) ((nth s3.1 k3).2)) = false := bnot_t h15
         refine awp_seq ?_
         refine rk tt_ok [(9, .one (.slc (.own true 147356) 2 (setRow (eL s3.1) k3 1 [.h (specSelectFiles s_ a3.2 s3.1)])))] [9, 15, 82] [] [] [(3, .rowE [.s ((nth s3.1 k3).1), .h ((nth s3.1 k3).2)])] (o1 (ob_elem (el_of (i := ((k3 : Nat) : Int)) (by omega) rfl hx12))) ?_
         refine eqn [(9, .o 147356 (List.set s3.1 k3 ((nth s3.1 k3).1, (specSelectFiles s_ a3.2 s3.1))))] [9] [] [] (by rw [setRow_eL (y := ((nth s3.1 k3).1, (specSelectFiles s_ a3.2 s3.1))) hx12 rfl]; first | done | kernel_rfl) ?_
         refine rk tt_ok [(13, .b true)] [13] [] [] [] (o0) ?_
         refine rk tt_ok [(14, .i ((k3 + 1 : Nat) : Int))] [14] [] [] [(1, .val (.i ((k3 + 1 : Nat) : Int)))] (o1 (ob_eq (av_i (wrap_succ k3 (by omega))))) ?_
         exact Exists.intro (List.set s3.1 k3 ((nth s3.1 k3).1, (specSelectFiles s_ a3.2 s3.1)), true) (And.intro (weak_fit (by kernel_rfl)) ⟨forL_next hx3 (bif_f h11 (bif_t h15 (rfl))) hI3.1, (by first | omega | (simp only [List.length_set]; omega))⟩)
        ·
         have h15n : (specl07Ints (specSelectFiles s_ a3.2 s3.1) ((nth s3.1 k3).2)) = true := bnot_f h15
         refine awp_skip ?_
         refine rk tt_ok [(14, .i ((k3 + 1 : Nat) : Int))] [14, 15, 82] [] [] [(1, .val (.i ((k3 + 1 : Nat) : Int)))] (o1 (ob_eq (av_i (wrap_succ k3 (by omega))))) ?_
         exact Exists.intro (s3.1, s3.2) (And.intro (weak_fit (by kernel_rfl)) ⟨forL_next hx3 (bif_f h11 (bif_f h15 (rfl))) hI3.1, (by first | omega | (simp only [List.length_set]; omega))⟩)
      ·
       have hA3_0 := hI3.2
       refine awp_seq ?_
       refine awp_seq ?_
       refine rk tt_ok [(58, .b false)] [] [] [] [(2, .val (.i (d.length : Int))), (3, .val (.b false))] (o2 (ob_eq (av_len d)) (o1 (ob_eq (av_bool (decide_eq_false (p := ((k3 : Nat) : Int) < (d.length : Int)) (by omega)))))) ?_
       refine ckF ?_
       refine awp_exit ?_
       exact Exists.intro (s3.1, s3.2) (And.intro (weak_fit (by kernel_rfl)) ⟨forL_end hk3 (rfl) hI3.1, by first | omega | (simp only [List.length_set]; omega)⟩)
      ·
       have hD3_0 := hD3.2
       exact Exists.intro (y3.1, IntKind.i64.wrap (s2.2.1 + 1), y3.2) (And.intro (weak_fit (by kernel_rfl)) ⟨whl_next (bif_t h7 (on_b hD3.1 (rfl))) hI2.1, (by first | omega | (simp only [List.length_set]; omega))⟩)
     ·
      refine awp_exit ?_
      exact Exists.intro (s2.1, s2.2.1) (And.intro (weak_fit (by kernel_rfl)) (whl_brk (bif_f h7 (rfl)) hI2.1))
    ·
     refine rk tt_ok [(12, .i ((k1 + 1 : Nat) : Int))] [12] [] [] [(1, .val (.i ((k1 + 1 : Nat) : Int)))] (o1 (ob_eq (av_i (wrap_succ k1 (by omega))))) ?_
     exact Exists.intro (y2.1, y2.2) (And.intro (weak_fit (by kernel_rfl)) ⟨forN_next hk1 (on_b hD2 (rfl)) hI1.1, (by first | exact l15Run_next (by assumption) (by assumption) (by assumption) | exact evS_len (B := List.length s_.2.1) (l15Run_next (by assumption) (by assumption) (by assumption))), (by first | exact l15Run_next (by assumption) (by assumption) (by assumption) | exact evS_len (B := List.length s_.2.1) (l15Run_next (by assumption) (by assumption) (by assumption)))⟩)
   ·
    have hA1_0 := hI1.2.1
    have hA1_1 := hI1.2.2
    refine awp_seq ?_
    refine awp_seq ?_
    refine rk tt_ok [(49, .b false)] [] [] [] [(2, .val (.i (specMaxStratum d))), (3, .val (.b false))] (o2 (ob_call (specMaxStratum_a d)) (o1 (ob_eq (av_bool (decide_eq_false (p := ((k1 : Nat) : Int) ≤ (specMaxStratum d)) (by omega)))))) ?_
    refine ckF ?_
    refine awp_exit ?_
    exact Exists.intro (s1.1, s1.2) (And.intro (weak_fit (by kernel_rfl)) (forN_end hk1 (rfl) hI1.1))
   ·
    refine awp_seq ?_
    refine rk tt_ok [(4, .o 147356 y1.1), (5, .i y1.2), (6, .b true)] [4, 5, 6, 9, 11] [] [] [] (o0) ?_
    refine awp_ret ?_
    exact pret [] (congrArg (fun z => (.tup [(false, [.o 0 z.1]), (false, [.i z.2.1]), (false, [.b z.2.2])] : AV)) (show specl15Run s_ d = (y1.1, y1.2, true) from bif_f h2 (on_b hD0 (on_b hD1 (rfl)))).symm)
def specEvaluate (s_ : StoreD) (d : (List DirD)) : (List ResultD) × Bool := (((specl15Run s_ d)).1, ((specl15Run s_ d)).2.2)
theorem specEvaluate_a (s_ : StoreD) (d : (List DirD)) : ACalls Tryz.prog 88 [.a [.h s_.1, .h s_.2.1, .i s_.2.2], .h d] (.tup [(false, [.o 0 (((specEvaluate s_ d)).1)]), (false, [.b (((specEvaluate s_ d)).2)])]) := by
 refine acalls_of (tt := tt) tt_ok Tryz.func88 (fn := Tryz.f88) rfl (by unfold FnOk; kernel_rfl) (Nat.le_of_ble_eq_true rfl) fun w0 F0 => ?_
 refine awp_seq ?_
 refine rk tt_ok [(2, .p 2 0), (4, .e 0), (5, .b false)] [0] [(2, [.h s_.1, .h s_.2.1, .i s_.2.2])] [] [] (o0) ?_
 refine awp_seq ?_
 refine rk tt_ok [(6, .o 768 (((specl15Run s_ d)).1)), (8, .b (((specl15Run s_ d)).2.2))] [1, 2] [] [2] [(2, .val (.tup [(false, [.o 0 (((specl15Run s_ d)).1)]), (false, [.i (((specl15Run s_ d)).2.1)]), (false, [.b (((specl15Run s_ d)).2.2)])]))] (o1 (ob_call (specl15Run_a s_ d))) ?_
 refine awp_seq ?_
 refine rk tt_ok [(4, .o 768 (((specl15Run s_ d)).1)), (5, .b (((specl15Run s_ d)).2.2))] [4, 5, 6, 8] [] [] [] (o0) ?_
 refine awp_ret ?_
 exact pret [] (congrArg (fun z => (.tup [(false, [.o 0 z.1]), (false, [.b z.2])] : AV)) (show specEvaluate s_ d = (((specl15Run s_ d)).1, ((specl15Run s_ d)).2.2) from rfl).symm)
end Go.Proofs.YtnhmnfmhnepjmaaGreat
