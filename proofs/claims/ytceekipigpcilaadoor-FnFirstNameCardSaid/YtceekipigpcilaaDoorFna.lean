/- What functions compute, and that they do (printed by am2.py): each function as a Lean function, then its contract. -/
import Derived.Test.YtceekipigpcilaaDoorPla
import Derived.Test.YtceekipigpcilaaDoorZc
import Derived.Test.YtceekipigpcilaaDoorFj
import Derived.Test.YtceekipigpcilaaDoorScn
import Derived.KernelRfl
set_option linter.unusedVariables false
set_option linter.unusedSimpArgs false
namespace Go.Proofs.YtceekipigpcilaaDoor
open Go.RowKit
open GoE (enc wide)
def implfileAt_1 (f : FileD) (q0 : Int) : Bool := (f.1 == q0)
theorem implfileAt_1_a (f : FileD) (q0 : Int) : ACalls Tryd.prog 41 [.a [.i f.1, .i f.2.1, .b f.2.2.1, .i f.2.2.2.1, .h f.2.2.2.2], .one (.rptr .sh [.i q0])] (.b (implfileAt_1 f q0)) := by
  refine acalls_of (tt := tt) tt_ok Tryd.func41 (fn := Tryd.f41) rfl (by unfold FnOk; kernel_rfl) (Nat.le_of_ble_eq_true rfl) fun w0 F0 hG => ?_
  refine awp_seq ?_
  refine rk tt_ok [(2, .p 2 0), (3, .b false)] [0] [(2, [.i f.1, .i f.2.1, .b f.2.2.1, .i f.2.2.2.1, .h f.2.2.2.2])] [] [] (o0) ?_
  refine awp_seq ?_
  refine rk tt_ok [(3, .b (f.1 == q0))] [1, 2, 3] [] [2] [] (o0) ?_
  refine awp_ret ?_
  exact pret [] (congrArg (fun z => (.b z : AV)) (show implfileAt_1 f q0 = (f.1 == q0) from rfl).symm)
def slicesIndexFunc_File_implfileAt_1_f0 (c0 : Int) (k0 : Nat) (a0 : FileD) (_ : Unit) : Rd (Int) (Unit) (Unit) := (bif (implfileAt_1 a0 c0) then (.ret ((k0 : Nat) : Int)) else (.next ()))
def slicesIndexFunc_File_implfileAt_1_e0 (_ : Nat) (_ : Unit) : Unit := ()
def slicesIndexFunc_File_implfileAt_1 (s_ : (List FileD)) (c0 : Int) : Int := (Out.on (forL (slicesIndexFunc_File_implfileAt_1_f0 c0) slicesIndexFunc_File_implfileAt_1_e0 s_ 0 ()) (fun _ => -1))
theorem slicesIndexFunc_File_implfileAt_1_a (s_ : (List FileD)) (c0 : Int) : ACalls Tryd.prog 40 [.h s_, .one (.fnr 41 [[.i c0]])] (.i (slicesIndexFunc_File_implfileAt_1 s_ c0)) := by
  refine acalls_of (tt := tt) tt_ok Tryd.func40 (fn := Tryd.f40) rfl (by unfold FnOk; kernel_rfl) (Nat.le_of_ble_eq_true rfl) fun w0 F0 hG => ?_
  refine awp_seq ?_
  refine rk tt_ok [(4, .i 0)] [] [] [] [] (o0) ?_
  refine awp_seq ?_
  refine awp_seq ?_
  refine rk tt_ok [(7, .i (s_.length : Int)), (8, .i 0)] [] [] [] [(1, .val (.i (s_.length : Int)))] (o1 (ob_eq (av_len s_))) ?_
  refine wdT 0 0 .sh s_ (fun hw1 => ?_)
  have hl2 : List.length s_ ≤ 1073741824 := wide_len (hw1)
  refine blk (fun (k0 : Nat) (s0 : Unit) => [(8, .i ((k0 : Nat) : Int))]) [8] (fun k0 s0 => []) [] (fun (y0 : Unit) => []) [0, 1, 7, 8] (fun y0 => []) [] (fun (k0 : Nat) (s0 : Unit) => (forL (slicesIndexFunc_File_implfileAt_1_f0 c0) slicesIndexFunc_File_implfileAt_1_e0 s_ 0 ()) = forL (slicesIndexFunc_File_implfileAt_1_f0 c0) slicesIndexFunc_File_implfileAt_1_e0 (List.drop k0 s_) k0 s0) (fun (y0 : Unit) => (forL (slicesIndexFunc_File_implfileAt_1_f0 c0) slicesIndexFunc_File_implfileAt_1_e0 s_ 0 ()) = .brk y0) s_.length () (weak_fit (by kernel_rfl)) rfl (fun k0 s0 hk0 hI0 => ?_) (fun k0 s0 hk0 hI0 => ?_) (fun y0 hD0 => ?_)
  ·
    obtain ⟨a0, hx0⟩ := get_some (l := s_) (i := k0) hk0
    refine awp_seq ?_
    refine rk tt_ok [(9, .b true)] [] [] [] [(0, .val (.b true))] (o1 (ob_eq (av_bool (decide_eq_true (p := ((k0 : Nat) : Int) < (s_.length : Int)) (by omega))))) ?_
    refine awp_seq ?_
    refine ckT ?_
    refine awp_skip ?_
    refine awp_seq ?_
    refine awp_block ?_
    refine awp_seq ?_
    refine rk tt_ok [(5, .i ((k0 : Nat) : Int))] [9] [] [] [] (o0) ?_
    refine awp_seq ?_
    refine rk tt_ok [(16, .b (implfileAt_1 a0 c0))] [] [] [] [(3, .row [.i a0.1, .i a0.2.1, .b a0.2.2.1, .i a0.2.2.2.1, .h a0.2.2.2.2]), (5, .val (.b (implfileAt_1 a0 c0)))] (o2 (ob_elem (el_of (i := ((k0 : Nat) : Int)) (by omega) rfl hx0)) (o1 (ob_call (implfileAt_1_a a0 c0)))) ?_
    refine ck (implfileAt_1 a0 c0) (fun h3 => ?_) (fun h3 => ?_)
    ·
      refine awp_seq ?_
      refine rk tt_ok [(4, .i ((k0 : Nat) : Int))] [4, 5, 16] [] [] [] (o0) ?_
      refine awp_ret ?_
      have hr4 : (forL (slicesIndexFunc_File_implfileAt_1_f0 c0) slicesIndexFunc_File_implfileAt_1_e0 s_ 0 ()) = .ret ((k0 : Nat) : Int) := forL_ret hx0 (bif_t h3 (rfl)) hI0
      exact pret [] (congrArg (fun z => (.i z : AV)) (show slicesIndexFunc_File_implfileAt_1 s_ c0 = ((k0 : Nat) : Int) from on_r hr4).symm)
    ·
      refine awp_skip ?_
      refine rk tt_ok [(8, .i ((k0 + 1 : Nat) : Int))] [5, 8, 16] [] [] [(0, .val (.i ((k0 + 1 : Nat) : Int)))] (o1 (ob_eq (av_i (wrap_succ k0 (by omega))))) ?_
      exact Exists.intro () (And.intro (weak_fit (by kernel_rfl)) (forL_next hx0 (bif_f h3 (rfl)) hI0))
  ·
    refine awp_seq ?_
    refine rk tt_ok [(9, .b false)] [] [] [] [(0, .val (.b false))] (o1 (ob_eq (av_bool (decide_eq_false (p := ((k0 : Nat) : Int) < (s_.length : Int)) (by omega))))) ?_
    refine awp_seq ?_
    refine ckF ?_
    refine awp_exit ?_
    exact Exists.intro () (And.intro (weak_fit (by kernel_rfl)) (forL_end hk0 (rfl) hI0))
  ·
    refine awp_seq ?_
    refine rk tt_ok [(4, .i (-1))] [4] [] [] [] (o0) ?_
    refine awp_ret ?_
    exact pret [] (congrArg (fun z => (.i z : AV)) (show slicesIndexFunc_File_implfileAt_1 s_ c0 = -1 from on_b hD0 (rfl)).symm)
def implfileAt (s_ : StoreD) (id : Int) : Int := (slicesIndexFunc_File_implfileAt_1 s_.2.1 id)
theorem implfileAt_a (s_ : StoreD) (id : Int) : ACalls Tryd.prog 31 [.a [.h s_.1, .h s_.2.1, .i s_.2.2], .i id] (.i (implfileAt s_ id)) := by
  refine acalls_of (tt := tt) tt_ok Tryd.func31 (fn := Tryd.f31) rfl (by unfold FnOk; kernel_rfl) (Nat.le_of_ble_eq_true rfl) fun w0 F0 hG => ?_
  refine awp_seq ?_
  refine rk tt_ok [(2, .p 2 0), (3, .p 3 0), (4, .i 0)] [0, 1] [(2, [.h s_.1, .h s_.2.1, .i s_.2.2]), (3, [.i id])] [] [] (o0) ?_
  refine awp_seq ?_
  refine rk tt_ok [(4, .i (slicesIndexFunc_File_implfileAt_1 s_.2.1 id))] [2, 3, 4] [] [2, 3] [(3, .val (.i (slicesIndexFunc_File_implfileAt_1 s_.2.1 id)))] (o1 (ob_call (slicesIndexFunc_File_implfileAt_1_a s_.2.1 id))) ?_
  refine awp_ret ?_
  exact pret [] (congrArg (fun z => (.i z : AV)) (show implfileAt s_ id = (slicesIndexFunc_File_implfileAt_1 s_.2.1 id) from rfl).symm)
end Go.Proofs.YtceekipigpcilaaDoor
