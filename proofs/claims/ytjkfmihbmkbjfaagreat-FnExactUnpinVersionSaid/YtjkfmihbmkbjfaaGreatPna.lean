/- What functions compute, and that they do (printed by am2.py): each function as a Lean function, then its contract. -/
import Derived.Test.YtjkfmihbmkbjfaaGreatCvb
import Derived.KernelRfl
set_option linter.unusedVariables false
set_option linter.unusedSimpArgs false
namespace Go.Proofs.YtjkfmihbmkbjfaaGreat
open Go.RowKit
open GoE (enc wide)
def implversionAt_1 (x : VersionD) (q0 : Int) : Bool := (x.1 == q0)
theorem implversionAt_1_a (x : VersionD) (q0 : Int) : ACalls Tryz.prog 168 [.a [.i x.1, .h x.2.1.1.1, .h x.2.1.1.2.1, .i x.2.1.1.2.2, .h x.2.1.2, .i x.2.2], .one (.rptr .sh [.i q0])] (.b (implversionAt_1 x q0)) := by
  refine acalls_of (tt := tt) tt_ok Tryz.func168 (fn := Tryz.f168) rfl (by unfold FnOk; kernel_rfl) (Nat.le_of_ble_eq_true rfl) fun w0 F0 => ?_
  refine awp_seq ?_
  refine rk tt_ok [(2, .p 2 0), (3, .b false)] [0] [(2, [.i x.1, .h x.2.1.1.1, .h x.2.1.1.2.1, .i x.2.1.1.2.2, .h x.2.1.2, .i x.2.2])] [] [] (o0) ?_
  refine awp_seq ?_
  refine rk tt_ok [(3, .b (x.1 == q0))] [1, 2, 3] [] [2] [] (o0) ?_
  refine awp_ret ?_
  exact pret [] (congrArg (fun z => (.b z : AV)) (show implversionAt_1 x q0 = (x.1 == q0) from rfl).symm)
def slicesIndexFunc_Version_implversionAt_1_f0 (c0 : Int) (k0 : Nat) (a0 : VersionD) (_ : Unit) : Rd (Int) (Unit) (Unit) := (bif (implversionAt_1 a0 c0) then (.ret ((k0 : Nat) : Int)) else (.next ()))
def slicesIndexFunc_Version_implversionAt_1_e0 (_ : Nat) (_ : Unit) : Unit := ()
def slicesIndexFunc_Version_implversionAt_1 (s_ : (List VersionD)) (c0 : Int) : Int := (Out.on (forL (slicesIndexFunc_Version_implversionAt_1_f0 c0) slicesIndexFunc_Version_implversionAt_1_e0 s_ 0 ()) (fun _ => -1))
theorem slicesIndexFunc_Version_implversionAt_1_a (s_ : (List VersionD)) (c0 : Int) : ACalls Tryz.prog 134 [.h s_, .one (.fnr 168 [[.i c0]])] (.i (slicesIndexFunc_Version_implversionAt_1 s_ c0)) := by
  refine acalls_of (tt := tt) tt_ok Tryz.func134 (fn := Tryz.f134) rfl (by unfold FnOk; kernel_rfl) (Nat.le_of_ble_eq_true rfl) fun w0 F0 => ?_
  refine awp_seq ?_
  refine rk tt_ok [(4, .i 0)] [] [] [] [] (o0) ?_
  refine awp_seq ?_
  refine awp_seq ?_
  refine rk tt_ok [(7, .i (s_.length : Int)), (8, .i 0)] [] [] [] [(1, .val (.i (s_.length : Int)))] (o1 (ob_eq (av_len s_))) ?_
  refine wdT 0 0 .sh s_ (fun hw1 => ?_)
  have hl2 : List.length s_ ≤ 1073741824 := wide_len (hw1)
  refine blk (fun (k0 : Nat) (s0 : Unit) => [(8, .i ((k0 : Nat) : Int))]) [8] (fun k0 s0 => []) [] (fun (y0 : Unit) => []) [0, 1, 7, 8] (fun y0 => []) [] (fun (k0 : Nat) (s0 : Unit) => (forL (slicesIndexFunc_Version_implversionAt_1_f0 c0) slicesIndexFunc_Version_implversionAt_1_e0 s_ 0 ()) = forL (slicesIndexFunc_Version_implversionAt_1_f0 c0) slicesIndexFunc_Version_implversionAt_1_e0 (List.drop k0 s_) k0 s0) (fun (y0 : Unit) => (forL (slicesIndexFunc_Version_implversionAt_1_f0 c0) slicesIndexFunc_Version_implversionAt_1_e0 s_ 0 ()) = .brk y0) s_.length () (weak_fit (by kernel_rfl)) rfl (fun k0 s0 hk0 hI0 => ?_) (fun k0 s0 hk0 hI0 => ?_) (fun y0 hD0 => ?_)
  ·
    obtain ⟨a0, hx0⟩ := get_some (l := s_) (i := k0) hk0
    refine awp_seq ?_
    refine rk tt_ok [(9, .b true)] [] [] [] [(0, .val (.b true))] (o1 (ob_eq (av_bool (decide_eq_true (p := ((k0 : Nat) : Int) < (s_.length : Int)) (by omega))))) ?_
    refine awp_seq ?_
    refine ckT ?_
    refine awp_skip ?_
    refine awp_seq ?_
    refine awp_block ?_
    refine awp_seq ?_
    refine rk tt_ok [(5, .i ((k0 : Nat) : Int))] [9] [] [] [] (o0) ?_
    refine awp_seq ?_
    refine rk tt_ok [(16, .b (implversionAt_1 a0 c0))] [] [] [] [(3, .row [.i a0.1, .h a0.2.1.1.1, .h a0.2.1.1.2.1, .i a0.2.1.1.2.2, .h a0.2.1.2, .i a0.2.2]), (5, .val (.b (implversionAt_1 a0 c0)))] (o2 (ob_elem (el_of (i := ((k0 : Nat) : Int)) (by omega) rfl hx0)) (o1 (ob_call (implversionAt_1_a a0 c0)))) ?_
    refine ck (implversionAt_1 a0 c0) (fun h3 => ?_) (fun h3 => ?_)
    ·
      refine awp_seq ?_
      refine rk tt_ok [(4, .i ((k0 : Nat) : Int))] [4, 5, 16] [] [] [] (o0) ?_
      refine awp_ret ?_
      have hr4 : (forL (slicesIndexFunc_Version_implversionAt_1_f0 c0) slicesIndexFunc_Version_implversionAt_1_e0 s_ 0 ()) = .ret ((k0 : Nat) : Int) := forL_ret hx0 (bif_t h3 (rfl)) hI0
      exact pret [] (congrArg (fun z => (.i z : AV)) (show slicesIndexFunc_Version_implversionAt_1 s_ c0 = ((k0 : Nat) : Int) from on_r hr4).symm)
    ·
      refine awp_skip ?_
      refine rk tt_ok [(8, .i ((k0 + 1 : Nat) : Int))] [5, 8, 16] [] [] [(0, .val (.i ((k0 + 1 : Nat) : Int)))] (o1 (ob_eq (av_i (wrap_succ k0 (by omega))))) ?_
      exact Exists.intro () (And.intro (weak_fit (by kernel_rfl)) (forL_next hx0 (bif_f h3 (rfl)) hI0))
  ·
    refine awp_seq ?_
    refine rk tt_ok [(9, .b false)] [] [] [] [(0, .val (.b false))] (o1 (ob_eq (av_bool (decide_eq_false (p := ((k0 : Nat) : Int) < (s_.length : Int)) (by omega))))) ?_
    refine awp_seq ?_
    refine ckF ?_
    refine awp_exit ?_
    exact Exists.intro () (And.intro (weak_fit (by kernel_rfl)) (forL_end hk0 (rfl) hI0))
  ·
    refine awp_seq ?_
    refine rk tt_ok [(4, .i (-1))] [4] [] [] [] (o0) ?_
    refine awp_ret ?_
    exact pret [] (congrArg (fun z => (.i z : AV)) (show slicesIndexFunc_Version_implversionAt_1 s_ c0 = -1 from on_b hD0 (rfl)).symm)
def implversionAt (v : (List VersionD)) (number : Int) : Int := (slicesIndexFunc_Version_implversionAt_1 v number)
theorem implversionAt_a (v : (List VersionD)) (number : Int) : ACalls Tryz.prog 133 [.h v, .i number] (.i (implversionAt v number)) := by
  refine acalls_of (tt := tt) tt_ok Tryz.func133 (fn := Tryz.f133) rfl (by unfold FnOk; kernel_rfl) (Nat.le_of_ble_eq_true rfl) fun w0 F0 => ?_
  refine awp_seq ?_
  refine rk tt_ok [(3, .p 3 0), (4, .i 0)] [1] [(3, [.i number])] [] [] (o0) ?_
  refine awp_seq ?_
  refine rk tt_ok [(4, .i (slicesIndexFunc_Version_implversionAt_1 v number))] [0, 3, 4] [] [3] [(2, .val (.i (slicesIndexFunc_Version_implversionAt_1 v number)))] (o1 (ob_call (slicesIndexFunc_Version_implversionAt_1_a v number))) ?_
  refine awp_ret ?_
  exact pret [] (congrArg (fun z => (.i z : AV)) (show implversionAt v number = (slicesIndexFunc_Version_implversionAt_1 v number) from rfl).symm)
def specl28Place_f0 (version : Int) (k0 : Nat) (a0 : VersionD) (_ : Unit) : Rd (Int) (Unit) (Unit) := (bif (a0.1 == version) then (.ret ((k0 : Nat) : Int)) else (.next ()))
def specl28Place_e0 (_ : Nat) (_ : Unit) : Unit := ()
def specl28Place (k_ : (List VersionD)) (version : Int) : Int := (Out.on (forL (specl28Place_f0 version) specl28Place_e0 k_ 0 ()) (fun _ => -1))
theorem specl28Place_a (k_ : (List VersionD)) (version : Int) : ACalls Tryz.prog 90 [.h k_, .i version] (.i (specl28Place k_ version)) := by
  refine acalls_of (tt := tt) tt_ok Tryz.func90 (fn := Tryz.f90) rfl (by unfold FnOk; kernel_rfl) (Nat.le_of_ble_eq_true rfl) fun w0 F0 => ?_
  refine awp_seq ?_
  refine rk tt_ok [(4, .i 0)] [] [] [] [] (o0) ?_
  refine awp_seq ?_
  refine awp_seq ?_
  refine rk tt_ok [(5, .i 0)] [] [] [] [] (o0) ?_
  refine wdT 0 0 .sh k_ (fun hw1 => ?_)
  have hl2 : List.length k_ ≤ 1073741824 := wide_len (hw1)
  refine blk (fun (k0 : Nat) (s0 : Unit) => [(5, .i ((k0 : Nat) : Int))]) [5] (fun k0 s0 => []) [] (fun (y0 : Unit) => []) [0, 1, 5] (fun y0 => []) [] (fun (k0 : Nat) (s0 : Unit) => (forL (specl28Place_f0 version) specl28Place_e0 k_ 0 ()) = forL (specl28Place_f0 version) specl28Place_e0 (List.drop k0 k_) k0 s0) (fun (y0 : Unit) => (forL (specl28Place_f0 version) specl28Place_e0 k_ 0 ()) = .brk y0) k_.length () (weak_fit (by kernel_rfl)) rfl (fun k0 s0 hk0 hI0 => ?_) (fun k0 s0 hk0 hI0 => ?_) (fun y0 hD0 => ?_)
  ·
    obtain ⟨a0, hx0⟩ := get_some (l := k_) (i := k0) hk0
    refine awp_seq ?_
    refine awp_seq ?_
    refine rk tt_ok [(9, .b true)] [] [] [] [(2, .val (.i (k_.length : Int))), (3, .val (.b true))] (o2 (ob_eq (av_len k_)) (o1 (ob_eq (av_bool (decide_eq_true (p := ((k0 : Nat) : Int) < (k_.length : Int)) (by omega)))))) ?_
    refine ckT ?_
    refine awp_skip ?_
    refine awp_seq ?_
    refine awp_block ?_
    refine awp_seq ?_
    refine rk tt_ok [(18, .b (a0.1 == version))] [9] [] [] [(2, .row [.i a0.1, .h a0.2.1.1.1, .h a0.2.1.1.2.1, .i a0.2.1.1.2.2, .h a0.2.1.2, .i a0.2.2])] (o1 (ob_elem (el_of (i := ((k0 : Nat) : Int)) (by omega) rfl hx0))) ?_
    refine ck (a0.1 == version) (fun h3 => ?_) (fun h3 => ?_)
    ·
      have h3d := eq_of_beq h3
      refine awp_seq ?_
      refine rk tt_ok [(4, .i ((k0 : Nat) : Int))] [4, 18] [] [] [] (o0) ?_
      refine awp_ret ?_
      have hr4 : (forL (specl28Place_f0 version) specl28Place_e0 k_ 0 ()) = .ret ((k0 : Nat) : Int) := forL_ret hx0 (bif_t h3 (rfl)) hI0
      exact pret [] (congrArg (fun z => (.i z : AV)) (show specl28Place k_ version = ((k0 : Nat) : Int) from on_r hr4).symm)
    ·
      have h3d := ne_of_beq h3
      refine awp_skip ?_
      refine rk tt_ok [(5, .i ((k0 + 1 : Nat) : Int))] [5, 18] [] [] [(1, .val (.i ((k0 + 1 : Nat) : Int)))] (o1 (ob_eq (av_i (wrap_succ k0 (by omega))))) ?_
      exact Exists.intro () (And.intro (weak_fit (by kernel_rfl)) (forL_next hx0 (bif_f h3 (rfl)) hI0))
  ·
    refine awp_seq ?_
    refine awp_seq ?_
    refine rk tt_ok [(9, .b false)] [] [] [] [(2, .val (.i (k_.length : Int))), (3, .val (.b false))] (o2 (ob_eq (av_len k_)) (o1 (ob_eq (av_bool (decide_eq_false (p := ((k0 : Nat) : Int) < (k_.length : Int)) (by omega)))))) ?_
    refine ckF ?_
    refine awp_exit ?_
    exact Exists.intro () (And.intro (weak_fit (by kernel_rfl)) (forL_end hk0 (rfl) hI0))
  ·
    refine awp_seq ?_
    refine rk tt_ok [(4, .i (-1))] [4] [] [] [] (o0) ?_
    refine awp_ret ?_
    exact pret [] (congrArg (fun z => (.i z : AV)) (show specl28Place k_ version = -1 from on_b hD0 (rfl)).symm)
end Go.Proofs.YtjkfmihbmkbjfaaGreat
