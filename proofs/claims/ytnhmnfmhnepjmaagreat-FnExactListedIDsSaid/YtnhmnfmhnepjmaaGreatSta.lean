/- What functions compute, and that they do (printed by am2.py): each function as a Lean function, then its contract. -/
import Derived.Test.YtnhmnfmhnepjmaaGreatDpd
import Derived.Test.YtnhmnfmhnepjmaaGreatZd
import Derived.KernelRfl
set_option linter.unusedVariables false
set_option linter.unusedSimpArgs false
namespace Go.Proofs.YtnhmnfmhnepjmaaGreat
open Go.RowKit
open GoE (enc wide)
def implIsValidDirs_f0 (d : (List DirD)) (k0 : Nat) (a0 : DirD) (_ : Unit) : Rd (Bool) (Unit) (Unit) := (bif ((!(implIsValidString a0.1)) || (bif decide (((k0 : Nat) : Int) > (0 : Int)) then ((!(Op.bytesLess ((nth d (Int.toNat (((k0 : Nat) : Int) - 1))).1).toList a0.1.toList)) || (!(implIsValidQuery a0.2))) else (!(implIsValidQuery a0.2)))) then (.ret false) else (.next ()))
def implIsValidDirs_e0 (_ : Nat) (_ : Unit) : Unit := ()
def implIsValidDirs (d : (List DirD)) : Bool := (Out.on (forL (implIsValidDirs_f0 d) implIsValidDirs_e0 d 0 ()) (fun _ => decide ((d.length : Int) ≤ (5 : Int))))
theorem implIsValidDirs_a (d : (List DirD)) : ACalls Tryz.prog 200 [.h d] (.b (implIsValidDirs d)) := by
 refine acalls_of (tt := tt) tt_ok Tryz.func200 (fn := Tryz.f200) rfl (by unfold FnOk; kernel_rfl) (Nat.le_of_ble_eq_true rfl) fun w0 F0 => ?_
 refine awp_seq ?_
 refine rk tt_ok [(2, .b false)] [] [] [] [] (o0) ?_
 refine awp_seq ?_
 refine awp_seq ?_
 refine rk tt_ok [(5, .h d), (6, .i (d.length : Int)), (7, .i 0)] [] [] [] [(1, .val (.i (d.length : Int)))] (o1 (ob_eq (av_len d))) ?_
 refine wdT 0 0 .sh d (fun hw1 => ?_)
 have hl2 : List.length d ≤ 1073741824 := wide_len (hw1)
 refine blk (fun (k0 : Nat) (s0 : Unit) => [(7, .i ((k0 : Nat) : Int))]) [7] (fun k0 s0 => []) [] (fun (y0 : Unit) => []) [5, 6, 7] (fun y0 => []) [] (fun (k0 : Nat) (s0 : Unit) => (forL (implIsValidDirs_f0 d) implIsValidDirs_e0 d 0 ()) = forL (implIsValidDirs_f0 d) implIsValidDirs_e0 (List.drop k0 d) k0 s0) (fun (y0 : Unit) => (forL (implIsValidDirs_f0 d) implIsValidDirs_e0 d 0 ()) = .brk y0) d.length () (weak_fit (by kernel_rfl)) rfl (fun k0 s0 hk0 hI0 => ?_) (fun k0 s0 hk0 hI0 => ?_) (fun y0 hD0 => ?_)
 ·
  obtain ⟨a0, hx0⟩ := get_some (l := d) (i := k0) hk0
  refine awp_seq ?_
  refine rk tt_ok [(8, .b true)] [] [] [] [(0, .val (.b true))] (o1 (ob_eq (av_bool (decide_eq_true (p := ((k0 : Nat) : Int) < (d.length : Int)) (by omega))))) ?_
  refine awp_seq ?_
  refine ckT ?_
  refine awp_skip ?_
  refine awp_seq ?_
  refine awp_block ?_
  refine awp_seq ?_
  refine rk tt_ok [(3, .i ((k0 : Nat) : Int)), (4, .p 4 0)] [8] [(4, [.s a0.1, .h a0.2])] [] [(1, .row [.s a0.1, .h a0.2])] (o1 (ob_elem (el_of (i := ((k0 : Nat) : Int)) (by omega) rfl hx0))) ?_
  refine awp_seq ?_
  refine jn [(36, .b ((!(implIsValidString a0.1)) || (bif decide (((k0 : Nat) : Int) > (0 : Int)) then ((!(Op.bytesLess ((nth d (Int.toNat (((k0 : Nat) : Int) - 1))).1).toList a0.1.toList)) || (!(implIsValidQuery a0.2))) else (!(implIsValidQuery a0.2)))))] [3, 4] [] [4] (!(implIsValidString a0.1)) (fun h3 => ?_) (fun h3 => ?_) ?_
  ·
   have h3n : (implIsValidString a0.1) = false := bnot_t h3
   refine rd' tt_ok tt_mx [(36, .b true)] [3, 4] [] [4] [(2, .val (.b false)), (3, .val (.b true))] (o2 (ob_call (cb h3n (implIsValidString_a a0.1))) (o1 (ob_eq (show .b (!false) = .b true from rfl)))) ?_
   exact ⟨rfl, weak_fit (by rw [h3]; first | done | kernel_rfl)⟩
  ·
   have h3n : (implIsValidString a0.1) = true := bnot_f h3
   refine awp_split (decide (((k0 : Nat) : Int) > (0 : Int))) (fun h4 => ?_) (fun h4 => ?_)
   ·
    have h4d := of_decide_eq_true h4
    refine awp_split (!(Op.bytesLess ((nth d (Int.toNat (((k0 : Nat) : Int) - 1))).1).toList a0.1.toList)) (fun h5 => ?_) (fun h5 => ?_)
    ·
     have hx6 : d[(Int.toNat (((k0 : Nat) : Int) - 1))]? = some (nth d (Int.toNat (((k0 : Nat) : Int) - 1))) := nth_get (by omega)
     refine rd' tt_ok tt_mx [(36, .b true)] [3, 4] [] [4] [(2, .val (.b true)), (3, .val (.b false)), (6, .val (.b true)), (10, .val (.i (((k0 : Nat) : Int) - 1))), (11, .row [.s ((nth d (Int.toNat (((k0 : Nat) : Int) - 1))).1), .h ((nth d (Int.toNat (((k0 : Nat) : Int) - 1))).2)]), (16, .val (.b true))] (o2 (ob_call (cb h3n (implIsValidString_a a0.1))) (o2 (ob_eq (show .b (!true) = .b false from rfl)) (o2 (ob_eq (av_bool h4)) (o2 (ob_eq (av_i (IntWalk.i64_in (((k0 : Nat) : Int) - 1) (by omega)))) (o2 (ob_elem (el_of (i := (((k0 : Nat) : Int) - 1)) (by omega) rfl hx6)) (o1 (ob_eq (av_bool h5)))))))) ?_
     exact ⟨rfl, weak_fit (by rw [h3, h4, h5]; first | done | kernel_rfl)⟩
    ·
     have hx7 : d[(Int.toNat (((k0 : Nat) : Int) - 1))]? = some (nth d (Int.toNat (((k0 : Nat) : Int) - 1))) := nth_get (by omega)
     refine rd' tt_ok tt_mx [(36, .b (!(implIsValidQuery a0.2)))] [3, 4] [] [4] [(2, .val (.b true)), (3, .val (.b false)), (6, .val (.b true)), (10, .val (.i (((k0 : Nat) : Int) - 1))), (11, .row [.s ((nth d (Int.toNat (((k0 : Nat) : Int) - 1))).1), .h ((nth d (Int.toNat (((k0 : Nat) : Int) - 1))).2)]), (16, .val (.b false)), (22, .val (.b (implIsValidQuery a0.2)))] (o2 (ob_call (cb h3n (implIsValidString_a a0.1))) (o2 (ob_eq (show .b (!true) = .b false from rfl)) (o2 (ob_eq (av_bool h4)) (o2 (ob_eq (av_i (IntWalk.i64_in (((k0 : Nat) : Int) - 1) (by omega)))) (o2 (ob_elem (el_of (i := (((k0 : Nat) : Int) - 1)) (by omega) rfl hx7)) (o2 (ob_eq (av_bool h5)) (o1 (ob_call (implIsValidQuery_a a0.2))))))))) ?_
     exact ⟨rfl, weak_fit (by rw [h3, h4, h5]; first | done | kernel_rfl)⟩
   ·
    refine rd' tt_ok tt_mx [(36, .b (!(implIsValidQuery a0.2)))] [3, 4] [] [4] [(2, .val (.b true)), (3, .val (.b false)), (6, .val (.b false)), (22, .val (.b (implIsValidQuery a0.2)))] (o2 (ob_call (cb h3n (implIsValidString_a a0.1))) (o2 (ob_eq (show .b (!true) = .b false from rfl)) (o2 (ob_eq (av_bool h4)) (o1 (ob_call (implIsValidQuery_a a0.2)))))) ?_
    exact ⟨rfl, weak_fit (by rw [h3, h4]; first | done | kernel_rfl)⟩
  refine ck ((!(implIsValidString a0.1)) || (bif decide (((k0 : Nat) : Int) > (0 : Int)) then ((!(Op.bytesLess ((nth d (Int.toNat (((k0 : Nat) : Int) - 1))).1).toList a0.1.toList)) || (!(implIsValidQuery a0.2))) else (!(implIsValidQuery a0.2)))) (fun h8 => ?_) (fun h8 => ?_)
  ·
   refine awp_seq ?_
   refine rk tt_ok [] [36] [] [] [] (o0) ?_
   refine awp_ret ?_
   have hr9 : (forL (implIsValidDirs_f0 d) implIsValidDirs_e0 d 0 ()) = .ret false := forL_ret hx0 (bif_t h8 (rfl)) hI0
   exact pret [] (congrArg (fun z => (.b z : AV)) (show implIsValidDirs d = false from on_r hr9).symm)
  ·
   refine awp_skip ?_
   refine rk tt_ok [(7, .i ((k0 + 1 : Nat) : Int))] [7, 36] [] [] [(0, .val (.i ((k0 + 1 : Nat) : Int)))] (o1 (ob_eq (av_i (wrap_succ k0 (by omega))))) ?_
   exact Exists.intro () (And.intro (weak_fit (by kernel_rfl)) (forL_next hx0 (bif_f h8 (rfl)) hI0))
 ·
  refine awp_seq ?_
  refine rk tt_ok [(8, .b false)] [] [] [] [(0, .val (.b false))] (o1 (ob_eq (av_bool (decide_eq_false (p := ((k0 : Nat) : Int) < (d.length : Int)) (by omega))))) ?_
  refine awp_seq ?_
  refine ckF ?_
  refine awp_exit ?_
  exact Exists.intro () (And.intro (weak_fit (by kernel_rfl)) (forL_end hk0 (rfl) hI0))
 ·
  refine awp_seq ?_
  refine rk tt_ok [(2, .b (decide ((d.length : Int) ≤ (5 : Int))))] [0, 2] [] [] [(1, .val (.i (d.length : Int)))] (o1 (ob_eq (av_len d))) ?_
  refine awp_ret ?_
  exact pret [] (congrArg (fun z => (.b z : AV)) (show implIsValidDirs d = decide ((d.length : Int) ≤ (5 : Int)) from on_b hD0 (rfl)).symm)
def specIsValidDirs_f0 (d : (List DirD)) (k0 : Nat) (a0 : DirD) (_ : Unit) : Rd (Bool) (Unit) (Unit) := (bif ((!(specIsValidString a0.1)) || ((!(specIsValidQuery a0.2)) || (decide (((k0 : Nat) : Int) > (0 : Int)) && (!(Op.bytesLess ((nth d (Int.toNat (((k0 : Nat) : Int) - 1))).1).toList a0.1.toList))))) then (.ret false) else (.next ()))
def specIsValidDirs_e0 (_ : Nat) (_ : Unit) : Unit := ()
def specIsValidDirs (d : (List DirD)) : Bool := (Out.on (forL (specIsValidDirs_f0 d) specIsValidDirs_e0 d 0 ()) (fun _ => decide ((d.length : Int) ≤ (5 : Int))))
theorem specIsValidDirs_a (d : (List DirD)) : ACalls Tryz.prog 195 [.h d] (.b (specIsValidDirs d)) := by
 refine acalls_of (tt := tt) tt_ok Tryz.func195 (fn := Tryz.f195) rfl (by unfold FnOk; kernel_rfl) (Nat.le_of_ble_eq_true rfl) fun w0 F0 => ?_
 refine awp_seq ?_
 refine rk tt_ok [(2, .b false)] [] [] [] [] (o0) ?_
 refine awp_seq ?_
 refine awp_seq ?_
 refine rk tt_ok [(3, .i 0)] [] [] [] [] (o0) ?_
 refine wdT 0 0 .sh d (fun hw1 => ?_)
 have hl2 : List.length d ≤ 1073741824 := wide_len (hw1)
 refine blk (fun (k0 : Nat) (s0 : Unit) => [(3, .i ((k0 : Nat) : Int))]) [3] (fun k0 s0 => []) [] (fun (y0 : Unit) => []) [3] (fun y0 => []) [] (fun (k0 : Nat) (s0 : Unit) => (forL (specIsValidDirs_f0 d) specIsValidDirs_e0 d 0 ()) = forL (specIsValidDirs_f0 d) specIsValidDirs_e0 (List.drop k0 d) k0 s0) (fun (y0 : Unit) => (forL (specIsValidDirs_f0 d) specIsValidDirs_e0 d 0 ()) = .brk y0) d.length () (weak_fit (by kernel_rfl)) rfl (fun k0 s0 hk0 hI0 => ?_) (fun k0 s0 hk0 hI0 => ?_) (fun y0 hD0 => ?_)
 ·
  obtain ⟨a0, hx0⟩ := get_some (l := d) (i := k0) hk0
  refine awp_seq ?_
  refine awp_seq ?_
  refine rk tt_ok [(7, .b true)] [] [] [] [(2, .val (.i (d.length : Int))), (3, .val (.b true))] (o2 (ob_eq (av_len d)) (o1 (ob_eq (av_bool (decide_eq_true (p := ((k0 : Nat) : Int) < (d.length : Int)) (by omega)))))) ?_
  refine ckT ?_
  refine awp_skip ?_
  refine awp_seq ?_
  refine awp_block ?_
  refine awp_seq ?_
  refine jn [(43, .b ((!(specIsValidString a0.1)) || ((!(specIsValidQuery a0.2)) || (decide (((k0 : Nat) : Int) > (0 : Int)) && (!(Op.bytesLess ((nth d (Int.toNat (((k0 : Nat) : Int) - 1))).1).toList a0.1.toList))))))] [7] [] [] (!(specIsValidString a0.1)) (fun h3 => ?_) (fun h3 => ?_) ?_
  ·
   have h3n : (specIsValidString a0.1) = false := bnot_t h3
   refine rd' tt_ok tt_mx [(43, .b true)] [7] [] [] [(2, .row [.s a0.1, .h a0.2]), (5, .val (.b false)), (6, .val (.b true))] (o2 (ob_elem (el_of (i := ((k0 : Nat) : Int)) (by omega) rfl hx0)) (o2 (ob_call (cb h3n (specIsValidString_a a0.1))) (o1 (ob_eq (show .b (!false) = .b true from rfl))))) ?_
   exact ⟨rfl, weak_fit (by rw [h3]; first | done | kernel_rfl)⟩
  ·
   have h3n : (specIsValidString a0.1) = true := bnot_f h3
   refine awp_split (!(specIsValidQuery a0.2)) (fun h4 => ?_) (fun h4 => ?_)
   ·
    have h4n : (specIsValidQuery a0.2) = false := bnot_t h4
    refine rd' tt_ok tt_mx [(43, .b true)] [7] [] [] [(2, .row [.s a0.1, .h a0.2]), (5, .val (.b true)), (6, .val (.b false)), (10, .row [.s a0.1, .h a0.2]), (13, .val (.b false)), (14, .val (.b true))] (o2 (ob_elem (el_of (i := ((k0 : Nat) : Int)) (by omega) rfl hx0)) (o2 (ob_call (cb h3n (specIsValidString_a a0.1))) (o2 (ob_eq (show .b (!true) = .b false from rfl)) (o2 (ob_elem (el_of (i := ((k0 : Nat) : Int)) (by omega) rfl hx0)) (o2 (ob_call (cb h4n (specIsValidQuery_a a0.2))) (o1 (ob_eq (show .b (!false) = .b true from rfl)))))))) ?_
    exact ⟨rfl, weak_fit (by rw [h3, h4]; first | done | kernel_rfl)⟩
   ·
    have h4n : (specIsValidQuery a0.2) = true := bnot_f h4
    refine awp_split (decide (((k0 : Nat) : Int) > (0 : Int))) (fun h5 => ?_) (fun h5 => ?_)
    ·
     have h5d := of_decide_eq_true h5
     have hx6 : d[(Int.toNat (((k0 : Nat) : Int) - 1))]? = some (nth d (Int.toNat (((k0 : Nat) : Int) - 1))) := nth_get (by omega)
     refine rd' tt_ok tt_mx [(43, .b (!(Op.bytesLess ((nth d (Int.toNat (((k0 : Nat) : Int) - 1))).1).toList a0.1.toList)))] [7] [] [] [(2, .row [.s a0.1, .h a0.2]), (5, .val (.b true)), (6, .val (.b false)), (10, .row [.s a0.1, .h a0.2]), (13, .val (.b true)), (14, .val (.b false)), (18, .val (.b true)), (22, .val (.i (((k0 : Nat) : Int) - 1))), (23, .row [.s ((nth d (Int.toNat (((k0 : Nat) : Int) - 1))).1), .h ((nth d (Int.toNat (((k0 : Nat) : Int) - 1))).2)]), (28, .row [.s a0.1, .h a0.2])] (o2 (ob_elem (el_of (i := ((k0 : Nat) : Int)) (by omega) rfl hx0)) (o2 (ob_call (cb h3n (specIsValidString_a a0.1))) (o2 (ob_eq (show .b (!true) = .b false from rfl)) (o2 (ob_elem (el_of (i := ((k0 : Nat) : Int)) (by omega) rfl hx0)) (o2 (ob_call (cb h4n (specIsValidQuery_a a0.2))) (o2 (ob_eq (show .b (!true) = .b false from rfl)) (o2 (ob_eq (av_bool h5)) (o2 (ob_eq (av_i (IntWalk.i64_in (((k0 : Nat) : Int) - 1) (by omega)))) (o2 (ob_elem (el_of (i := (((k0 : Nat) : Int) - 1)) (by omega) rfl hx6)) (o1 (ob_elem (el_of (i := ((k0 : Nat) : Int)) (by omega) rfl hx0)))))))))))) ?_
     exact ⟨rfl, weak_fit (by rw [h3, h4, h5]; first | done | kernel_rfl)⟩
    ·
     have h5d := of_decide_eq_false h5
     refine rd' tt_ok tt_mx [(43, .b false)] [7] [] [] [(2, .row [.s a0.1, .h a0.2]), (5, .val (.b true)), (6, .val (.b false)), (10, .row [.s a0.1, .h a0.2]), (13, .val (.b true)), (14, .val (.b false)), (18, .val (.b false))] (o2 (ob_elem (el_of (i := ((k0 : Nat) : Int)) (by omega) rfl hx0)) (o2 (ob_call (cb h3n (specIsValidString_a a0.1))) (o2 (ob_eq (show .b (!true) = .b false from rfl)) (o2 (ob_elem (el_of (i := ((k0 : Nat) : Int)) (by omega) rfl hx0)) (o2 (ob_call (cb h4n (specIsValidQuery_a a0.2))) (o2 (ob_eq (show .b (!true) = .b false from rfl)) (o1 (ob_eq (av_bool h5))))))))) ?_
     exact ⟨rfl, weak_fit (by rw [h3, h4, h5]; first | done | kernel_rfl)⟩
  refine ck ((!(specIsValidString a0.1)) || ((!(specIsValidQuery a0.2)) || (decide (((k0 : Nat) : Int) > (0 : Int)) && (!(Op.bytesLess ((nth d (Int.toNat (((k0 : Nat) : Int) - 1))).1).toList a0.1.toList))))) (fun h7 => ?_) (fun h7 => ?_)
  ·
   refine awp_seq ?_
   refine rk tt_ok [] [43] [] [] [] (o0) ?_
   refine awp_ret ?_
   have hr8 : (forL (specIsValidDirs_f0 d) specIsValidDirs_e0 d 0 ()) = .ret false := forL_ret hx0 (bif_t h7 (rfl)) hI0
   exact pret [] (congrArg (fun z => (.b z : AV)) (show specIsValidDirs d = false from on_r hr8).symm)
  ·
   refine awp_skip ?_
   refine rk tt_ok [(3, .i ((k0 + 1 : Nat) : Int))] [3, 43] [] [] [(1, .val (.i ((k0 + 1 : Nat) : Int)))] (o1 (ob_eq (av_i (wrap_succ k0 (by omega))))) ?_
   exact Exists.intro () (And.intro (weak_fit (by kernel_rfl)) (forL_next hx0 (bif_f h7 (rfl)) hI0))
 ·
  refine awp_seq ?_
  refine awp_seq ?_
  refine rk tt_ok [(7, .b false)] [] [] [] [(2, .val (.i (d.length : Int))), (3, .val (.b false))] (o2 (ob_eq (av_len d)) (o1 (ob_eq (av_bool (decide_eq_false (p := ((k0 : Nat) : Int) < (d.length : Int)) (by omega)))))) ?_
  refine ckF ?_
  refine awp_exit ?_
  exact Exists.intro () (And.intro (weak_fit (by kernel_rfl)) (forL_end hk0 (rfl) hI0))
 ·
  refine awp_seq ?_
  refine rk tt_ok [(2, .b (decide ((d.length : Int) ≤ (5 : Int))))] [0, 2] [] [] [(1, .val (.i (d.length : Int)))] (o1 (ob_eq (av_len d))) ?_
  refine awp_ret ?_
  exact pret [] (congrArg (fun z => (.b z : AV)) (show specIsValidDirs d = decide ((d.length : Int) ≤ (5 : Int)) from on_b hD0 (rfl)).symm)
def impldirAt_1 (x : DirD) (q0 : ByteArray) : Bool := (x.1.toList == q0.toList)
theorem impldirAt_1_a (x : DirD) (q0 : ByteArray) : ACalls Tryz.prog 226 [.a [.s x.1, .h x.2], .one (.rptr .sh [.s q0])] (.b (impldirAt_1 x q0)) := by
 refine acalls_of (tt := tt) tt_ok Tryz.func226 (fn := Tryz.f226) rfl (by unfold FnOk; kernel_rfl) (Nat.le_of_ble_eq_true rfl) fun w0 F0 => ?_
 refine awp_seq ?_
 refine rk tt_ok [(2, .p 2 0), (3, .b false)] [0] [(2, [.s x.1, .h x.2])] [] [] (o0) ?_
 refine awp_seq ?_
 refine rk tt_ok [(3, .b (x.1.toList == q0.toList))] [1, 2, 3] [] [2] [] (o0) ?_
 refine awp_ret ?_
 exact pret [] (congrArg (fun z => (.b z : AV)) (show impldirAt_1 x q0 = (x.1.toList == q0.toList) from rfl).symm)
def slicesIndexFunc_Dir_impldirAt_1_f0 (c0 : ByteArray) (k0 : Nat) (a0 : DirD) (_ : Unit) : Rd (Int) (Unit) (Unit) := (bif (impldirAt_1 a0 c0) then (.ret ((k0 : Nat) : Int)) else (.next ()))
def slicesIndexFunc_Dir_impldirAt_1_e0 (_ : Nat) (_ : Unit) : Unit := ()
def slicesIndexFunc_Dir_impldirAt_1 (s_ : (List DirD)) (c0 : ByteArray) : Int := (Out.on (forL (slicesIndexFunc_Dir_impldirAt_1_f0 c0) slicesIndexFunc_Dir_impldirAt_1_e0 s_ 0 ()) (fun _ => -1))
theorem slicesIndexFunc_Dir_impldirAt_1_a (s_ : (List DirD)) (c0 : ByteArray) : ACalls Tryz.prog 225 [.h s_, .one (.fnr 226 [[.s c0]])] (.i (slicesIndexFunc_Dir_impldirAt_1 s_ c0)) := by
 refine acalls_of (tt := tt) tt_ok Tryz.func225 (fn := Tryz.f225) rfl (by unfold FnOk; kernel_rfl) (Nat.le_of_ble_eq_true rfl) fun w0 F0 => ?_
 refine awp_seq ?_
 refine rk tt_ok [(4, .i 0)] [] [] [] [] (o0) ?_
 refine awp_seq ?_
 refine awp_seq ?_
 refine rk tt_ok [(7, .i (s_.length : Int)), (8, .i 0)] [] [] [] [(1, .val (.i (s_.length : Int)))] (o1 (ob_eq (av_len s_))) ?_
 refine wdT 0 0 .sh s_ (fun hw1 => ?_)
 have hl2 : List.length s_ ≤ 1073741824 := wide_len (hw1)
 refine blk (fun (k0 : Nat) (s0 : Unit) => [(8, .i ((k0 : Nat) : Int))]) [8] (fun k0 s0 => []) [] (fun (y0 : Unit) => []) [0, 1, 7, 8] (fun y0 => []) [] (fun (k0 : Nat) (s0 : Unit) => (forL (slicesIndexFunc_Dir_impldirAt_1_f0 c0) slicesIndexFunc_Dir_impldirAt_1_e0 s_ 0 ()) = forL (slicesIndexFunc_Dir_impldirAt_1_f0 c0) slicesIndexFunc_Dir_impldirAt_1_e0 (List.drop k0 s_) k0 s0) (fun (y0 : Unit) => (forL (slicesIndexFunc_Dir_impldirAt_1_f0 c0) slicesIndexFunc_Dir_impldirAt_1_e0 s_ 0 ()) = .brk y0) s_.length () (weak_fit (by kernel_rfl)) rfl (fun k0 s0 hk0 hI0 => ?_) (fun k0 s0 hk0 hI0 => ?_) (fun y0 hD0 => ?_)
 ·
  obtain ⟨a0, hx0⟩ := get_some (l := s_) (i := k0) hk0
  refine awp_seq ?_
  refine rk tt_ok [(9, .b true)] [] [] [] [(0, .val (.b true))] (o1 (ob_eq (av_bool (decide_eq_true (p := ((k0 : Nat) : Int) < (s_.length : Int)) (by omega))))) ?_
  refine awp_seq ?_
  refine ckT ?_
  refine awp_skip ?_
  refine awp_seq ?_
  refine awp_block ?_
  refine awp_seq ?_
  refine rk tt_ok [(5, .i ((k0 : Nat) : Int))] [9] [] [] [] (o0) ?_
  refine awp_seq ?_
  refine rk tt_ok [(16, .b (impldirAt_1 a0 c0))] [] [] [] [(3, .row [.s a0.1, .h a0.2]), (5, .val (.b (impldirAt_1 a0 c0)))] (o2 (ob_elem (el_of (i := ((k0 : Nat) : Int)) (by omega) rfl hx0)) (o1 (ob_call (impldirAt_1_a a0 c0)))) ?_
  refine ck (impldirAt_1 a0 c0) (fun h3 => ?_) (fun h3 => ?_)
  ·
   refine awp_seq ?_
   refine rk tt_ok [(4, .i ((k0 : Nat) : Int))] [4, 5, 16] [] [] [] (o0) ?_
   refine awp_ret ?_
   have hr4 : (forL (slicesIndexFunc_Dir_impldirAt_1_f0 c0) slicesIndexFunc_Dir_impldirAt_1_e0 s_ 0 ()) = .ret ((k0 : Nat) : Int) := forL_ret hx0 (bif_t h3 (rfl)) hI0
   exact pret [] (congrArg (fun z => (.i z : AV)) (show slicesIndexFunc_Dir_impldirAt_1 s_ c0 = ((k0 : Nat) : Int) from on_r hr4).symm)
  ·
   refine awp_skip ?_
   refine rk tt_ok [(8, .i ((k0 + 1 : Nat) : Int))] [5, 8, 16] [] [] [(0, .val (.i ((k0 + 1 : Nat) : Int)))] (o1 (ob_eq (av_i (wrap_succ k0 (by omega))))) ?_
   exact Exists.intro () (And.intro (weak_fit (by kernel_rfl)) (forL_next hx0 (bif_f h3 (rfl)) hI0))
 ·
  refine awp_seq ?_
  refine rk tt_ok [(9, .b false)] [] [] [] [(0, .val (.b false))] (o1 (ob_eq (av_bool (decide_eq_false (p := ((k0 : Nat) : Int) < (s_.length : Int)) (by omega))))) ?_
  refine awp_seq ?_
  refine ckF ?_
  refine awp_exit ?_
  exact Exists.intro () (And.intro (weak_fit (by kernel_rfl)) (forL_end hk0 (rfl) hI0))
 ·
  refine awp_seq ?_
  refine rk tt_ok [(4, .i (-1))] [4] [] [] [] (o0) ?_
  refine awp_ret ?_
  exact pret [] (congrArg (fun z => (.i z : AV)) (show slicesIndexFunc_Dir_impldirAt_1 s_ c0 = -1 from on_b hD0 (rfl)).symm)
def impldirAt (d : (List DirD)) (name : ByteArray) : Int := (slicesIndexFunc_Dir_impldirAt_1 d name)
theorem impldirAt_a (d : (List DirD)) (name : ByteArray) : ACalls Tryz.prog 216 [.h d, .s name] (.i (impldirAt d name)) := by
 refine acalls_of (tt := tt) tt_ok Tryz.func216 (fn := Tryz.f216) rfl (by unfold FnOk; kernel_rfl) (Nat.le_of_ble_eq_true rfl) fun w0 F0 => ?_
 refine awp_seq ?_
 refine rk tt_ok [(3, .p 3 0), (4, .i 0)] [1] [(3, [.s name])] [] [] (o0) ?_
 refine awp_seq ?_
 refine rk tt_ok [(4, .i (slicesIndexFunc_Dir_impldirAt_1 d name))] [0, 3, 4] [] [3] [(2, .val (.i (slicesIndexFunc_Dir_impldirAt_1 d name)))] (o1 (ob_call (slicesIndexFunc_Dir_impldirAt_1_a d name))) ?_
 refine awp_ret ?_
 exact pret [] (congrArg (fun z => (.i z : AV)) (show impldirAt d name = (slicesIndexFunc_Dir_impldirAt_1 d name) from rfl).symm)
def specl11Place_f0 (name : ByteArray) (k0 : Nat) (a0 : DirD) (_ : Unit) : Rd (Int) (Unit) (Unit) := (bif (a0.1.toList == name.toList) then (.ret ((k0 : Nat) : Int)) else (.next ()))
def specl11Place_e0 (_ : Nat) (_ : Unit) : Unit := ()
def specl11Place (d : (List DirD)) (name : ByteArray) : Int := (Out.on (forL (specl11Place_f0 name) specl11Place_e0 d 0 ()) (fun _ => -1))
theorem specl11Place_a (d : (List DirD)) (name : ByteArray) : ACalls Tryz.prog 211 [.h d, .s name] (.i (specl11Place d name)) := by
 refine acalls_of (tt := tt) tt_ok Tryz.func211 (fn := Tryz.f211) rfl (by unfold FnOk; kernel_rfl) (Nat.le_of_ble_eq_true rfl) fun w0 F0 => ?_
 refine awp_seq ?_
 refine rk tt_ok [(4, .i 0)] [] [] [] [] (o0) ?_
 refine awp_seq ?_
 refine awp_seq ?_
 refine rk tt_ok [(5, .i 0)] [] [] [] [] (o0) ?_
 refine wdT 0 0 .sh d (fun hw1 => ?_)
 have hl2 : List.length d ≤ 1073741824 := wide_len (hw1)
 refine blk (fun (k0 : Nat) (s0 : Unit) => [(5, .i ((k0 : Nat) : Int))]) [5] (fun k0 s0 => []) [] (fun (y0 : Unit) => []) [0, 1, 5] (fun y0 => []) [] (fun (k0 : Nat) (s0 : Unit) => (forL (specl11Place_f0 name) specl11Place_e0 d 0 ()) = forL (specl11Place_f0 name) specl11Place_e0 (List.drop k0 d) k0 s0) (fun (y0 : Unit) => (forL (specl11Place_f0 name) specl11Place_e0 d 0 ()) = .brk y0) d.length () (weak_fit (by kernel_rfl)) rfl (fun k0 s0 hk0 hI0 => ?_) (fun k0 s0 hk0 hI0 => ?_) (fun y0 hD0 => ?_)
 ·
  obtain ⟨a0, hx0⟩ := get_some (l := d) (i := k0) hk0
  refine awp_seq ?_
  refine awp_seq ?_
  refine rk tt_ok [(9, .b true)] [] [] [] [(2, .val (.i (d.length : Int))), (3, .val (.b true))] (o2 (ob_eq (av_len d)) (o1 (ob_eq (av_bool (decide_eq_true (p := ((k0 : Nat) : Int) < (d.length : Int)) (by omega)))))) ?_
  refine ckT ?_
  refine awp_skip ?_
  refine awp_seq ?_
  refine awp_block ?_
  refine awp_seq ?_
  refine rk tt_ok [(18, .b (a0.1.toList == name.toList))] [9] [] [] [(2, .row [.s a0.1, .h a0.2])] (o1 (ob_elem (el_of (i := ((k0 : Nat) : Int)) (by omega) rfl hx0))) ?_
  refine ck (a0.1.toList == name.toList) (fun h3 => ?_) (fun h3 => ?_)
  ·
   refine awp_seq ?_
   refine rk tt_ok [(4, .i ((k0 : Nat) : Int))] [4, 18] [] [] [] (o0) ?_
   refine awp_ret ?_
   have hr4 : (forL (specl11Place_f0 name) specl11Place_e0 d 0 ()) = .ret ((k0 : Nat) : Int) := forL_ret hx0 (bif_t h3 (rfl)) hI0
   exact pret [] (congrArg (fun z => (.i z : AV)) (show specl11Place d name = ((k0 : Nat) : Int) from on_r hr4).symm)
  ·
   refine awp_skip ?_
   refine rk tt_ok [(5, .i ((k0 + 1 : Nat) : Int))] [5, 18] [] [] [(1, .val (.i ((k0 + 1 : Nat) : Int)))] (o1 (ob_eq (av_i (wrap_succ k0 (by omega))))) ?_
   exact Exists.intro () (And.intro (weak_fit (by kernel_rfl)) (forL_next hx0 (bif_f h3 (rfl)) hI0))
 ·
  refine awp_seq ?_
  refine awp_seq ?_
  refine rk tt_ok [(9, .b false)] [] [] [] [(2, .val (.i (d.length : Int))), (3, .val (.b false))] (o2 (ob_eq (av_len d)) (o1 (ob_eq (av_bool (decide_eq_false (p := ((k0 : Nat) : Int) < (d.length : Int)) (by omega)))))) ?_
  refine ckF ?_
  refine awp_exit ?_
  exact Exists.intro () (And.intro (weak_fit (by kernel_rfl)) (forL_end hk0 (rfl) hI0))
 ·
  refine awp_seq ?_
  refine rk tt_ok [(4, .i (-1))] [4] [] [] [] (o0) ?_
  refine awp_ret ?_
  exact pret [] (congrArg (fun z => (.i z : AV)) (show specl11Place d name = -1 from on_b hD0 (rfl)).symm)
end Go.Proofs.YtnhmnfmhnepjmaaGreat
