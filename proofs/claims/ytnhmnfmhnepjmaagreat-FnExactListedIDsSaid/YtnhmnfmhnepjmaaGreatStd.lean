/- What functions compute, and that they do (printed by am2.py): each function as a Lean function, then its contract. -/
import Derived.Test.YtnhmnfmhnepjmaaGreatSth
import Derived.KernelRfl
set_option linter.unusedVariables false
set_option linter.unusedSimpArgs false
namespace Go.Proofs.YtnhmnfmhnepjmaaGreat
open Go.RowKit
open GoE (enc wide)
def specl07Ints_f0 (b : (List Int)) (k0 : Nat) (a0 : Int) (_ : Unit) : Rd (Bool) (Unit) (Unit) := (bif (a0 != (nth b k0)) then (.ret false) else (.next ()))
def specl07Ints_e0 (_ : Nat) (_ : Unit) : Unit := ()
def specl07Ints (a_ : (List Int)) (b : (List Int)) : Bool := (bif ((a_.length : Int) != (b.length : Int)) then false else (Out.on (forL (specl07Ints_f0 b) specl07Ints_e0 a_ 0 ()) (fun _ => true)))
theorem specl07Ints_a (a_ : (List Int)) (b : (List Int)) : ACalls Tryz.prog 72 [.h a_, .h b] (.b (specl07Ints a_ b)) := by
 refine acalls_of (tt := tt) tt_ok Tryz.func72 (fn := Tryz.f72) rfl (by unfold FnOk; kernel_rfl) (Nat.le_of_ble_eq_true rfl) fun w0 F0 => ?_
 refine awp_seq ?_
 refine rk tt_ok [(4, .b false)] [] [] [] [] (o0) ?_
 refine awp_seq ?_
 refine awp_seq ?_
 refine rk tt_ok [(10, .b ((a_.length : Int) != (b.length : Int)))] [] [] [] [(1, .val (.i (a_.length : Int))), (3, .val (.i (b.length : Int)))] (o2 (ob_eq (av_len a_)) (o1 (ob_eq (av_len b)))) ?_
 refine ck ((a_.length : Int) != (b.length : Int)) (fun h1 => ?_) (fun h1 => ?_)
 ·
  refine awp_seq ?_
  refine rk tt_ok [] [10] [] [] [] (o0) ?_
  refine awp_ret ?_
  exact pret [] (congrArg (fun z => (.b z : AV)) (show specl07Ints a_ b = false from bif_t h1 (rfl)).symm)
 ·
  have h1d := eq_of_bne h1
  refine awp_skip ?_
  refine awp_seq ?_
  refine awp_seq ?_
  refine rk tt_ok [(5, .i 0)] [10] [] [] [] (o0) ?_
  refine wdT 0 0 .sh a_ (fun hw2 => ?_)
  have hl3 : List.length a_ ≤ 1073741824 := wide_len (hw2)
  refine blk (fun (k0 : Nat) (s0 : Unit) => [(5, .i ((k0 : Nat) : Int))]) [5] (fun k0 s0 => []) [] (fun (y0 : Unit) => []) [0, 1, 5] (fun y0 => []) [] (fun (k0 : Nat) (s0 : Unit) => (forL (specl07Ints_f0 b) specl07Ints_e0 a_ 0 ()) = forL (specl07Ints_f0 b) specl07Ints_e0 (List.drop k0 a_) k0 s0) (fun (y0 : Unit) => (forL (specl07Ints_f0 b) specl07Ints_e0 a_ 0 ()) = .brk y0) a_.length () (weak_fit (by kernel_rfl)) rfl (fun k0 s0 hk0 hI0 => ?_) (fun k0 s0 hk0 hI0 => ?_) (fun y0 hD0 => ?_)
  ·
   obtain ⟨a0, hx0⟩ := get_some (l := a_) (i := k0) hk0
   refine awp_seq ?_
   refine awp_seq ?_
   refine rk tt_ok [(14, .b true)] [] [] [] [(2, .val (.i (a_.length : Int))), (3, .val (.b true))] (o2 (ob_eq (av_len a_)) (o1 (ob_eq (av_bool (decide_eq_true (p := ((k0 : Nat) : Int) < (a_.length : Int)) (by omega)))))) ?_
   refine ckT ?_
   refine awp_skip ?_
   refine awp_seq ?_
   refine awp_block ?_
   refine awp_seq ?_
   refine wdT 1 0 .sh b (fun hw5 => ?_)
   have hl6 : List.length b ≤ 1073741824 := wide_len (hw5)
   have hx4 : b[k0]? = some (nth b k0) := nth_get (by omega)
   refine rd' tt_ok tt_mx [(25, .b (a0 != (nth b k0)))] [14] [] [] [(2, .row [.i a0]), (6, .row [.i (nth b k0)])] (o2 (ob_elem (el_of (i := ((k0 : Nat) : Int)) (by omega) rfl hx0)) (o1 (ob_elem (el_of (i := ((k0 : Nat) : Int)) (by omega) rfl hx4)))) ?_
   refine ck (a0 != (nth b k0)) (fun h7 => ?_) (fun h7 => ?_)
   ·
    refine awp_seq ?_
    refine rk tt_ok [] [25] [] [] [] (o0) ?_
    refine awp_ret ?_
    have hr8 : (forL (specl07Ints_f0 b) specl07Ints_e0 a_ 0 ()) = .ret false := forL_ret hx0 (bif_t h7 (rfl)) hI0
    exact pret [] (congrArg (fun z => (.b z : AV)) (show specl07Ints a_ b = false from bif_f h1 (on_r hr8)).symm)
   ·
    have h7d := eq_of_bne h7
    refine awp_skip ?_
    refine rk tt_ok [(5, .i ((k0 + 1 : Nat) : Int))] [5, 25] [] [] [(1, .val (.i ((k0 + 1 : Nat) : Int)))] (o1 (ob_eq (av_i (wrap_succ k0 (by omega))))) ?_
    exact Exists.intro () (And.intro (weak_fit (by kernel_rfl)) (forL_next hx0 (bif_f h7 (rfl)) hI0))
  ·
   refine awp_seq ?_
   refine awp_seq ?_
   refine rk tt_ok [(14, .b false)] [] [] [] [(2, .val (.i (a_.length : Int))), (3, .val (.b false))] (o2 (ob_eq (av_len a_)) (o1 (ob_eq (av_bool (decide_eq_false (p := ((k0 : Nat) : Int) < (a_.length : Int)) (by omega)))))) ?_
   refine ckF ?_
   refine awp_exit ?_
   exact Exists.intro () (And.intro (weak_fit (by kernel_rfl)) (forL_end hk0 (rfl) hI0))
  ·
   refine awp_seq ?_
   refine rk tt_ok [(4, .b true)] [4] [] [] [] (o0) ?_
   refine awp_ret ?_
   exact pret [] (congrArg (fun z => (.b z : AV)) (show specl07Ints a_ b = true from bif_f h1 (on_b hD0 (rfl))).symm)
def specStrata_f0 (d : (List DirD)) (_ : Nat) (s0 : (List Int)) : Rd ((List Int) × Bool) ((List Int)) ((List Int)) := (.next (specl13Raise d s0))
def specStrata_e0 (_ : Nat) (s0 : (List Int)) : (List Int) := s0
def specStrata (d : (List DirD)) : (List Int) × Bool := (bif (!(specIsValidDirs d)) then ([], false) else (Out.on (forN (specStrata_f0 d) specStrata_e0 (Int.toNat (IntKind.i64.wrap (IntKind.i64.wrap ((d.length : Int) * (d.length : Int)) + 1) + 1)) 0 (List.replicate (Int.toNat (d.length : Int)) (0 : Int))) (fun y0 => (bif (!(specl07Ints (specl13Raise d y0) y0)) then ([], false) else (y0, true)))))
theorem specStrata_a (d : (List DirD)) : ACalls Tryz.prog 168 [.h d] (.tup [(false, [.o 0 (((specStrata d)).1)]), (false, [.b (((specStrata d)).2)])]) := by
 refine acalls_of (tt := tt) tt_ok Tryz.func168 (fn := Tryz.f168) rfl (by unfold FnOk; kernel_rfl) (Nat.le_of_ble_eq_true rfl) fun w0 F0 => ?_
 refine awp_seq ?_
 refine rk tt_ok [(2, .e 0), (3, .b false)] [] [] [] [] (o0) ?_
 refine awp_seq ?_
 refine awp_seq ?_
 refine rk tt_ok [(8, .b (!(specIsValidDirs d)))] [] [] [] [(1, .val (.b (specIsValidDirs d)))] (o1 (ob_call (specIsValidDirs_a d))) ?_
 refine ck (!(specIsValidDirs d)) (fun h1 => ?_) (fun h1 => ?_)
 ·
  refine awp_seq ?_
  refine rk tt_ok [(2, .one (.slc (.own true 576) 1 []))] [2, 8] [] [] [] (o0) ?_
  refine awp_ret ?_
  exact pret [] (congrArg (fun z => (.tup [(false, [.o 0 z.1]), (false, [.b z.2])] : AV)) (show specStrata d = ([], false) from bif_t h1 (rfl)).symm)
 ·
  have h1n : (specIsValidDirs d) = true := bnot_f h1
  have h1nv := dirs5 h1n
  refine awp_skip ?_
  refine awp_seq ?_
  refine wdT 0 0 .sh d (fun hw2 => ?_)
  have hl3 : List.length d ≤ 1073741824 := wide_len (hw2)
  refine rk tt_ok [(4, .one (.slc (.own true 768) 1 (List.replicate (Int.toNat (d.length : Int)) [.i 0])))] [8] [] [] [(1, .val (.i (d.length : Int)))] (o2 (ob_eq (av_len d)) (o1 (ob_rng (lo := 0) (hi := (d.length : Int)) (n := 1073741824) (⟨by omega, by omega, by omega⟩)))) ?_
  refine eqn [(4, .o 768 (List.replicate (Int.toNat (d.length : Int)) (0 : Int)))] [4] [] [] (by rw [show (List.replicate (Int.toNat (d.length : Int)) [.i 0]) = (eL (List.replicate (Int.toNat (d.length : Int)) (0 : Int))) from mk_eL _ (0 : Int)]; first | done | kernel_rfl) ?_
  refine awp_seq ?_
  refine awp_seq ?_
  refine rk tt_ok [(5, .i 0)] [] [] [] [] (o0) ?_
  refine blk (fun (k0 : Nat) (s0 : (List Int)) => [(4, .o 147203 s0), (5, .i ((k0 : Nat) : Int))]) [4, 5] (fun k0 s0 => []) [] (fun (y0 : (List Int)) => [(4, .o 147353 y0)]) [4, 5] (fun y0 => []) [] (fun (k0 : Nat) (s0 : (List Int)) => (forN (specStrata_f0 d) specStrata_e0 (Int.toNat (IntKind.i64.wrap (IntKind.i64.wrap ((d.length : Int) * (d.length : Int)) + 1) + 1)) 0 (List.replicate (Int.toNat (d.length : Int)) (0 : Int))) = forN (specStrata_f0 d) specStrata_e0 ((Int.toNat (IntKind.i64.wrap (IntKind.i64.wrap ((d.length : Int) * (d.length : Int)) + 1) + 1)) - k0) k0 s0 ∧ List.length s0 = List.length d) (fun (y0 : (List Int)) => (forN (specStrata_f0 d) specStrata_e0 (Int.toNat (IntKind.i64.wrap (IntKind.i64.wrap ((d.length : Int) * (d.length : Int)) + 1) + 1)) 0 (List.replicate (Int.toNat (d.length : Int)) (0 : Int))) = .brk y0 ∧ List.length y0 = List.length d) (Int.toNat (IntKind.i64.wrap (IntKind.i64.wrap ((d.length : Int) * (d.length : Int)) + 1) + 1)) (List.replicate (Int.toNat (d.length : Int)) (0 : Int)) (weak_sf [(768, 147203)] (by kernel_rfl)) ⟨rfl, (by simp)⟩ (fun k0 s0 hk0 hI0 => ?_) (fun k0 s0 hk0 hI0 => ?_) (fun y0 hD0 => ?_)
  ·
   have hA0_0 := hI0.2
   refine awp_seq ?_
   refine awp_seq ?_
   refine rk tt_ok [(20, .b true)] [] [] [] [(2, .val (.i (d.length : Int))), (4, .val (.i (d.length : Int))), (7, .val (.b true))] (o2 (ob_eq (av_len d)) (o2 (ob_eq (av_len d)) (o1 (ob_eq (av_bool (decide_eq_true (p := ((k0 : Nat) : Int) ≤ IntKind.i64.wrap (IntKind.i64.wrap ((d.length : Int) * (d.length : Int)) + 1)) (by omega))))))) ?_
   refine ckT ?_
   refine awp_skip ?_
   refine awp_seq ?_
   refine awp_block ?_
   refine rk tt_ok [(4, .o 1600 (specl13Raise d s0))] [4, 20] [] [] [(2, .val (.o 0 (specl13Raise d s0)))] (o1 (ob_call (specl13Raise_a d s0 (by omega)))) ?_
   refine rk tt_ok [(5, .i ((k0 + 1 : Nat) : Int))] [5] [] [] [(1, .val (.i ((k0 + 1 : Nat) : Int)))] (o1 (ob_eq (av_i (wrap_succ k0 (by omega))))) ?_
   exact Exists.intro (specl13Raise d s0) (And.intro (weak_sf [(1600, 147203)] (by kernel_rfl)) ⟨forN_next hk0 (rfl) hI0.1, (by have hz := l13Raise_len d s0; omega)⟩)
  ·
   have hA0_0 := hI0.2
   refine awp_seq ?_
   refine awp_seq ?_
   refine rk tt_ok [(20, .b false)] [] [] [] [(2, .val (.i (d.length : Int))), (4, .val (.i (d.length : Int))), (7, .val (.b false))] (o2 (ob_eq (av_len d)) (o2 (ob_eq (av_len d)) (o1 (ob_eq (av_bool (decide_eq_false (p := ((k0 : Nat) : Int) ≤ IntKind.i64.wrap (IntKind.i64.wrap ((d.length : Int) * (d.length : Int)) + 1)) (by omega))))))) ?_
   refine ckF ?_
   refine awp_exit ?_
   exact Exists.intro s0 (And.intro (weak_sf [(147203, 147353)] (by kernel_rfl)) ⟨forN_end hk0 (rfl) hI0.1, by first | omega | (simp only [List.length_set]; omega)⟩)
  ·
   have hD0_0 := hD0.2
   refine awp_seq ?_
   refine awp_seq ?_
   refine rk tt_ok [(31, .b (!(specl07Ints (specl13Raise d y0) y0)))] [0] [] [] [(2, .val (.o 0 (specl13Raise d y0))), (4, .val (.b (specl07Ints (specl13Raise d y0) y0)))] (o2 (ob_call (specl13Raise_a d y0 (by omega))) (o1 (ob_call (specl07Ints_a (specl13Raise d y0) y0)))) ?_
   refine ck (!(specl07Ints (specl13Raise d y0) y0)) (fun h4 => ?_) (fun h4 => ?_)
   ·
    refine awp_seq ?_
    refine rk tt_ok [(2, .one (.slc (.own true 2048) 1 []))] [2, 31] [] [] [] (o0) ?_
    refine awp_ret ?_
    exact pret [] (congrArg (fun z => (.tup [(false, [.o 0 z.1]), (false, [.b z.2])] : AV)) (show specStrata d = ([], false) from bif_f h1 (on_b hD0.1 (bif_t h4 (rfl)))).symm)
   ·
    refine awp_skip ?_
    refine awp_seq ?_
    refine rk tt_ok [(2, .o 147353 y0), (3, .b true)] [2, 3, 4, 31] [] [] [] (o0) ?_
    refine awp_ret ?_
    exact pret [] (congrArg (fun z => (.tup [(false, [.o 0 z.1]), (false, [.b z.2])] : AV)) (show specStrata d = (y0, true) from bif_f h1 (on_b hD0.1 (bif_f h4 (rfl)))).symm)
def implStrata_f1 (d : (List DirD)) (k1 : Nat) (a1 : DirD) (s1 : (List Int) × Bool) : Rd (Rd ((List Int) × Bool) ((List Int) × Bool) ((List Int))) ((List Int) × Bool) ((List Int) × Bool) := (bif decide ((max (implstrataAbove d s1.1 (implPositiveDeps a1.2) 0) (implstrataAbove d s1.1 (implNegativeDeps a1.2) 1)) > (d.length : Int)) then (.ret (.ret ([], false))) else (bif decide ((max (implstrataAbove d s1.1 (implPositiveDeps a1.2) 0) (implstrataAbove d s1.1 (implNegativeDeps a1.2) 1)) > (nth s1.1 k1)) then (.next (List.set s1.1 k1 (max (implstrataAbove d s1.1 (implPositiveDeps a1.2) 0) (implstrataAbove d s1.1 (implNegativeDeps a1.2) 1)), true)) else (.next (s1.1, s1.2))))
def implStrata_e1 (_ : Nat) (s1 : (List Int) × Bool) : (List Int) × Bool := (s1.1, s1.2)
def implStrata_f0 (d : (List DirD)) (s0 : (List Int) × Bool) : Rd ((List Int) × Bool) ((List Int) × Bool) ((List Int)) := (bif s0.2 then (Out.on (forL (implStrata_f1 d) implStrata_e1 d 0 (s0.1, false)) (fun y1 => (.next (y1.1, y1.2)))) else (.brk s0.1))
def implStrata (d : (List DirD)) : (List Int) × Bool := (bif (!(implIsValidDirs d)) then ([], false) else (Out.on (whlD (implStrata_f0 d) (List.length d * List.length d + 3) ((List.replicate (Int.toNat (d.length : Int)) (0 : Int)), true)) (fun y0 => (y0, true))))
theorem implStrata_w (d : List DirD) (hd : d.length ≤ 5) : (whl (implStrata_f0 d) (List.length d * List.length d + 3) (List.replicate (Int.toNat (d.length : Int)) (0 : Int), true)).isSome = true := strata_some (f := implStrata_f1 d) (e := implStrata_e1) (fun _ _ _ => rfl) (fun _ _ => rfl) (fun _ => rfl) (by omega)
theorem implStrata_a (d : (List DirD)) : ACalls Tryz.prog 175 [.h d] (.tup [(false, [.o 0 (((implStrata d)).1)]), (false, [.b (((implStrata d)).2)])]) := by
 refine acalls_of (tt := tt) tt_ok Tryz.func175 (fn := Tryz.f175) rfl (by unfold FnOk; kernel_rfl) (Nat.le_of_ble_eq_true rfl) fun w0 F0 => ?_
 refine awp_seq ?_
 refine rk tt_ok [(2, .e 0), (3, .b false)] [] [] [] [] (o0) ?_
 refine awp_seq ?_
 refine awp_seq ?_
 refine rk tt_ok [(11, .b (!(implIsValidDirs d)))] [] [] [] [(1, .val (.b (implIsValidDirs d)))] (o1 (ob_call (implIsValidDirs_a d))) ?_
 refine ck (!(implIsValidDirs d)) (fun h1 => ?_) (fun h1 => ?_)
 ·
  refine awp_seq ?_
  refine rk tt_ok [] [11] [] [] [] (o0) ?_
  refine opn [(false, 2, 0, true, 384000, 1)] ?_
  refine awp_ret ?_
  exact pret [] (congrArg (fun z => (.tup [(false, [.o 0 z.1]), (false, [.b z.2])] : AV)) (show implStrata d = ([], false) from bif_t h1 (rfl)).symm)
 ·
  have h1n : (implIsValidDirs d) = true := bnot_f h1
  refine awp_skip ?_
  refine awp_seq ?_
  refine wdT 0 0 .sh d (fun hw2 => ?_)
  have hl3 : List.length d ≤ 1073741824 := wide_len (hw2)
  refine rk tt_ok [(4, .one (.slc (.own true 896) 1 (List.replicate (Int.toNat (d.length : Int)) [.i 0])))] [11] [] [] [(1, .val (.i (d.length : Int)))] (o2 (ob_eq (av_len d)) (o1 (ob_rng (lo := 0) (hi := (d.length : Int)) (n := 1073741824) (⟨by omega, by omega, by omega⟩)))) ?_
  refine eqn [(4, .o 896 (List.replicate (Int.toNat (d.length : Int)) (0 : Int)))] [4] [] [] (by rw [show (List.replicate (Int.toNat (d.length : Int)) [.i 0]) = (eL (List.replicate (Int.toNat (d.length : Int)) (0 : Int))) from mk_eL _ (0 : Int)]; first | done | kernel_rfl) ?_
  refine awp_seq ?_
  refine awp_seq ?_
  refine rk tt_ok [(5, .b true)] [] [] [] [] (o0) ?_
  refine blw (fun (s0 : (List Int) × Bool) => [(4, .o 896 s0.1), (5, .b s0.2)]) [4, 5] (fun s0 => []) [] (fun (y0 : (List Int)) => [(4, .o 896 y0)]) [0, 4, 5] (fun y0 => []) [] (fun (k0 : Nat) (s0 : (List Int) × Bool) => whl (implStrata_f0 d) k0 s0 = some (whlD (implStrata_f0 d) (List.length d * List.length d + 3) ((List.replicate (Int.toNat (d.length : Int)) (0 : Int)), true)) ∧ List.length s0.1 = List.length d) (fun (y0 : (List Int)) => (whlD (implStrata_f0 d) (List.length d * List.length d + 3) ((List.replicate (Int.toNat (d.length : Int)) (0 : Int)), true)) = .brk y0) (List.length d * List.length d + 3) ((List.replicate (Int.toNat (d.length : Int)) (0 : Int)), true) (weak_fit (by kernel_rfl)) ⟨whl_some (implStrata_w d (vdirs_len (h1n))), (by simp)⟩ (fun _ h => whl_zero h.1) (fun k0 s0 hI0 => ?_) (fun y0 hD0 => ?_)
  ·
   have hA0_0 := hI0.2
   refine awp_seq ?_
   refine awp_seq ?_
   refine rk tt_ok [(15, .b s0.2)] [] [] [] [] (o0) ?_
   refine ck s0.2 (fun h4 => ?_) (fun h4 => ?_)
   ·
    refine awp_skip ?_
    refine awp_block ?_
    refine awp_seq ?_
    refine rk tt_ok [(5, .b false)] [5, 15] [] [] [] (o0) ?_
    refine awp_seq ?_
    refine rk tt_ok [(16, .h d), (17, .i (d.length : Int)), (18, .i 0)] [] [] [] [(1, .val (.i (d.length : Int)))] (o1 (ob_eq (av_len d))) ?_
    refine blk (fun (k1 : Nat) (s1 : (List Int) × Bool) => [(4, .o 896 s1.1), (5, .b s1.2), (18, .i ((k1 : Nat) : Int))]) [4, 5, 18] (fun k1 s1 => []) [] (fun (y1 : (List Int) × Bool) => [(4, .o 896 y1.1), (5, .b y1.2)]) [4, 5, 16, 17, 18] (fun y1 => []) [] (fun (k1 : Nat) (s1 : (List Int) × Bool) => (forL (implStrata_f1 d) implStrata_e1 d 0 (s0.1, false)) = forL (implStrata_f1 d) implStrata_e1 (List.drop k1 d) k1 s1 ∧ List.length s1.1 = List.length s0.1) (fun (y1 : (List Int) × Bool) => (forL (implStrata_f1 d) implStrata_e1 d 0 (s0.1, false)) = .brk y1 ∧ List.length y1.1 = List.length s0.1) d.length (s0.1, false) (weak_fit (by kernel_rfl)) ⟨rfl, (by simp)⟩ (fun k1 s1 hk1 hI1 => ?_) (fun k1 s1 hk1 hI1 => ?_) (fun y1 hD1 => ?_)
    ·
     have hA1_0 := hI1.2
     obtain ⟨a1, hx1⟩ := get_some (l := d) (i := k1) hk1
     refine awp_seq ?_
     refine rk tt_ok [(19, .b true)] [] [] [] [(0, .val (.b true))] (o1 (ob_eq (av_bool (decide_eq_true (p := ((k1 : Nat) : Int) < (d.length : Int)) (by omega))))) ?_
     refine awp_seq ?_
     refine ckT ?_
     refine awp_skip ?_
     refine awp_seq ?_
     refine awp_block ?_
     refine awp_seq ?_
     refine rk tt_ok [(6, .i ((k1 : Nat) : Int)), (7, .p 7 0)] [19] [(7, [.s a1.1, .h a1.2])] [] [(1, .row [.s a1.1, .h a1.2])] (o1 (ob_elem (el_of (i := ((k1 : Nat) : Int)) (by omega) rfl hx1))) ?_
     refine awp_seq ?_
     refine rd' tt_ok tt_mx [(8, .i (max (implstrataAbove d s1.1 (implPositiveDeps a1.2) 0) (implstrataAbove d s1.1 (implNegativeDeps a1.2) 1)))] [7] [] [7] [(4, .val (.h (implPositiveDeps a1.2))), (5, .val (.i (implstrataAbove d s1.1 (implPositiveDeps a1.2) 0))), (10, .val (.h (implNegativeDeps a1.2))), (11, .val (.i (implstrataAbove d s1.1 (implNegativeDeps a1.2) 1)))] (o2 (ob_call (implPositiveDeps_a a1.2)) (o2 (ob_call (implstrataAbove_a d s1.1 (implPositiveDeps a1.2) 0 (by omega))) (o2 (ob_call (implNegativeDeps_a a1.2)) (o1 (ob_call (implstrataAbove_a d s1.1 (implNegativeDeps a1.2) 1 (by omega))))))) ?_
     refine awp_seq ?_
     refine awp_seq ?_
     refine rk tt_ok [(39, .b (decide ((max (implstrataAbove d s1.1 (implPositiveDeps a1.2) 0) (implstrataAbove d s1.1 (implNegativeDeps a1.2) 1)) > (d.length : Int))))] [] [] [] [(2, .val (.i (d.length : Int)))] (o1 (ob_eq (av_len d))) ?_
     refine ck (decide ((max (implstrataAbove d s1.1 (implPositiveDeps a1.2) 0) (implstrataAbove d s1.1 (implNegativeDeps a1.2) 1)) > (d.length : Int))) (fun h5 => ?_) (fun h5 => ?_)
     ·
      refine awp_seq ?_
      refine rk tt_ok [] [39] [] [] [] (o0) ?_
      refine opn [(false, 2, 0, true, 384000, 1)] ?_
      refine awp_ret ?_
      have hr6 : (forL (implStrata_f1 d) implStrata_e1 d 0 (s0.1, false)) = .ret (.ret ([], false)) := forL_ret hx1 (bif_t h5 (rfl)) hI1.1
      have hr7 : (whlD (implStrata_f0 d) (List.length d * List.length d + 3) ((List.replicate (Int.toNat (d.length : Int)) (0 : Int)), true)) = .ret ([], false) := whl_ret (bif_t h4 (on_r hr6)) hI0.1
      exact pret [] (congrArg (fun z => (.tup [(false, [.o 0 z.1]), (false, [.b z.2])] : AV)) (show implStrata d = ([], false) from bif_f h1 (on_r hr7)).symm)
     ·
      have h5d := of_decide_eq_false h5
      refine awp_skip ?_
      refine awp_seq ?_
      refine wdT 4 0 (.own true 896) s1.1 (fun hw9 => ?_)
      have hl10 : List.length s1.1 ≤ 1073741824 := wide_len (hw9)
      have hx8 : s1.1[k1]? = some (nth s1.1 k1) := nth_get (by omega)
      refine rk tt_ok [(45, .b (decide ((max (implstrataAbove d s1.1 (implPositiveDeps a1.2) 0) (implstrataAbove d s1.1 (implNegativeDeps a1.2) 1)) > (nth s1.1 k1))))] [39] [] [] [(3, .rowE [.i (nth s1.1 k1)])] (o1 (ob_elem (el_of (i := ((k1 : Nat) : Int)) (by omega) rfl hx8))) ?_
      refine ck (decide ((max (implstrataAbove d s1.1 (implPositiveDeps a1.2) 0) (implstrataAbove d s1.1 (implNegativeDeps a1.2) 1)) > (nth s1.1 k1))) (fun h11 => ?_) (fun h11 => ?_)
      ·
       have h11d := of_decide_eq_true h11
       refine awp_seq ?_
       refine rk tt_ok [(4, .one (.slc (.own true 896) 1 (setRow (eL s1.1) k1 0 [.i (max (implstrataAbove d s1.1 (implPositiveDeps a1.2) 0) (implstrataAbove d s1.1 (implNegativeDeps a1.2) 1))])))] [4, 6, 8, 45] [] [] [(3, .rowE [.i (nth s1.1 k1)])] (o1 (ob_elem (el_of (i := ((k1 : Nat) : Int)) (by omega) rfl hx8))) ?_
       refine eqn [(4, .o 896 (List.set s1.1 k1 (max (implstrataAbove d s1.1 (implPositiveDeps a1.2) 0) (implstrataAbove d s1.1 (implNegativeDeps a1.2) 1))))] [4] [] [] (by rw [setRow_eL (y := (max (implstrataAbove d s1.1 (implPositiveDeps a1.2) 0) (implstrataAbove d s1.1 (implNegativeDeps a1.2) 1))) hx8 rfl]; first | done | kernel_rfl) ?_
       refine rk tt_ok [(5, .b true)] [5] [] [] [] (o0) ?_
       refine rk tt_ok [(18, .i ((k1 + 1 : Nat) : Int))] [18] [] [] [(0, .val (.i ((k1 + 1 : Nat) : Int)))] (o1 (ob_eq (av_i (wrap_succ k1 (by omega))))) ?_
       exact Exists.intro (List.set s1.1 k1 (max (implstrataAbove d s1.1 (implPositiveDeps a1.2) 0) (implstrataAbove d s1.1 (implNegativeDeps a1.2) 1)), true) (And.intro (weak_fit (by kernel_rfl)) ⟨forL_next hx1 (bif_f h5 (bif_t h11 (rfl))) hI1.1, (by first | omega | (simp only [List.length_set]; omega))⟩)
      ·
       have h11d := of_decide_eq_false h11
       refine awp_skip ?_
       refine rk tt_ok [(18, .i ((k1 + 1 : Nat) : Int))] [6, 8, 18, 45] [] [] [(0, .val (.i ((k1 + 1 : Nat) : Int)))] (o1 (ob_eq (av_i (wrap_succ k1 (by omega))))) ?_
       exact Exists.intro (s1.1, s1.2) (And.intro (weak_fit (by kernel_rfl)) ⟨forL_next hx1 (bif_f h5 (bif_f h11 (rfl))) hI1.1, (by first | omega | (simp only [List.length_set]; omega))⟩)
    ·
     have hA1_0 := hI1.2
     refine awp_seq ?_
     refine rk tt_ok [(19, .b false)] [] [] [] [(0, .val (.b false))] (o1 (ob_eq (av_bool (decide_eq_false (p := ((k1 : Nat) : Int) < (d.length : Int)) (by omega))))) ?_
     refine awp_seq ?_
     refine ckF ?_
     refine awp_exit ?_
     exact Exists.intro (s1.1, s1.2) (And.intro (weak_fit (by kernel_rfl)) ⟨forL_end hk1 (rfl) hI1.1, by first | omega | (simp only [List.length_set]; omega)⟩)
    ·
     have hD1_0 := hD1.2
     exact Exists.intro (y1.1, y1.2) (And.intro (weak_fit (by kernel_rfl)) ⟨whl_next (bif_t h4 (on_b hD1.1 (rfl))) hI0.1, (by first | omega | (simp only [List.length_set]; omega))⟩)
   ·
    refine awp_exit ?_
    exact Exists.intro s0.1 (And.intro (weak_fit (by kernel_rfl)) (whl_brk (bif_f h4 (rfl)) hI0.1))
  ·
   refine awp_seq ?_
   refine rk tt_ok [(2, .o 896 y0), (3, .b true)] [2, 3, 4] [] [] [] (o0) ?_
   refine awp_ret ?_
   exact pret [] (congrArg (fun z => (.tup [(false, [.o 0 z.1]), (false, [.b z.2])] : AV)) (show implStrata d = (y0, true) from bif_f h1 (on_b hD0 (rfl))).symm)
end Go.Proofs.YtnhmnfmhnepjmaaGreat
