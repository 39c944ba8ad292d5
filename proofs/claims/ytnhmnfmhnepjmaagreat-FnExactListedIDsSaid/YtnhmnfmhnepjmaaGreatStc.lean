/- What functions compute, and that they do (printed by am2.py): each function as a Lean function, then its contract. -/
import Derived.Test.YtnhmnfmhnepjmaaGreatStb
import Derived.KernelRfl
set_option linter.unusedVariables false
set_option linter.unusedSimpArgs false
namespace Go.Proofs.YtnhmnfmhnepjmaaGreat
open Go.RowKit
open GoE (enc wide)
def implstrataAbove_f0 (d : (List DirD)) (strata : (List Int)) (more : Int) (_ : Nat) (a0 : ByteArray) (s0 : Int) : Rd (Int) (Int) (Int) := (bif decide ((impldirAt d a0) ≥ (0 : Int)) then (.next (max s0 (IntKind.i64.wrap ((nth strata (Int.toNat (impldirAt d a0))) + more)))) else (.next s0))
def implstrataAbove_e0 (_ : Nat) (s0 : Int) : Int := s0
def implstrataAbove (d : (List DirD)) (strata : (List Int)) (names : (List ByteArray)) (more : Int) : Int := (Out.on (forL (implstrataAbove_f0 d strata more) implstrataAbove_e0 names 0 0) (fun y0 => y0))
theorem implstrataAbove_a (d : (List DirD)) (strata : (List Int)) (names : (List ByteArray)) (more : Int) (hp : List.length d ≤ List.length strata) : ACalls Tryz.prog 201 [.h d, .h strata, .h names, .i more] (.i (implstrataAbove d strata names more)) := by
 refine acalls_of (tt := tt) tt_ok Tryz.func201 (fn := Tryz.f201) rfl (by unfold FnOk; kernel_rfl) (Nat.le_of_ble_eq_true rfl) fun w0 F0 => ?_
 refine awp_seq ?_
 refine rk tt_ok [(8, .i 0)] [] [] [] [] (o0) ?_
 refine awp_seq ?_
 refine rk tt_ok [(9, .i 0)] [] [] [] [] (o0) ?_
 refine awp_seq ?_
 refine awp_seq ?_
 refine rk tt_ok [(13, .h names), (14, .i (names.length : Int)), (15, .i 0)] [2] [] [] [(1, .val (.i (names.length : Int)))] (o1 (ob_eq (av_len names))) ?_
 refine wdT 13 0 .sh names (fun hw1 => ?_)
 have hl2 : List.length names ≤ 1073741824 := wide_len (hw1)
 refine blk (fun (k0 : Nat) (s0 : Int) => [(9, .i s0), (15, .i ((k0 : Nat) : Int))]) [9, 15] (fun k0 s0 => []) [] (fun (y0 : Int) => [(9, .i y0)]) [0, 1, 3, 9, 13, 14, 15] (fun y0 => []) [] (fun (k0 : Nat) (s0 : Int) => (forL (implstrataAbove_f0 d strata more) implstrataAbove_e0 names 0 0) = forL (implstrataAbove_f0 d strata more) implstrataAbove_e0 (List.drop k0 names) k0 s0) (fun (y0 : Int) => (forL (implstrataAbove_f0 d strata more) implstrataAbove_e0 names 0 0) = .brk y0) names.length 0 (weak_fit (by kernel_rfl)) rfl (fun k0 s0 hk0 hI0 => ?_) (fun k0 s0 hk0 hI0 => ?_) (fun y0 hD0 => ?_)
 ·
  obtain ⟨a0, hx0⟩ := get_some (l := names) (i := k0) hk0
  refine awp_seq ?_
  refine rk tt_ok [(16, .b true)] [] [] [] [(0, .val (.b true))] (o1 (ob_eq (av_bool (decide_eq_true (p := ((k0 : Nat) : Int) < (names.length : Int)) (by omega))))) ?_
  refine awp_seq ?_
  refine ckT ?_
  refine awp_skip ?_
  refine awp_seq ?_
  refine awp_block ?_
  refine awp_seq ?_
  refine rk tt_ok [(11, .s a0)] [16] [] [] [(0, .row [.s a0])] (o1 (ob_elem (el_of (i := ((k0 : Nat) : Int)) (by omega) rfl hx0))) ?_
  refine awp_seq ?_
  refine rk tt_ok [(12, .i (impldirAt d a0))] [11] [] [] [(2, .val (.i (impldirAt d a0)))] (o1 (ob_call (impldirAt_a d a0))) ?_
  refine awp_seq ?_
  refine rk tt_ok [(23, .b (decide ((impldirAt d a0) ≥ (0 : Int))))] [] [] [] [] (o0) ?_
  refine ck (decide ((impldirAt d a0) ≥ (0 : Int))) (fun h3 => ?_) (fun h3 => ?_)
  ·
   have h3p := place_lt d a0
   have h3d := of_decide_eq_true h3
   refine wdT 1 0 .sh strata (fun hw5 => ?_)
   have hl6 : List.length strata ≤ 1073741824 := wide_len (hw5)
   have hx4 : strata[(Int.toNat (impldirAt d a0))]? = some (nth strata (Int.toNat (impldirAt d a0))) := nth_get (by omega)
   refine rk tt_ok [(9, .i (max s0 (IntKind.i64.wrap ((nth strata (Int.toNat (impldirAt d a0))) + more))))] [9, 12, 23] [] [] [(3, .row [.i (nth strata (Int.toNat (impldirAt d a0)))])] (o1 (ob_elem (el_of (i := (impldirAt d a0)) (by omega) rfl hx4))) ?_
   refine rk tt_ok [(15, .i ((k0 + 1 : Nat) : Int))] [15] [] [] [(0, .val (.i ((k0 + 1 : Nat) : Int)))] (o1 (ob_eq (av_i (wrap_succ k0 (by omega))))) ?_
   exact Exists.intro (max s0 (IntKind.i64.wrap ((nth strata (Int.toNat (impldirAt d a0))) + more))) (And.intro (weak_fit (by kernel_rfl)) (forL_next hx0 (bif_t h3 (rfl)) hI0))
  ·
   have h3d := of_decide_eq_false h3
   refine awp_skip ?_
   refine rk tt_ok [(15, .i ((k0 + 1 : Nat) : Int))] [12, 15, 23] [] [] [(0, .val (.i ((k0 + 1 : Nat) : Int)))] (o1 (ob_eq (av_i (wrap_succ k0 (by omega))))) ?_
   exact Exists.intro s0 (And.intro (weak_fit (by kernel_rfl)) (forL_next hx0 (bif_f h3 (rfl)) hI0))
 ·
  refine awp_seq ?_
  refine rk tt_ok [(16, .b false)] [] [] [] [(0, .val (.b false))] (o1 (ob_eq (av_bool (decide_eq_false (p := ((k0 : Nat) : Int) < (names.length : Int)) (by omega))))) ?_
  refine awp_seq ?_
  refine ckF ?_
  refine awp_exit ?_
  exact Exists.intro s0 (And.intro (weak_fit (by kernel_rfl)) (forL_end hk0 (rfl) hI0))
 ·
  refine awp_seq ?_
  refine rk tt_ok [(8, .i y0)] [8, 9] [] [] [] (o0) ?_
  refine awp_ret ?_
  exact pret [] (congrArg (fun z => (.i z : AV)) (show implstrataAbove d strata names more = y0 from on_b hD0 (rfl)).symm)
def specl13Raise_f1 (d : (List DirD)) (k0 : Nat) (_ : Nat) (a1 : ByteArray) (s1 : (List Int)) : Rd (Rd ((List Int)) ((List Int)) ((List Int))) ((List Int)) ((List Int)) := (bif (decide ((specl11Place d a1) ≥ (0 : Int)) && decide ((nth s1 (Int.toNat (specl11Place d a1))) > (nth s1 k0))) then (.next (List.set s1 k0 (nth s1 (Int.toNat (specl11Place d a1))))) else (.next s1))
def specl13Raise_e1 (_ : Nat) (s1 : (List Int)) : (List Int) := s1
def specl13Raise_f2 (d : (List DirD)) (k0 : Nat) (_ : Nat) (a2 : ByteArray) (s2 : (List Int)) : Rd (Rd ((List Int)) ((List Int)) ((List Int))) ((List Int)) ((List Int)) := (bif (decide ((specl11Place d a2) ≥ (0 : Int)) && decide (IntKind.i64.wrap ((nth s2 (Int.toNat (specl11Place d a2))) + 1) > (nth s2 k0))) then (.next (List.set s2 k0 (IntKind.i64.wrap ((nth s2 (Int.toNat (specl11Place d a2))) + 1)))) else (.next s2))
def specl13Raise_e2 (_ : Nat) (s2 : (List Int)) : (List Int) := s2
def specl13Raise_f0 (d : (List DirD)) (k0 : Nat) (a0 : DirD) (s0 : (List Int)) : Rd ((List Int)) ((List Int)) ((List Int)) := (Out.on (forL (specl13Raise_f1 d k0) specl13Raise_e1 (specPositiveDeps a0.2) 0 s0) (fun y1 => (Out.on (forL (specl13Raise_f2 d k0) specl13Raise_e2 (specNegativeDeps a0.2) 0 y1) (fun y2 => (.next y2)))))
def specl13Raise_e0 (_ : Nat) (s0 : (List Int)) : (List Int) := s0
def specl13Raise (d : (List DirD)) (lev : (List Int)) : (List Int) := (Out.on (forL (specl13Raise_f0 d) specl13Raise_e0 d 0 lev) (fun y0 => y0))
theorem specl13Raise_a (d : (List DirD)) (lev : (List Int)) (hp : List.length d ≤ List.length lev) : ACalls Tryz.prog 196 [.h d, .h lev] (.o 0 (specl13Raise d lev)) := by
 refine acalls_of (tt := tt) tt_ok Tryz.func196 (fn := Tryz.f196) rfl (by unfold FnOk; kernel_rfl) (Nat.le_of_ble_eq_true rfl) fun w0 F0 => ?_
 refine awp_seq ?_
 refine rk tt_ok [(4, .e 0)] [] [] [] [] (o0) ?_
 refine awp_seq ?_
 refine wdT 1 0 .sh lev (fun hw1 => ?_)
 have hl2 : List.length lev ≤ 1073741824 := wide_len (hw1)
 refine rk tt_ok [(5, .o 960 lev)] [1] [] [] [(2, .flat)] (o2 (ob_len (n := (([] : List (List PV)).length + ((eL lev) : List (List PV)).length)) (len_of (rfl) (eL_length lev) (by first | omega | (simp; omega) | simp))) (o1 (ob_flat (flat_eL lev)))) ?_
 refine awp_seq ?_
 refine awp_seq ?_
 refine rk tt_ok [(6, .i 0)] [] [] [] [] (o0) ?_
 refine wdT 0 0 .sh d (fun hw3 => ?_)
 have hl4 : List.length d ≤ 1073741824 := wide_len (hw3)
 refine blk (fun (k0 : Nat) (s0 : (List Int)) => [(5, .o 960 s0), (6, .i ((k0 : Nat) : Int))]) [5, 6] (fun k0 s0 => []) [] (fun (y0 : (List Int)) => [(5, .o 960 y0)]) [0, 5, 6] (fun y0 => []) [] (fun (k0 : Nat) (s0 : (List Int)) => (forL (specl13Raise_f0 d) specl13Raise_e0 d 0 lev) = forL (specl13Raise_f0 d) specl13Raise_e0 (List.drop k0 d) k0 s0 ∧ List.length s0 = List.length lev) (fun (y0 : (List Int)) => (forL (specl13Raise_f0 d) specl13Raise_e0 d 0 lev) = .brk y0 ∧ List.length y0 = List.length lev) d.length lev (weak_fit (by kernel_rfl)) ⟨rfl, (by simp)⟩ (fun k0 s0 hk0 hI0 => ?_) (fun k0 s0 hk0 hI0 => ?_) (fun y0 hD0 => ?_)
 ·
  have hA0_0 := hI0.2
  obtain ⟨a0, hx0⟩ := get_some (l := d) (i := k0) hk0
  refine awp_seq ?_
  refine awp_seq ?_
  refine rk tt_ok [(19, .b true)] [] [] [] [(2, .val (.i (d.length : Int))), (3, .val (.b true))] (o2 (ob_eq (av_len d)) (o1 (ob_eq (av_bool (decide_eq_true (p := ((k0 : Nat) : Int) < (d.length : Int)) (by omega)))))) ?_
  refine ckT ?_
  refine awp_skip ?_
  refine awp_seq ?_
  refine awp_block ?_
  refine awp_seq ?_
  refine rk tt_ok [(7, .o 1728 (specPositiveDeps a0.2))] [19] [] [] [(2, .row [.s a0.1, .h a0.2]), (5, .val (.o 0 (specPositiveDeps a0.2)))] (o2 (ob_elem (el_of (i := ((k0 : Nat) : Int)) (by omega) rfl hx0)) (o1 (ob_call (specPositiveDeps_a a0.2)))) ?_
  refine awp_seq ?_
  refine awp_seq ?_
  refine rk tt_ok [(8, .i 0)] [] [] [] [] (o0) ?_
  refine wdT 7 0 (.own true 1728) (specPositiveDeps a0.2) (fun hw5 => ?_)
  have hl6 : List.length (specPositiveDeps a0.2) ≤ 1073741824 := wide_len (hw5)
  refine blk (fun (k1 : Nat) (s1 : (List Int)) => [(5, .o 960 s1), (8, .i ((k1 : Nat) : Int))]) [5, 8] (fun k1 s1 => []) [] (fun (y1 : (List Int)) => [(5, .o 960 y1)]) [5, 7, 8] (fun y1 => []) [] (fun (k1 : Nat) (s1 : (List Int)) => (forL (specl13Raise_f1 d k0) specl13Raise_e1 (specPositiveDeps a0.2) 0 s0) = forL (specl13Raise_f1 d k0) specl13Raise_e1 (List.drop k1 (specPositiveDeps a0.2)) k1 s1 ∧ List.length s1 = List.length s0) (fun (y1 : (List Int)) => (forL (specl13Raise_f1 d k0) specl13Raise_e1 (specPositiveDeps a0.2) 0 s0) = .brk y1 ∧ List.length y1 = List.length s0) ((specPositiveDeps a0.2).length) s0 (weak_fit (by kernel_rfl)) ⟨rfl, (by simp)⟩ (fun k1 s1 hk1 hI1 => ?_) (fun k1 s1 hk1 hI1 => ?_) (fun y1 hD1 => ?_)
  ·
   have hA1_0 := hI1.2
   obtain ⟨a1, hx1⟩ := get_some (l := specPositiveDeps a0.2) (i := k1) hk1
   refine awp_seq ?_
   refine awp_seq ?_
   refine rk tt_ok [(31, .b true)] [] [] [] [(2, .val (.i ((specPositiveDeps a0.2).length : Int))), (3, .val (.b true))] (o2 (ob_eq (av_len (specPositiveDeps a0.2))) (o1 (ob_eq (av_bool (decide_eq_true (p := ((k1 : Nat) : Int) < ((specPositiveDeps a0.2).length : Int)) (by omega)))))) ?_
   refine ckT ?_
   refine awp_skip ?_
   refine awp_seq ?_
   refine awp_block ?_
   refine awp_seq ?_
   refine rk tt_ok [(9, .i (specl11Place d a1))] [31] [] [] [(3, .rowE [.s a1]), (5, .val (.i (specl11Place d a1)))] (o2 (ob_elem (el_of (i := ((k1 : Nat) : Int)) (by omega) rfl hx1)) (o1 (ob_call (specl11Place_a d a1)))) ?_
   refine awp_seq ?_
   refine jn [(52, .b (decide ((specl11Place d a1) ≥ (0 : Int)) && decide ((nth s1 (Int.toNat (specl11Place d a1))) > (nth s1 k0))))] [] [] [] (decide ((specl11Place d a1) ≥ (0 : Int))) (fun h7 => ?_) (fun h7 => ?_) ?_
   ·
    have h7p := place_ltS d a1
    have h7d := of_decide_eq_true h7
    refine wdT 5 0 (.own true 960) s1 (fun hw9 => ?_)
    have hl10 : List.length s1 ≤ 1073741824 := wide_len (hw9)
    have hx8 : s1[(Int.toNat (specl11Place d a1))]? = some (nth s1 (Int.toNat (specl11Place d a1))) := nth_get (by omega)
    have hx11 : s1[k0]? = some (nth s1 k0) := nth_get (by omega)
    refine rd' tt_ok tt_mx [(52, .b (decide ((nth s1 (Int.toNat (specl11Place d a1))) > (nth s1 k0))))] [] [] [] [(1, .val (.b true)), (5, .rowE [.i (nth s1 (Int.toNat (specl11Place d a1)))]), (9, .rowE [.i (nth s1 k0)])] (o2 (ob_eq (av_bool h7)) (o2 (ob_elem (el_of (i := (specl11Place d a1)) (by omega) rfl hx8)) (o1 (ob_elem (el_of (i := ((k0 : Nat) : Int)) (by omega) rfl hx11))))) ?_
    exact ⟨rfl, weak_fit (by rw [h7]; first | done | kernel_rfl)⟩
   ·
    refine rd' tt_ok tt_mx [(52, .b false)] [] [] [] [(1, .val (.b false))] (o1 (ob_eq (av_bool h7))) ?_
    exact ⟨rfl, weak_fit (by rw [h7]; first | done | kernel_rfl)⟩
   refine ck (decide ((specl11Place d a1) ≥ (0 : Int)) && decide ((nth s1 (Int.toNat (specl11Place d a1))) > (nth s1 k0))) (fun h12 => ?_) (fun h12 => ?_)
   ·
    have h12l : (decide ((specl11Place d a1) ≥ (0 : Int))) = true := and_l h12
    have h12lp := place_ltS d a1
    have h12ld := of_decide_eq_true h12l
    have h12r : (decide ((nth s1 (Int.toNat (specl11Place d a1))) > (nth s1 k0))) = true := and_r h12
    have h12rd := of_decide_eq_true h12r
    refine wdT 5 0 (.own true 960) s1 (fun hw14 => ?_)
    have hl15 : List.length s1 ≤ 1073741824 := wide_len (hw14)
    have hx13 : s1[(Int.toNat (specl11Place d a1))]? = some (nth s1 (Int.toNat (specl11Place d a1))) := nth_get (by omega)
    have hx16 : s1[k0]? = some (nth s1 k0) := nth_get (by omega)
    refine rk tt_ok [(5, .one (.slc (.own true 960) 1 (setRow (eL s1) k0 0 [.i (nth s1 (Int.toNat (specl11Place d a1)))])))] [5, 9, 52] [] [] [(4, .rowE [.i (nth s1 (Int.toNat (specl11Place d a1)))]), (6, .rowE [.i (nth s1 k0)])] (o2 (ob_elem (el_of (i := (specl11Place d a1)) (by omega) rfl hx13)) (o1 (ob_elem (el_of (i := ((k0 : Nat) : Int)) (by omega) rfl hx16)))) ?_
    refine eqn [(5, .o 960 (List.set s1 k0 (nth s1 (Int.toNat (specl11Place d a1)))))] [5] [] [] (by rw [setRow_eL (y := (nth s1 (Int.toNat (specl11Place d a1)))) hx16 rfl]; first | done | kernel_rfl) ?_
    refine rk tt_ok [(8, .i ((k1 + 1 : Nat) : Int))] [8] [] [] [(1, .val (.i ((k1 + 1 : Nat) : Int)))] (o1 (ob_eq (av_i (wrap_succ k1 (by omega))))) ?_
    exact Exists.intro (List.set s1 k0 (nth s1 (Int.toNat (specl11Place d a1)))) (And.intro (weak_fit (by kernel_rfl)) ⟨forL_next hx1 (bif_t h12 (rfl)) hI1.1, (by first | omega | (simp only [List.length_set]; omega))⟩)
   ·
    refine awp_skip ?_
    refine rk tt_ok [(8, .i ((k1 + 1 : Nat) : Int))] [8, 9, 52] [] [] [(1, .val (.i ((k1 + 1 : Nat) : Int)))] (o1 (ob_eq (av_i (wrap_succ k1 (by omega))))) ?_
    exact Exists.intro s1 (And.intro (weak_fit (by kernel_rfl)) ⟨forL_next hx1 (bif_f h12 (rfl)) hI1.1, (by first | omega | (simp only [List.length_set]; omega))⟩)
  ·
   have hA1_0 := hI1.2
   refine awp_seq ?_
   refine awp_seq ?_
   refine rk tt_ok [(31, .b false)] [] [] [] [(2, .val (.i ((specPositiveDeps a0.2).length : Int))), (3, .val (.b false))] (o2 (ob_eq (av_len (specPositiveDeps a0.2))) (o1 (ob_eq (av_bool (decide_eq_false (p := ((k1 : Nat) : Int) < ((specPositiveDeps a0.2).length : Int)) (by omega)))))) ?_
   refine ckF ?_
   refine awp_exit ?_
   exact Exists.intro s1 (And.intro (weak_fit (by kernel_rfl)) ⟨forL_end hk1 (rfl) hI1.1, by first | omega | (simp only [List.length_set]; omega)⟩)
  ·
   have hD1_0 := hD1.2
   refine awp_seq ?_
   refine rk tt_ok [(10, .o 4160 (specNegativeDeps a0.2))] [] [] [] [(2, .row [.s a0.1, .h a0.2]), (5, .val (.o 0 (specNegativeDeps a0.2)))] (o2 (ob_elem (el_of (i := ((k0 : Nat) : Int)) (by omega) rfl hx0)) (o1 (ob_call (specNegativeDeps_a a0.2)))) ?_
   refine awp_seq ?_
   refine rk tt_ok [(11, .i 0)] [] [] [] [] (o0) ?_
   refine wdT 10 0 (.own true 4160) (specNegativeDeps a0.2) (fun hw17 => ?_)
   have hl18 : List.length (specNegativeDeps a0.2) ≤ 1073741824 := wide_len (hw17)
   refine blk (fun (k2 : Nat) (s2 : (List Int)) => [(5, .o 960 s2), (11, .i ((k2 : Nat) : Int))]) [5, 11] (fun k2 s2 => []) [] (fun (y2 : (List Int)) => [(5, .o 960 y2)]) [5, 10, 11] (fun y2 => []) [] (fun (k2 : Nat) (s2 : (List Int)) => (forL (specl13Raise_f2 d k0) specl13Raise_e2 (specNegativeDeps a0.2) 0 y1) = forL (specl13Raise_f2 d k0) specl13Raise_e2 (List.drop k2 (specNegativeDeps a0.2)) k2 s2 ∧ List.length s2 = List.length y1) (fun (y2 : (List Int)) => (forL (specl13Raise_f2 d k0) specl13Raise_e2 (specNegativeDeps a0.2) 0 y1) = .brk y2 ∧ List.length y2 = List.length y1) ((specNegativeDeps a0.2).length) y1 (weak_fit (by kernel_rfl)) ⟨rfl, (by simp)⟩ (fun k2 s2 hk2 hI2 => ?_) (fun k2 s2 hk2 hI2 => ?_) (fun y2 hD2 => ?_)
   ·
    have hA2_0 := hI2.2
    obtain ⟨a2, hx2⟩ := get_some (l := specNegativeDeps a0.2) (i := k2) hk2
    refine awp_seq ?_
    refine awp_seq ?_
    refine rk tt_ok [(69, .b true)] [] [] [] [(2, .val (.i ((specNegativeDeps a0.2).length : Int))), (3, .val (.b true))] (o2 (ob_eq (av_len (specNegativeDeps a0.2))) (o1 (ob_eq (av_bool (decide_eq_true (p := ((k2 : Nat) : Int) < ((specNegativeDeps a0.2).length : Int)) (by omega)))))) ?_
    refine ckT ?_
    refine awp_skip ?_
    refine awp_seq ?_
    refine awp_block ?_
    refine awp_seq ?_
    refine rk tt_ok [(12, .i (specl11Place d a2))] [69] [] [] [(3, .rowE [.s a2]), (5, .val (.i (specl11Place d a2)))] (o2 (ob_elem (el_of (i := ((k2 : Nat) : Int)) (by omega) rfl hx2)) (o1 (ob_call (specl11Place_a d a2)))) ?_
    refine awp_seq ?_
    refine jn [(91, .b (decide ((specl11Place d a2) ≥ (0 : Int)) && decide (IntKind.i64.wrap ((nth s2 (Int.toNat (specl11Place d a2))) + 1) > (nth s2 k0))))] [] [] [] (decide ((specl11Place d a2) ≥ (0 : Int))) (fun h19 => ?_) (fun h19 => ?_) ?_
    ·
     have h19p := place_ltS d a2
     have h19d := of_decide_eq_true h19
     refine wdT 5 0 (.own true 960) s2 (fun hw21 => ?_)
     have hl22 : List.length s2 ≤ 1073741824 := wide_len (hw21)
     have hx20 : s2[(Int.toNat (specl11Place d a2))]? = some (nth s2 (Int.toNat (specl11Place d a2))) := nth_get (by omega)
     have hx23 : s2[k0]? = some (nth s2 k0) := nth_get (by omega)
     refine rd' tt_ok tt_mx [(91, .b (decide (IntKind.i64.wrap ((nth s2 (Int.toNat (specl11Place d a2))) + 1) > (nth s2 k0))))] [] [] [] [(1, .val (.b true)), (5, .rowE [.i (nth s2 (Int.toNat (specl11Place d a2)))]), (10, .rowE [.i (nth s2 k0)])] (o2 (ob_eq (av_bool h19)) (o2 (ob_elem (el_of (i := (specl11Place d a2)) (by omega) rfl hx20)) (o1 (ob_elem (el_of (i := ((k0 : Nat) : Int)) (by omega) rfl hx23))))) ?_
     exact ⟨rfl, weak_fit (by rw [h19]; first | done | kernel_rfl)⟩
    ·
     refine rd' tt_ok tt_mx [(91, .b false)] [] [] [] [(1, .val (.b false))] (o1 (ob_eq (av_bool h19))) ?_
     exact ⟨rfl, weak_fit (by rw [h19]; first | done | kernel_rfl)⟩
    refine ck (decide ((specl11Place d a2) ≥ (0 : Int)) && decide (IntKind.i64.wrap ((nth s2 (Int.toNat (specl11Place d a2))) + 1) > (nth s2 k0))) (fun h24 => ?_) (fun h24 => ?_)
    ·
     have h24l : (decide ((specl11Place d a2) ≥ (0 : Int))) = true := and_l h24
     have h24lp := place_ltS d a2
     have h24ld := of_decide_eq_true h24l
     have h24r : (decide (IntKind.i64.wrap ((nth s2 (Int.toNat (specl11Place d a2))) + 1) > (nth s2 k0))) = true := and_r h24
     have h24rd := of_decide_eq_true h24r
     refine wdT 5 0 (.own true 960) s2 (fun hw26 => ?_)
     have hl27 : List.length s2 ≤ 1073741824 := wide_len (hw26)
     have hx25 : s2[(Int.toNat (specl11Place d a2))]? = some (nth s2 (Int.toNat (specl11Place d a2))) := nth_get (by omega)
     have hx28 : s2[k0]? = some (nth s2 k0) := nth_get (by omega)
     refine rk tt_ok [(5, .one (.slc (.own true 960) 1 (setRow (eL s2) k0 0 [.i (IntKind.i64.wrap ((nth s2 (Int.toNat (specl11Place d a2))) + 1))])))] [5, 12, 91] [] [] [(4, .rowE [.i (nth s2 (Int.toNat (specl11Place d a2)))]), (7, .rowE [.i (nth s2 k0)])] (o2 (ob_elem (el_of (i := (specl11Place d a2)) (by omega) rfl hx25)) (o1 (ob_elem (el_of (i := ((k0 : Nat) : Int)) (by omega) rfl hx28)))) ?_
     refine eqn [(5, .o 960 (List.set s2 k0 (IntKind.i64.wrap ((nth s2 (Int.toNat (specl11Place d a2))) + 1))))] [5] [] [] (by rw [setRow_eL (y := IntKind.i64.wrap ((nth s2 (Int.toNat (specl11Place d a2))) + 1)) hx28 rfl]; first | done | kernel_rfl) ?_
     refine rk tt_ok [(11, .i ((k2 + 1 : Nat) : Int))] [11] [] [] [(1, .val (.i ((k2 + 1 : Nat) : Int)))] (o1 (ob_eq (av_i (wrap_succ k2 (by omega))))) ?_
     exact Exists.intro (List.set s2 k0 (IntKind.i64.wrap ((nth s2 (Int.toNat (specl11Place d a2))) + 1))) (And.intro (weak_fit (by kernel_rfl)) ⟨forL_next hx2 (bif_t h24 (rfl)) hI2.1, (by first | omega | (simp only [List.length_set]; omega))⟩)
    ·
     refine awp_skip ?_
     refine rk tt_ok [(11, .i ((k2 + 1 : Nat) : Int))] [11, 12, 91] [] [] [(1, .val (.i ((k2 + 1 : Nat) : Int)))] (o1 (ob_eq (av_i (wrap_succ k2 (by omega))))) ?_
     exact Exists.intro s2 (And.intro (weak_fit (by kernel_rfl)) ⟨forL_next hx2 (bif_f h24 (rfl)) hI2.1, (by first | omega | (simp only [List.length_set]; omega))⟩)
   ·
    have hA2_0 := hI2.2
    refine awp_seq ?_
    refine awp_seq ?_
    refine rk tt_ok [(69, .b false)] [] [] [] [(2, .val (.i ((specNegativeDeps a0.2).length : Int))), (3, .val (.b false))] (o2 (ob_eq (av_len (specNegativeDeps a0.2))) (o1 (ob_eq (av_bool (decide_eq_false (p := ((k2 : Nat) : Int) < ((specNegativeDeps a0.2).length : Int)) (by omega)))))) ?_
    refine ckF ?_
    refine awp_exit ?_
    exact Exists.intro s2 (And.intro (weak_fit (by kernel_rfl)) ⟨forL_end hk2 (rfl) hI2.1, by first | omega | (simp only [List.length_set]; omega)⟩)
   ·
    have hD2_0 := hD2.2
    refine rk tt_ok [(6, .i ((k0 + 1 : Nat) : Int))] [6] [] [] [(1, .val (.i ((k0 + 1 : Nat) : Int)))] (o1 (ob_eq (av_i (wrap_succ k0 (by omega))))) ?_
    exact Exists.intro y2 (And.intro (weak_fit (by kernel_rfl)) ⟨forL_next hx0 (on_b hD1.1 (on_b hD2.1 (rfl))) hI0.1, (by first | omega | (simp only [List.length_set]; omega))⟩)
 ·
  have hA0_0 := hI0.2
  refine awp_seq ?_
  refine awp_seq ?_
  refine rk tt_ok [(19, .b false)] [] [] [] [(2, .val (.i (d.length : Int))), (3, .val (.b false))] (o2 (ob_eq (av_len d)) (o1 (ob_eq (av_bool (decide_eq_false (p := ((k0 : Nat) : Int) < (d.length : Int)) (by omega)))))) ?_
  refine ckF ?_
  refine awp_exit ?_
  exact Exists.intro s0 (And.intro (weak_fit (by kernel_rfl)) ⟨forL_end hk0 (rfl) hI0.1, by first | omega | (simp only [List.length_set]; omega)⟩)
 ·
  have hD0_0 := hD0.2
  refine awp_seq ?_
  refine rk tt_ok [(4, .o 960 y0)] [4, 5] [] [] [] (o0) ?_
  refine awp_ret ?_
  exact pret [] (congrArg (fun z => (.o 0 z : AV)) (show specl13Raise d lev = y0 from on_b hD0.1 (rfl)).symm)
end Go.Proofs.YtnhmnfmhnepjmaaGreat
