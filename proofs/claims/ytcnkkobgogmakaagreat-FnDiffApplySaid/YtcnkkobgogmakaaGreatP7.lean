/- Texts of this proof, put together by a program: Ddc, Ddd, LDa, Dal, MDa. -/
import Derived.Test.YtcnkkobgogmakaaGreatP6
import Derived.KernelRfl
import Derived.Outline
set_option linter.unusedVariables false
set_option linter.unusedSimpArgs false
namespace Go.Proofs.YtcnkkobgogmakaaGreat
open Go.RowKit
open GoE (enc wide)
def implApplyDiffs_f1 (k0 : Nat) (s0 : (List ResultD)) (_ : Nat) (a1 : DiffD) (s1 : (List ResultD)) : Rd (Rd ((List ResultD)) ((List ResultD)) ((List ResultD))) ((List ResultD)) ((List ResultD)) := (bif (a1.1.toList == ((nth s0 k0).1).toList) then (.next (List.set s1 k0 ((nth s1 k0).1, (implApplyDiffToIDs ((nth s1 k0).2) a1)))) else (.next s1))
def implApplyDiffs_e1 (_ : Nat) (s1 : (List ResultD)) : (List ResultD) := s1
def implApplyDiffs_f0 (d : (List DiffD)) (k0 : Nat) (_ : ResultD) (s0 : (List ResultD)) : Rd ((List ResultD)) ((List ResultD)) ((List ResultD)) := (Out.on (forL (implApplyDiffs_f1 k0 s0) implApplyDiffs_e1 d 0 s0) (fun y1 => (.next y1)))
def implApplyDiffs_e0 (_ : Nat) (s0 : (List ResultD)) : (List ResultD) := s0
def implApplyDiffs (r : (List ResultD)) (d : (List DiffD)) : (List ResultD) := (Out.on (forL (implApplyDiffs_f0 d) implApplyDiffs_e0 (implcopyResults r) 0 (implcopyResults r)) (fun y0 => y0))
theorem implApplyDiffs_a (r : (List ResultD)) (d : (List DiffD)) (hr : Mlr r) (he : Mdr d) : ACalls Tryz.prog 44 [.h r, .h d] (.q 0 (implApplyDiffs r d)) := by
 refine en tt_ok Tryz.func44 fun w0 F0 hG => ?_
 refine sn tt_ok [0, 1, 4] [] (p0) ?_
 refine tn tt_ok [1, 4, 5] [] (pc 1 (implcopyResults_a r) p0) ?_
 refine awp_seq ?_
 refine tu tt_ok [(4, .e 0), (5, .o 704 (implcopyResults r)), (12, .o 704 (implcopyResults r)), (13, .i ((implcopyResults r).length : Int)), (14, .i 0)] [0] [] [] (pl 1 (implcopyResults r) p0) ?_
 refine wT 5 0 (.own true 704) (implcopyResults r) (fun hw1 hl2 => ?_)
 refine blL3 (implApplyDiffs_f0 d) implApplyDiffs_e0 (implcopyResults r) (implcopyResults r) (fun k0 s0 => [(5, .q 147202 s0), (12, .q 147202 s0), (14, .i ((k0 : Nat) : Int))]) [5, 12, 14] (fun y0 => [(5, .q 147352 y0)]) [1, 5, 12, 13, 14] (fun k0 s0 => List.length s0 = List.length (implcopyResults r) ∧ RO k0 s0) (fun y0 => List.length y0 = List.length (implcopyResults r)) (weak_gf [] [] [704] [(704, 147202)] (by kernel_rfl)) ⟨(by simp), (by exact ro_start hr)⟩ (fun k0 s0 hk0 hI0 => ?_) (fun k0 s0 hk0 hI0 => ?_) (fun y0 hD0 => ?_)
 ·
  have hA0_0 := hI0.2.1
  have hA0_1 := hI0.2.2
  obtain ⟨a0, hx0⟩ := get_some (l := implcopyResults r) (i := k0) hk0
  refine su tt_ok [(15, .b true)] [] [] [] (pe 0 (av_bool (decide_eq_true (p := ((k0 : Nat) : Int) < ((implcopyResults r).length : Int)) (by omega))) p0) ?_
  refine awp_seq ?_
  refine ckT ?_
  refine awp_skip ?_
  refine awp_seq ?_
  refine awp_block ?_
  refine wT 5 0 (.own false 147202) s0 (fun hw4 hl5 => ?_)
  have hx3 := ng s0 k0
  refine sn tt_ok [1, 4, 5, 6, 7, 12, 13, 14] [7] (pN 1 hx3 p0) ?_
  refine tn tt_ok [1, 4, 5, 6, 7, 12, 13, 14, 19, 20, 21] [7] (pl 1 d p0) ?_
  refine mz [(6, .i ((k0 : Nat) : Int)), (7, .p 7 0), (19, .h d), (20, .i (d.length : Int)), (21, .i 0)] [15] [(7, [.s ((nth s0 k0).1), .h ((nth s0 k0).2)])] [] ?_
  refine wT 1 0 .sh d (fun hw6 hl7 => ?_)
  refine blL3b (implApplyDiffs_f1 k0 s0) implApplyDiffs_e1 d s0 (fun k1 s1 => [(5, .q 147202 s1), (12, .q 147202 s1), (21, .i ((k1 : Nat) : Int))]) [5, 12, 21] (fun _ _ => []) [] (fun y1 => [(5, .q 147202 y1), (12, .q 147202 y1)]) [5, 6, 7, 12, 19, 20, 21] (fun _ => []) [7] (fun k1 s1 => List.length s1 = List.length s0 ∧ RI k0 k1 s1) (fun y1 => RO (k0 + 1) y1 ∧ List.length y1 = List.length s0) (weak_fit (by kernel_rfl)) ⟨(by simp), (by exact ri_start (by assumption))⟩ (fun k1 s1 hk1 hI1 => ?_) (fun k1 s1 hk1 hI1 => ?_) (fun y1 hD1 => ?_)
  ·
   have hA1_0 := hI1.2.1
   have hA1_1 := hI1.2.2
   obtain ⟨a1, hx1⟩ := get_some (l := d) (i := k1) hk1
   refine su tt_ok [(22, .b true)] [] [] [] (pe 0 (av_bool (decide_eq_true (p := ((k1 : Nat) : Int) < (d.length : Int)) (by omega))) p0) ?_
   refine awp_seq ?_
   refine ckT ?_
   refine awp_skip ?_
   refine awp_seq ?_
   refine awp_block ?_
   refine sn tt_ok [1, 4, 5, 6, 7, 9, 12, 13, 14, 19, 20, 21] [7, 9] (pn 0 hx1 p0) ?_
   refine tn tt_ok [1, 4, 5, 6, 7, 9, 12, 13, 14, 19, 20, 21, 29] [7, 9] (p0) ?_
   refine ck (a1.1.toList == ((nth s0 k0).1).toList) (fun h8 => ?_) (fun h8 => ?_)
   ·
    refine wT 5 0 (.own false 147202) s1 (fun hw10 hl11 => ?_)
    have hx9 := ng s1 k0
    refine qU tt_ok tt_mx [(5, .one (.slc (.own false 147202) 2 (setRow (eL s1) k0 1 [.h (implApplyDiffToIDs ((nth s1 k0).2) a1)]))), (12, .one (.slc (.own false 147202) 2 (setRow (eL s1) k0 1 [.h (implApplyDiffToIDs ((nth s1 k0).2) a1)])))] [5, 12, 22] [] [] (pN 4 hx9 (pc 8 (implApplyDiffToIDs_a ((nth s1 k0).2) a1 (ri_use he hx1 (by assumption))) (pN 9 hx9 p0))) ?_
    refine eqn [(5, .q 147202 (List.set s1 k0 ((nth s1 k0).1, (implApplyDiffToIDs ((nth s1 k0).2) a1)))), (12, .q 147202 (List.set s1 k0 ((nth s1 k0).1, (implApplyDiffToIDs ((nth s1 k0).2) a1))))] [5, 12] [] [] (by rw [setRow_eL (y := ((nth s1 k0).1, (implApplyDiffToIDs ((nth s1 k0).2) a1))) hx9 rfl]; first | done | kernel_rfl) ?_
    refine rn tt_ok [1, 4, 5, 6, 7, 12, 13, 14, 19, 20, 21] [7] (pe 0 (av_i (wrap_succ k1 (by omega))) p0) ?_
    exact Exists.intro (List.set s1 k0 ((nth s1 k0).1, (implApplyDiffToIDs ((nth s1 k0).2) a1))) (And.intro (weak_fit (by kernel_rfl)) ⟨forL_next hx1 (bif_t h8 (rfl)) hI1.1, (by first | omega | (simp only [List.length_set]; omega)), (by first | exact ri_next he hx1 (by assumption) (by omega) | exact ri_skip (by assumption))⟩)
   ·
    refine awp_skip ?_
    refine qu tt_ok [(21, .i ((k1 + 1 : Nat) : Int))] [21, 22] [] [] (pe 0 (av_i (wrap_succ k1 (by omega))) p0) ?_
    exact Exists.intro s1 (And.intro (weak_fit (by kernel_rfl)) ⟨forL_next hx1 (bif_f h8 (rfl)) hI1.1, (by first | omega | (simp only [List.length_set]; omega)), (by first | exact ri_next he hx1 (by assumption) (by omega) | exact ri_skip (by assumption))⟩)
  ·
   have hA1_0 := hI1.2.1
   have hA1_1 := hI1.2.2
   refine su tt_ok [(22, .b false)] [] [] [] (pe 0 (av_bool (decide_eq_false (p := ((k1 : Nat) : Int) < (d.length : Int)) (by omega))) p0) ?_
   refine awp_seq ?_
   refine ckF ?_
   refine awp_exit ?_
   exact Exists.intro s1 (And.intro (weak_fit (by kernel_rfl)) ⟨forL_end hk1 (rfl) hI1.1, by first | exact ri_end (by assumption) | omega | (simp only [List.length_set]; omega), by first | exact ri_end (by assumption) | omega | (simp only [List.length_set]; omega)⟩)
  ·
   have hD1_0 := hD1.2.1
   have hD1_1 := hD1.2.2
   refine rn tt_ok [1, 4, 5, 12, 13, 14] [] (pe 0 (av_i (wrap_succ k0 (by omega))) p0) ?_
   exact Exists.intro y1 (And.intro (weak_fit (by kernel_rfl)) ⟨forL_next hx0 (on_b hD1.1 (rfl)) hI0.1, (by first | omega | (simp only [List.length_set]; omega)), (by assumption)⟩)
 ·
  have hA0_0 := hI0.2.1
  have hA0_1 := hI0.2.2
  refine su tt_ok [(15, .b false)] [] [] [] (pe 0 (av_bool (decide_eq_false (p := ((k0 : Nat) : Int) < ((implcopyResults r).length : Int)) (by omega))) p0) ?_
  refine awp_seq ?_
  refine ckF ?_
  refine awp_exit ?_
  exact Exists.intro s0 (And.intro (weak_sf [(147202, 147352)] (by kernel_rfl)) ⟨forL_end hk0 (rfl) hI0.1, by first | omega | (simp only [List.length_set]; omega)⟩)
 ·
  have hD0_0 := hD0.2
  refine sn tt_ok [4] [] (p0) ?_
  refine awp_ret ?_
  exact pz [] (show implApplyDiffs r d = _ from on_b hD0.1 (rfl)) (fun z => .q 0 z)
def specApplyDiffs_f1 (a0 : ResultD) (_ : Nat) (a1 : DiffD) (s1 : (List Int)) : Rd (Rd ((List ResultD)) ((List ResultD)) ((List ResultD))) ((List Int)) ((List Int)) := (bif (a1.1.toList == a0.1.toList) then (.next (specApplyDiffToIDs s1 a1)) else (.next s1))
def specApplyDiffs_e1 (_ : Nat) (s1 : (List Int)) : (List Int) := s1
def specApplyDiffs_f0 (d : (List DiffD)) (_ : Nat) (a0 : ResultD) (s0 : (List ResultD)) : Rd ((List ResultD)) ((List ResultD)) ((List ResultD)) := (Out.on (forL (specApplyDiffs_f1 a0) specApplyDiffs_e1 d 0 a0.2) (fun y1 => (.next (s0 ++ [(a0.1, y1)]))))
def specApplyDiffs_e0 (_ : Nat) (s0 : (List ResultD)) : (List ResultD) := s0
def specApplyDiffs (a_ : (List ResultD)) (d : (List DiffD)) : (List ResultD) := (Out.on (forL (specApplyDiffs_f0 d) specApplyDiffs_e0 a_ 0 []) (fun y0 => y0))
theorem specApplyDiffs_a (a_ : (List ResultD)) (d : (List DiffD)) (hr : Mlr a_) (he : Mdr d) : ACalls Tryz.prog 45 [.h a_, .h d] (.o 0 (specApplyDiffs a_ d)) := by
 refine en tt_ok Tryz.func45 fun w0 F0 hG => ?_
 refine sn tt_ok [0, 1, 4] [] (p0) ?_
 refine tn tt_ok [0, 1, 4, 5] [] (p0) ?_
 refine awp_seq ?_
 refine tu tt_ok [(4, .e 0), (5, .one (.slc (.own true 576) 2 [])), (6, .i 0)] [] [] [] (p0) ?_
 refine wT 0 0 .sh a_ (fun hw1 hl2 => ?_)
 refine blL1 (specApplyDiffs_f0 d) specApplyDiffs_e0 a_ [] (fun k0 s0 => [(5, .o 147203 s0), (6, .i ((k0 : Nat) : Int))]) [5, 6] (fun y0 => [(5, .o 147353 y0)]) [0, 1, 5, 6] (fun k0 s0 => List.length s0 ≤ k0) (weak_sf [(576, 147203)] (by kernel_rfl)) (by simp) (fun k0 s0 hk0 hI0 => ?_) (fun k0 s0 hk0 hI0 => ?_) (fun y0 hD0 => ?_)
 ·
  have hA0_0 := hI0.2
  obtain ⟨a0, hx0⟩ := get_some (l := a_) (i := k0) hk0
  refine awp_seq ?_
  refine sn tt_ok [0, 1, 4, 5, 6, 13] [] (pl 2 a_ (pe 3 (av_bool (decide_eq_true (p := ((k0 : Nat) : Int) < (a_.length : Int)) (by omega))) p0)) ?_
  refine ckT ?_
  refine awp_skip ?_
  refine awp_seq ?_
  refine awp_block ?_
  have hl3 : List.length a0.2 ≤ 1073741824 := wide_len (wide_snd (wide_get hx0 (hw1)))
  refine tN tt_ok tt_mx [0, 1, 4, 5, 6, 7] [7] (pn 2 hx0 (pn 8 hx0 (po 11 (.flat) (px (ob_len (n := (([] : List (List PV)).length + ((eL a0.2) : List (List PV)).length)) (len_of (rfl) (eL_length a0.2) (by first | omega | (simp only [List.length_cons, List.length_nil]; omega) | (simp; omega) | simp))) (px (ob_flat (flat_eL a0.2)) p0))))) ?_
  refine awp_seq ?_
  refine tu tt_ok [(7, .p 7 0), (8, .i 0)] [] [(7, [.s a0.1, .o 1728 a0.2])] [] (p0) ?_
  refine wT 1 0 .sh d (fun hw4 hl5 => ?_)
  refine blL1b (specApplyDiffs_f1 a0) specApplyDiffs_e1 d a0.2 (fun k1 _ => [(8, .i ((k1 : Nat) : Int))]) [8] (fun _ s1 => [(7, [.s a0.1, .o 166408 s1])]) [7] (fun _ => []) [8] (fun y1 => [(7, [.s a0.1, .o 166558 y1])]) [7] (fun k1 s1 => List.length s1 ≤ 1000 + 1000 * k1) (weak_sf [(1728, 166408)] (by kernel_rfl)) (by have hz := hr a0 (List.mem_of_getElem? hx0); omega) (fun k1 s1 hk1 hI1 => ?_) (fun k1 s1 hk1 hI1 => ?_) (fun y1 hD1 => ?_)
  ·
   have hA1_0 := hI1.2
   obtain ⟨a1, hx1⟩ := get_some (l := d) (i := k1) hk1
   refine awp_seq ?_
   refine su tt_ok [(32, .b true)] [] [] [] (pl 2 d (pe 3 (av_bool (decide_eq_true (p := ((k1 : Nat) : Int) < (d.length : Int)) (by omega))) p0)) ?_
   refine ckT ?_
   refine awp_skip ?_
   refine awp_seq ?_
   refine awp_block ?_
   refine sN tt_ok tt_mx [0, 1, 4, 5, 6, 7, 8, 42] [7] (pn 2 hx1 p0) ?_
   refine ck (a1.1.toList == a0.1.toList) (fun h6 => ?_) (fun h6 => ?_)
   ·
    refine qN tt_ok tt_mx [0, 1, 4, 5, 6, 7, 8] [7] (pn 4 hx1 (pc 6 (specApplyDiffToIDs_a s1 a1 (by have hy := (he.2 a1 (List.mem_of_getElem? hx1)).1; have hl := he.1; omega)) p0)) ?_
    refine qu tt_ok [(8, .i ((k1 + 1 : Nat) : Int))] [8, 32] [(7, [.s a0.1, .o 3136 (specApplyDiffToIDs s1 a1)])] [7] (pe 1 (av_i (wrap_succ k1 (by omega))) p0) ?_
    exact Exists.intro (specApplyDiffToIDs s1 a1) (And.intro (weak_sf [(3136, 166408)] (by kernel_rfl)) ⟨forL_next hx1 (bif_t h6 (rfl)) hI1.1, (by first | (have hz := apply_len s1 a1; have hy := (he.2 a1 (List.mem_of_getElem? hx1)).1; omega) | omega)⟩)
   ·
    refine awp_skip ?_
    refine qn tt_ok [0, 1, 4, 5, 6, 7, 8] [7] (pe 1 (av_i (wrap_succ k1 (by omega))) p0) ?_
    exact Exists.intro s1 (And.intro (weak_fit (by kernel_rfl)) ⟨forL_next hx1 (bif_f h6 (rfl)) hI1.1, (by first | (have hz := apply_len s1 a1; have hy := (he.2 a1 (List.mem_of_getElem? hx1)).1; omega) | omega)⟩)
  ·
   have hA1_0 := hI1.2
   refine awp_seq ?_
   refine su tt_ok [(32, .b false)] [] [] [] (pl 2 d (pe 3 (av_bool (decide_eq_false (p := ((k1 : Nat) : Int) < (d.length : Int)) (by omega))) p0)) ?_
   refine ckF ?_
   refine awp_exit ?_
   exact Exists.intro _ (And.intro (weak_sf [(166408, 166558)] (by kernel_rfl)) (forL_end hk1 (rfl) hI1.1))
  ·
   refine wT 5 0 (.own true 147203) s0 (fun hw7 hl8 => ?_)
   refine ru tt_ok [(5, .one (.slc (.own true 3456) 2 ((eL s0) ++ [[.s a0.1, .h y1]])))] [5, 7] [] [7] (pa s0 [(a0.1, y1)] p0) ?_
   refine eqn [(5, .o 3456 (s0 ++ [(a0.1, y1)]))] [5] [] [] (by rw [show ((eL s0) ++ [[.s a0.1, .h y1]]) = (eL (s0 ++ [(a0.1, y1)])) from app_eL (rfl) (rfl)]; first | done | kernel_rfl) ?_
   refine rn tt_ok [0, 1, 4, 5, 6] [] (pe 1 (av_i (wrap_succ k0 (by omega))) p0) ?_
   exact Exists.intro (s0 ++ [(a0.1, y1)]) (And.intro (weak_sf [(3456, 147203)] (by kernel_rfl)) ⟨forL_next hx0 (on_b hD1 (rfl)) hI0.1, by first | omega | (simp; omega) | simp⟩)
 ·
  have hA0_0 := hI0.2
  refine awp_seq ?_
  refine sn tt_ok [0, 1, 4, 5, 6, 13] [] (pl 2 a_ (pe 3 (av_bool (decide_eq_false (p := ((k0 : Nat) : Int) < (a_.length : Int)) (by omega))) p0)) ?_
  refine ckF ?_
  refine awp_exit ?_
  exact Exists.intro _ (And.intro (weak_sf [(147203, 147353)] (by kernel_rfl)) (forL_end hk0 (rfl) hI0.1))
 ·
  refine sn tt_ok [4] [] (p0) ?_
  refine awp_ret ?_
  exact po0 [] (on_b hD0 (rfl))
def implInvertDiffs_f0 (_ : Nat) (a0 : DiffD) (s0 : (List DiffD)) : Rd ((List DiffD)) ((List DiffD)) ((List DiffD)) := (.next (insAt s0 0 (a0.1, a0.2.2, a0.2.1)))
def implInvertDiffs_e0 (_ : Nat) (s0 : (List DiffD)) : (List DiffD) := s0
def implInvertDiffs (d : (List DiffD)) : (List DiffD) := (Out.on (forL implInvertDiffs_f0 implInvertDiffs_e0 d 0 []) (fun y0 => y0))
theorem implInvertDiffs_a (d : (List DiffD)) : ACalls Tryz.prog 46 [.h d] (.q 0 (implInvertDiffs d)) := by
 refine en tt_ok Tryz.func46 fun w0 F0 hG => ?_
 refine sn tt_ok [0, 2] [] (p0) ?_
 refine tn tt_ok [0, 2, 3] [] (p0) ?_
 refine awp_seq ?_
 refine tu tt_ok [(2, .e 0), (3, .one (.slc (.own true 384) 3 [])), (7, .h d), (8, .i (d.length : Int)), (9, .i 0)] [0] [] [] (pl 1 d p0) ?_
 refine wT 7 0 .sh d (fun hw1 hl2 => ?_)
 refine blL1 implInvertDiffs_f0 implInvertDiffs_e0 d [] (fun k0 s0 => [(3, .q 147201 s0), (9, .i ((k0 : Nat) : Int))]) [3, 9] (fun y0 => [(3, .q 147351 y0)]) [3, 7, 8, 9] (fun k0 s0 => List.length s0 = k0) (weak_gf [] [] [384] [(384, 147201)] (by kernel_rfl)) (by rfl) (fun k0 s0 hk0 hI0 => ?_) (fun k0 s0 hk0 hI0 => ?_) (fun y0 hD0 => ?_)
 ·
  have hA0_0 := hI0.2
  obtain ⟨a0, hx0⟩ := get_some (l := d) (i := k0) hk0
  refine sn tt_ok [2, 3, 7, 8, 9, 10] [] (pe 0 (av_bool (decide_eq_true (p := ((k0 : Nat) : Int) < (d.length : Int)) (by omega))) p0) ?_
  refine awp_seq ?_
  refine ckT ?_
  refine awp_skip ?_
  refine awp_seq ?_
  refine awp_block ?_
  refine tn tt_ok [2, 3, 5, 7, 8, 9] [5] (pn 0 hx0 p0) ?_
  refine wT 3 0 (.own false 147201) s0 (fun hw3 hl4 => ?_)
  refine qU tt_ok tt_mx [(3, .q 1536 (insAt s0 0 (a0.1, a0.2.2, a0.2.1)))] [3] [] [] (pc 5 (cloneInt_a a0.2.2) (pc 8 (cloneInt_a a0.2.1) (po 11 (.take true false (eL (insAt s0 0 (a0.1, a0.2.2, a0.2.1)))) (px (ob_take (insDiff_a s0 (a0.1, a0.2.2, a0.2.1) (i := 0) (by omega) (by omega) (by omega))) p0)))) ?_
  refine rn tt_ok [2, 3, 7, 8, 9] [] (pe 0 (av_i (wrap_succ k0 (by omega))) p0) ?_
  exact Exists.intro (insAt s0 0 (a0.1, a0.2.2, a0.2.1)) (And.intro (weak_sf [(1536, 147201)] (by kernel_rfl)) ⟨forL_next hx0 (rfl) hI0.1, (by rw [insAt_len3]; omega)⟩)
 ·
  have hA0_0 := hI0.2
  refine sn tt_ok [2, 3, 7, 8, 9, 10] [] (pe 0 (av_bool (decide_eq_false (p := ((k0 : Nat) : Int) < (d.length : Int)) (by omega))) p0) ?_
  refine awp_seq ?_
  refine ckF ?_
  refine awp_exit ?_
  exact Exists.intro _ (And.intro (weak_sf [(147201, 147351)] (by kernel_rfl)) (forL_end hk0 (rfl) hI0.1))
 ·
  refine sn tt_ok [2] [] (p0) ?_
  refine awp_ret ?_
  exact pz [] (show implInvertDiffs d = _ from on_b hD0 (rfl)) (fun z => .q 0 z)
def specl17Copy_f0 (_ : Nat) (a0 : DiffD) (s0 : (List DiffD)) : Rd ((List DiffD)) ((List DiffD)) ((List DiffD)) := (.next (s0 ++ [a0]))
def specl17Copy_e0 (_ : Nat) (s0 : (List DiffD)) : (List DiffD) := s0
def specl17Copy (d : (List DiffD)) : (List DiffD) := (Out.on (forL specl17Copy_f0 specl17Copy_e0 d 0 []) (fun y0 => y0))
theorem specl17Copy_a (d : (List DiffD)) : ACalls Tryz.prog 93 [.h d] (.o 0 (specl17Copy d)) := by
 refine en tt_ok Tryz.func93 fun w0 F0 hG => ?_
 refine sn tt_ok [0, 2] [] (p0) ?_
 refine tn tt_ok [0, 2, 3] [] (p0) ?_
 refine awp_seq ?_
 refine tu tt_ok [(2, .e 0), (3, .one (.slc (.own true 320) 3 [])), (4, .i 0)] [] [] [] (p0) ?_
 refine wT 0 0 .sh d (fun hw1 hl2 => ?_)
 refine blL1 specl17Copy_f0 specl17Copy_e0 d [] (fun k0 s0 => [(3, .o 147202 s0), (4, .i ((k0 : Nat) : Int))]) [3, 4] (fun y0 => [(3, .o 147352 y0)]) [0, 3, 4] (fun k0 s0 => List.length s0 ≤ k0) (weak_sf [(320, 147202)] (by kernel_rfl)) (by simp) (fun k0 s0 hk0 hI0 => ?_) (fun k0 s0 hk0 hI0 => ?_) (fun y0 hD0 => ?_)
 ·
  have hA0_0 := hI0.2
  obtain ⟨a0, hx0⟩ := get_some (l := d) (i := k0) hk0
  refine awp_seq ?_
  refine sn tt_ok [0, 2, 3, 4, 9] [] (pl 2 d (pe 3 (av_bool (decide_eq_true (p := ((k0 : Nat) : Int) < (d.length : Int)) (by omega))) p0)) ?_
  refine ckT ?_
  refine awp_skip ?_
  refine awp_seq ?_
  refine awp_block ?_
  have hl3 : List.length a0.2.1 ≤ 1073741824 := wide_len (wide_fst (wide_snd (wide_get hx0 (hw1))))
  have hl4 : List.length a0.2.2 ≤ 1073741824 := wide_len (wide_snd (wide_snd (wide_get hx0 (hw1))))
  refine wT 3 0 (.own true 147202) s0 (fun hw5 hl6 => ?_)
  refine qU tt_ok tt_mx [(3, .one (.slc (.own true 2176) 3 ((eL s0) ++ [[.s a0.1, .slc 1 ([] ++ (eL a0.2.1)), .slc 1 ([] ++ (eL a0.2.2))]])))] [3] [] [] (pn 3 hx0 (pn 9 hx0 (po 12 (.flat) (px (ob_len (n := (([] : List (List PV)).length + ((eL a0.2.1) : List (List PV)).length)) (len_of (rfl) (eL_length a0.2.1) (by first | omega | (simp only [List.length_cons, List.length_nil]; omega) | (simp; omega) | simp))) (px (ob_flat (flat_eL a0.2.1)) (pn 16 hx0 (po 19 (.flat) (px (ob_len (n := (([] : List (List PV)).length + ((eL a0.2.2) : List (List PV)).length)) (len_of (rfl) (eL_length a0.2.2) (by first | omega | (simp only [List.length_cons, List.length_nil]; omega) | (simp; omega) | simp))) (px (ob_flat (flat_eL a0.2.2)) (px (ob_len (n := (((eL s0) : List (List PV)).length + ([[.s a0.1, .slc 1 ([] ++ (eL a0.2.1)), .slc 1 ([] ++ (eL a0.2.2))]] : List (List PV)).length)) (len_of (eL_length s0) (rfl) (by first | omega | (simp only [List.length_cons, List.length_nil]; omega) | (simp; omega) | simp))) p0)))))))))) ?_
  refine eqn [(3, .o 2176 (s0 ++ [a0]))] [3] [] [] (by rw [show ((eL s0) ++ [[.s a0.1, .slc 1 ([] ++ (eL a0.2.1)), .slc 1 ([] ++ (eL a0.2.2))]]) = (eL (s0 ++ [a0])) from app_eL (rfl) (rfl)]; first | done | kernel_rfl) ?_
  refine rn tt_ok [0, 2, 3, 4] [] (pe 1 (av_i (wrap_succ k0 (by omega))) p0) ?_
  exact Exists.intro (s0 ++ [a0]) (And.intro (weak_sf [(2176, 147202)] (by kernel_rfl)) ⟨forL_next hx0 (rfl) hI0.1, by first | omega | (simp; omega) | simp⟩)
 ·
  have hA0_0 := hI0.2
  refine awp_seq ?_
  refine sn tt_ok [0, 2, 3, 4, 9] [] (pl 2 d (pe 3 (av_bool (decide_eq_false (p := ((k0 : Nat) : Int) < (d.length : Int)) (by omega))) p0)) ?_
  refine ckF ?_
  refine awp_exit ?_
  exact Exists.intro _ (And.intro (weak_sf [(147202, 147352)] (by kernel_rfl)) (forL_end hk0 (rfl) hI0.1))
 ·
  refine sn tt_ok [2] [] (p0) ?_
  refine awp_ret ?_
  exact po0 [] (on_b hD0 (rfl))
def specInvertDiffs_f0 (d : (List DiffD)) (k0 : Nat) (s0 : (List DiffD)) : Rd ((List DiffD)) ((List DiffD)) ((List DiffD)) := (.next (s0 ++ [((nth (specl17Copy d) (Int.toNat (dn (((specl17Copy d).length : Int) - 1) k0))).1, (nth (specl17Copy d) (Int.toNat (dn (((specl17Copy d).length : Int) - 1) k0))).2.2, (nth (specl17Copy d) (Int.toNat (dn (((specl17Copy d).length : Int) - 1) k0))).2.1)]))
def specInvertDiffs_e0 (_ : Nat) (s0 : (List DiffD)) : (List DiffD) := s0
def specInvertDiffs (d : (List DiffD)) : (List DiffD) := (Out.on (forN (specInvertDiffs_f0 d) specInvertDiffs_e0 (List.length (specl17Copy d)) 0 []) (fun y0 => y0))
theorem specInvertDiffs_a (d : (List DiffD)) : ACalls Tryz.prog 47 [.h d] (.q 0 (specInvertDiffs d)) := by
 refine en tt_ok Tryz.func47 fun w0 F0 hG => ?_
 refine sn tt_ok [0, 2] [] (p0) ?_
 refine tn tt_ok [0, 2, 3] [] (p0) ?_
 refine tu tt_ok [(2, .e 0), (3, .one (.slc (.own true 384) 3 [])), (4, .o 512 (specl17Copy d))] [0] [] [] (pc 1 (specl17Copy_a d) p0) ?_
 refine awp_seq ?_
 refine wT 4 0 (.own true 512) (specl17Copy d) (fun hw1 hl2 => ?_)
 refine sn tt_ok [2, 3, 4, 5] [] (pl 1 (specl17Copy d) (pe 2 (av_i (IntWalk.i64_in (((specl17Copy d).length : Int) - 1) (by omega))) p0)) ?_
 refine mz [(5, .i (((specl17Copy d).length : Int) - 1))] [] [] [] ?_
 refine blN1 (specInvertDiffs_f0 d) specInvertDiffs_e0 (List.length (specl17Copy d)) [] (fun k0 s0 => [(3, .q 147201 s0), (4, .h (specl17Copy d)), (5, .i (dn (((specl17Copy d).length : Int) - 1) k0))]) [3, 4, 5] (fun y0 => [(3, .q 147351 y0)]) [3, 4, 5] (fun k0 s0 => List.length s0 ≤ k0) (weak_gf [] [512] [384] [(384, 147201)] (by kernel_rfl)) (by simp) (fun k0 s0 hk0 hI0 => ?_) (fun k0 s0 hk0 hI0 => ?_) (fun y0 hD0 => ?_)
 ·
  have hA0_0 := hI0.2
  have hdn0 := dn_eq (((specl17Copy d).length : Int) - 1) k0
  refine awp_seq ?_
  refine sn tt_ok [2, 3, 4, 5, 13] [] (pe 1 (av_bool (decide_eq_true (p := (dn (((specl17Copy d).length : Int) - 1) k0) ≥ (0 : Int)) (by omega))) p0) ?_
  refine ckT ?_
  refine awp_skip ?_
  refine awp_seq ?_
  refine awp_block ?_
  have hx3 := ng (specl17Copy d) (Int.toNat (dn (((specl17Copy d).length : Int) - 1) k0))
  refine wT 3 0 (.own false 147201) s0 (fun hw4 hl5 => ?_)
  refine qU tt_ok tt_mx [(3, .one (.slc (.own false 2176) 3 ((eL s0) ++ [[.s ((nth (specl17Copy d) (Int.toNat (dn (((specl17Copy d).length : Int) - 1) k0))).1), .h ((nth (specl17Copy d) (Int.toNat (dn (((specl17Copy d).length : Int) - 1) k0))).2.2), .h ((nth (specl17Copy d) (Int.toNat (dn (((specl17Copy d).length : Int) - 1) k0))).2.1)]])))] [3] [] [] (pg 3 (dn (((specl17Copy d).length : Int) - 1) k0) hx3 (pg 8 (dn (((specl17Copy d).length : Int) - 1) k0) hx3 (pg 13 (dn (((specl17Copy d).length : Int) - 1) k0) hx3 (pa s0 [((nth (specl17Copy d) (Int.toNat (dn (((specl17Copy d).length : Int) - 1) k0))).1, (nth (specl17Copy d) (Int.toNat (dn (((specl17Copy d).length : Int) - 1) k0))).2.2, (nth (specl17Copy d) (Int.toNat (dn (((specl17Copy d).length : Int) - 1) k0))).2.1)] p0)))) ?_
  refine eqn [(3, .q 2176 (s0 ++ [((nth (specl17Copy d) (Int.toNat (dn (((specl17Copy d).length : Int) - 1) k0))).1, (nth (specl17Copy d) (Int.toNat (dn (((specl17Copy d).length : Int) - 1) k0))).2.2, (nth (specl17Copy d) (Int.toNat (dn (((specl17Copy d).length : Int) - 1) k0))).2.1)]))] [3] [] [] (by rw [show ((eL s0) ++ [[.s ((nth (specl17Copy d) (Int.toNat (dn (((specl17Copy d).length : Int) - 1) k0))).1), .h ((nth (specl17Copy d) (Int.toNat (dn (((specl17Copy d).length : Int) - 1) k0))).2.2), .h ((nth (specl17Copy d) (Int.toNat (dn (((specl17Copy d).length : Int) - 1) k0))).2.1)]]) = (eL (s0 ++ [((nth (specl17Copy d) (Int.toNat (dn (((specl17Copy d).length : Int) - 1) k0))).1, (nth (specl17Copy d) (Int.toNat (dn (((specl17Copy d).length : Int) - 1) k0))).2.2, (nth (specl17Copy d) (Int.toNat (dn (((specl17Copy d).length : Int) - 1) k0))).2.1)])) from app_eL (rfl) (rfl)]; first | done | kernel_rfl) ?_
  refine rn tt_ok [2, 3, 4, 5] [] (pe 1 (show .i (IntKind.i64.wrap ((dn (((specl17Copy d).length : Int) - 1) k0) - 1)) = .i (dn (((specl17Copy d).length : Int) - 1) (k0 + 1)) from av_i (show IntKind.i64.wrap ((dn (((specl17Copy d).length : Int) - 1) k0) - 1) = (dn (((specl17Copy d).length : Int) - 1) (k0 + 1)) from IntWalk.i64_in ((dn (((specl17Copy d).length : Int) - 1) k0) - 1) (by omega))) p0) ?_
  exact Exists.intro (s0 ++ [((nth (specl17Copy d) (Int.toNat (dn (((specl17Copy d).length : Int) - 1) k0))).1, (nth (specl17Copy d) (Int.toNat (dn (((specl17Copy d).length : Int) - 1) k0))).2.2, (nth (specl17Copy d) (Int.toNat (dn (((specl17Copy d).length : Int) - 1) k0))).2.1)]) (And.intro (weak_sf [(2176, 147201)] (by kernel_rfl)) ⟨forN_next hk0 (rfl) hI0.1, by first | omega | (simp; omega) | simp⟩)
 ·
  have hA0_0 := hI0.2
  have hdn0 := dn_eq (((specl17Copy d).length : Int) - 1) k0
  refine awp_seq ?_
  refine sn tt_ok [2, 3, 4, 5, 13] [] (pe 1 (av_bool (decide_eq_false (p := (dn (((specl17Copy d).length : Int) - 1) k0) ≥ (0 : Int)) (by omega))) p0) ?_
  refine ckF ?_
  refine awp_exit ?_
  exact Exists.intro _ (And.intro (weak_sf [(147201, 147351)] (by kernel_rfl)) (forN_end hk0 (rfl) hI0.1))
 ·
  refine sn tt_ok [2] [] (p0) ?_
  refine awp_ret ?_
  exact pz [] (show specInvertDiffs d = _ from on_b hD0 (rfl)) (fun z => .q 0 z)
def specl11Name (code : (List UInt8)) (ci : Nat) (ch : Int) : ByteArray × Nat × Int := (lt (α := ByteArray × Nat × Int) (specl01Pick code ci ch [⟨#[100, 97]⟩, ⟨#[100, 98]⟩, ⟨#[100, 99]⟩, ⟨#[100, 100]⟩, ⟨#[100, 101]⟩, ⟨#[122, 122]⟩, ⟨#[]⟩]) (fun x1 => (x1.1, x1.2.1, x1.2.2)))
theorem specl11Name_a (code : (List UInt8)) (ci : Nat) (ch : Int) : AGive Tryz.prog 182 [.h code, .i ((ci : Nat) : Int), .i ch] [] (.s (((specl11Name code ci ch)).1)) [.h code, .i ((((specl11Name code ci ch)).2.1 : Nat) : Int), .i (((specl11Name code ci ch)).2.2)] := by
 refine agive_of (tt := tt) tt_ok Tryz.func182 (fn := Tryz.f182) rfl (by unfold FnOk; kernel_rfl) (Nat.le_of_ble_eq_true rfl) (Nat.le_of_ble_eq_true rfl) rfl rfl fun w0 F0 hG => ?_
 refine sn tt_ok [0, 2] [60000] (p0) ?_
 obtain ⟨x1, hx1⟩ : ∃ z : ByteArray × Nat × Int, specl01Pick code ci ch [⟨#[100, 97]⟩, ⟨#[100, 98]⟩, ⟨#[100, 99]⟩, ⟨#[100, 100]⟩, ⟨#[100, 101]⟩, ⟨#[122, 122]⟩, ⟨#[]⟩] = z := ⟨_, rfl⟩
 refine tn tt_ok [0, 2] [60000] (po 2 (.give none (.s x1.1) [.h code, .i ((x1.2.1 : Nat) : Int), .i x1.2.2]) (px (ob_give (hx1 ▸ specl01Pick_a code ci ch [⟨#[100, 97]⟩, ⟨#[100, 98]⟩, ⟨#[100, 99]⟩, ⟨#[100, 100]⟩, ⟨#[100, 101]⟩, ⟨#[122, 122]⟩, ⟨#[]⟩] (Nat.zero_lt_succ _))) p0)) ?_
 refine awp_ret ?_
 have hE2 : specl11Name code ci ch = (x1.1, x1.2.1, x1.2.2) := lt_b hx1 (rfl)
 exact gret [] (congrArg (fun z => (.s z.1 : AV)) hE2.symm) (congrArg (fun z => ([.h code, .i ((z.2.1 : Nat) : Int), .i z.2.2] : List C)) hE2.symm)
def specl17Diff (code : (List UInt8)) (ci : Nat) (ch : Int) : DiffD × Nat × Int := (lt (α := (List Int) × Nat × Int) (specl14Ids code ci ch) (fun x1 => (lt (α := (List Int) × Nat × Int) (specl14Ids code x1.2.1 x1.2.2) (fun x2 => (lt (α := ByteArray × Nat × Int) (specl09DirName code x2.2.1 x2.2.2) (fun x3 => (lt (α := Int × Nat × Int) (specl01Below code x3.2.1 x3.2.2 8) (fun x4 => (bif (x4.1 == (0 : Int)) then (lt (α := Int × Nat × Int) (specl01Below code x4.2.1 x4.2.2 6) (fun x6 => ((x3.1, ((specDiffIDs x1.1 x2.1)).1 ++ [x6.1], ((specDiffIDs x1.1 x2.1)).2), x6.2.1, x6.2.2))) else (bif (x4.1 == (1 : Int)) then ((x3.1, ((specDiffIDs x1.1 x2.1)).1, [7] ++ (((specDiffIDs x1.1 x2.1)).2)), x4.2.1, x4.2.2) else (bif (x4.1 == (2 : Int)) then (lt (α := ByteArray × Nat × Int) (specl11Name code x4.2.1 x4.2.2) (fun x15 => ((x15.1, ((specDiffIDs x1.1 x2.1)).1, ((specDiffIDs x1.1 x2.1)).2), x15.2.1, x15.2.2))) else ((x3.1, ((specDiffIDs x1.1 x2.1)).1, ((specDiffIDs x1.1 x2.1)).2), x4.2.1, x4.2.2))))))))))))
theorem specl17Diff_a (code : (List UInt8)) (ci : Nat) (ch : Int) : AGive Tryz.prog 137 [.h code, .i ((ci : Nat) : Int), .i ch] [] (.a [.s ((((specl17Diff code ci ch)).1).1), .o 0 ((((specl17Diff code ci ch)).1).2.1), .o 1 ((((specl17Diff code ci ch)).1).2.2)]) [.h code, .i ((((specl17Diff code ci ch)).2.1 : Nat) : Int), .i (((specl17Diff code ci ch)).2.2)] := by
 refine agive_of (tt := tt) tt_ok Tryz.func137 (fn := Tryz.f137) rfl (by unfold FnOk; kernel_rfl) (Nat.le_of_ble_eq_true rfl) (Nat.le_of_ble_eq_true rfl) rfl rfl fun w0 F0 hG => ?_
 refine sn tt_ok [0, 2] [2, 60000] (p0) ?_
 obtain ⟨x1, hx1⟩ : ∃ z : (List Int) × Nat × Int, specl14Ids code ci ch = z := ⟨_, rfl⟩
 have hix1 := ids14_len code ci ch
 rw [hx1] at hix1
 obtain ⟨x2, hx2⟩ : ∃ z : (List Int) × Nat × Int, specl14Ids code x1.2.1 x1.2.2 = z := ⟨_, rfl⟩
 have hix2 := ids14_len code x1.2.1 x1.2.2
 rw [hx2] at hix2
 have hqx2 := diffS_len x1.1 x2.1
 refine tn tt_ok [0, 2, 3, 4] [2, 60000] (po 1 (.give none (.o 0 x1.1) [.h code, .i ((x1.2.1 : Nat) : Int), .i x1.2.2]) (px (ob_give (hx1 ▸ specl14Ids_a code ci ch)) (po 3 (.give none (.o 0 x2.1) [.h code, .i ((x2.2.1 : Nat) : Int), .i x2.2.2]) (px (ob_give (hx2 ▸ specl14Ids_a code x1.2.1 x1.2.2)) (pc 4 (specDiffIDs_a x1.1 x2.1) p0))))) ?_
 obtain ⟨x3, hx3⟩ : ∃ z : ByteArray × Nat × Int, specl09DirName code x2.2.1 x2.2.2 = z := ⟨_, rfl⟩
 refine tu tt_ok [(2, .p 2 0), (5, .p 5 0)] [] [(2, [.s ⟨#[]⟩, .e 1, .e 1]), (5, [.s x3.1, .o 704 (((specDiffIDs x1.1 x2.1)).1), .o 705 (((specDiffIDs x1.1 x2.1)).2)]), (60000, [.h code, .i ((x3.2.1 : Nat) : Int), .i x3.2.2])] [60000] (po 1 (.give none (.s x3.1) [.h code, .i ((x3.2.1 : Nat) : Int), .i x3.2.2]) (px (ob_give (hx3 ▸ specl09DirName_a code x2.2.1 x2.2.2)) p0)) ?_
 refine awp_seq ?_
 obtain ⟨x4, hx4⟩ : ∃ z : Int × Nat × Int, specl01Below code x3.2.1 x3.2.2 8 = z := ⟨_, rfl⟩
 have hbx4 := hx4 ▸ specl01Below_bd code x3.2.1 x3.2.2 8
 refine sn tt_ok [0, 2, 5, 20] [2, 5, 60000] (po 1 (.give none (.i x4.1) [.h code, .i ((x4.2.1 : Nat) : Int), .i x4.2.2]) (px (ob_give (hx4 ▸ specl01Below_a code x3.2.1 x3.2.2 8)) p0)) ?_
 refine awp_block ?_
 refine tn tt_ok [0, 2, 5, 20, 21] [2, 5, 60000] (p0) ?_
 refine ck (x4.1 == (0 : Int)) (fun h5 => ?_) (fun h5 => ?_)
 ·
  have h5d := eq_of_beq h5
  obtain ⟨x6, hx6⟩ : ∃ z : Int × Nat × Int, specl01Below code x4.2.1 x4.2.2 6 = z := ⟨_, rfl⟩
  have hbx6 := hx6 ▸ specl01Below_bd code x4.2.1 x4.2.2 6
  refine wB 5 1 (.own true 704) (((specDiffIDs x1.1 x2.1)).1) (fun hw7 hl8 => ?_)
  refine qU tt_ok tt_mx [] [] [(5, [.s x3.1, .slc (.own true 1792) 1 ((eL (((specDiffIDs x1.1 x2.1)).1)) ++ [[.i x6.1]]), .o 705 (((specDiffIDs x1.1 x2.1)).2)]), (60000, [.h code, .i ((x6.2.1 : Nat) : Int), .i x6.2.2])] [5, 60000] (po 3 (.give none (.i x6.1) [.h code, .i ((x6.2.1 : Nat) : Int), .i x6.2.2]) (px (ob_give (hx6 ▸ specl01Below_a code x4.2.1 x4.2.2 6)) (pa (((specDiffIDs x1.1 x2.1)).1) [x6.1] p0))) ?_
  refine eqn [] [] [(5, [.s x3.1, .o 1792 (((specDiffIDs x1.1 x2.1)).1 ++ [x6.1]), .o 705 (((specDiffIDs x1.1 x2.1)).2)])] [5] (by rw [show ((eL (((specDiffIDs x1.1 x2.1)).1)) ++ [[.i x6.1]]) = (eL (((specDiffIDs x1.1 x2.1)).1 ++ [x6.1])) from app_eL (rfl) (rfl)]; first | done | kernel_rfl) ?_
  refine sn tt_ok [0, 2] [2, 60000] (p0) ?_
  refine awp_ret ?_
  have hE9 : specl17Diff code ci ch = ((x3.1, ((specDiffIDs x1.1 x2.1)).1 ++ [x6.1], ((specDiffIDs x1.1 x2.1)).2), x6.2.1, x6.2.2) := lt_b hx1 (lt_b hx2 (lt_b hx3 (lt_b hx4 (bif_t h5 (lt_b hx6 (rfl))))))
  exact gret [] (congrArg (fun z => (.a [.s z.1.1, .o 0 z.1.2.1, .o 1 z.1.2.2] : AV)) hE9.symm) (congrArg (fun z => ([.h code, .i ((z.2.1 : Nat) : Int), .i z.2.2] : List C)) hE9.symm)
 ·
  have h5d := ne_of_beq h5
  refine tu tt_ok [(20, .i x4.1), (30, .b (x4.1 == (1 : Int)))] [] [(60000, [.h code, .i ((x4.2.1 : Nat) : Int), .i x4.2.2])] [60000] (p0) ?_
  refine ck (x4.1 == (1 : Int)) (fun h10 => ?_) (fun h10 => ?_)
  ·
   have h10d := eq_of_beq h10
   refine wB 5 2 (.own true 705) (((specDiffIDs x1.1 x2.1)).2) (fun hw11 hl12 => ?_)
   refine ru tt_ok [] [20, 30] [(5, [.s x3.1, .o 704 (((specDiffIDs x1.1 x2.1)).1), .slc (.own true 2240) 1 ([[.i 7]] ++ (eL (((specDiffIDs x1.1 x2.1)).2)))])] [5] (pa [7] (((specDiffIDs x1.1 x2.1)).2) p0) ?_
   refine eqn [] [] [(5, [.s x3.1, .o 704 (((specDiffIDs x1.1 x2.1)).1), .o 2240 ([7] ++ (((specDiffIDs x1.1 x2.1)).2))])] [5] (by rw [show ([[.i 7]] ++ (eL (((specDiffIDs x1.1 x2.1)).2))) = (eL ([7] ++ (((specDiffIDs x1.1 x2.1)).2))) from app_eL (rfl) (rfl)]; first | done | kernel_rfl) ?_
   refine sn tt_ok [0, 2] [2, 60000] (p0) ?_
   refine awp_ret ?_
   have hE13 : specl17Diff code ci ch = ((x3.1, ((specDiffIDs x1.1 x2.1)).1, [7] ++ (((specDiffIDs x1.1 x2.1)).2)), x4.2.1, x4.2.2) := lt_b hx1 (lt_b hx2 (lt_b hx3 (lt_b hx4 (bif_f h5 (bif_t h10 (rfl))))))
   exact gret [] (congrArg (fun z => (.a [.s z.1.1, .o 0 z.1.2.1, .o 1 z.1.2.2] : AV)) hE13.symm) (congrArg (fun z => ([.h code, .i ((z.2.1 : Nat) : Int), .i z.2.2] : List C)) hE13.symm)
  ·
   refine sn tt_ok [0, 2, 5, 37] [2, 5, 60000] (p0) ?_
   refine ck (x4.1 == (2 : Int)) (fun h14 => ?_) (fun h14 => ?_)
   ·
    obtain ⟨x15, hx15⟩ : ∃ z : ByteArray × Nat × Int, specl11Name code x4.2.1 x4.2.2 = z := ⟨_, rfl⟩
    refine qn tt_ok [0, 2, 5] [2, 5, 60000] (po 1 (.give none (.s x15.1) [.h code, .i ((x15.2.1 : Nat) : Int), .i x15.2.2]) (px (ob_give (hx15 ▸ specl11Name_a code x4.2.1 x4.2.2)) p0)) ?_
    refine tu tt_ok [] [5, 20, 30] [(2, [.s x15.1, .o 704 (((specDiffIDs x1.1 x2.1)).1), .o 705 (((specDiffIDs x1.1 x2.1)).2)]), (60000, [.h code, .i ((x15.2.1 : Nat) : Int), .i x15.2.2])] [2, 5, 60000] (p0) ?_
    refine awp_ret ?_
    have hE16 : specl17Diff code ci ch = ((x15.1, ((specDiffIDs x1.1 x2.1)).1, ((specDiffIDs x1.1 x2.1)).2), x15.2.1, x15.2.2) := lt_b hx1 (lt_b hx2 (lt_b hx3 (lt_b hx4 (bif_f h5 (bif_f h10 (bif_t h14 (lt_b hx15 (rfl))))))))
    exact gret [] (congrArg (fun z => (.a [.s z.1.1, .o 0 z.1.2.1, .o 1 z.1.2.2] : AV)) hE16.symm) (congrArg (fun z => ([.h code, .i ((z.2.1 : Nat) : Int), .i z.2.2] : List C)) hE16.symm)
   ·
    refine awp_skip ?_
    refine tn tt_ok [0, 2] [2, 60000] (p0) ?_
    refine awp_ret ?_
    have hE17 : specl17Diff code ci ch = ((x3.1, ((specDiffIDs x1.1 x2.1)).1, ((specDiffIDs x1.1 x2.1)).2), x4.2.1, x4.2.2) := lt_b hx1 (lt_b hx2 (lt_b hx3 (lt_b hx4 (bif_f h5 (bif_f h10 (bif_f h14 (rfl)))))))
    exact gret [] (congrArg (fun z => (.a [.s z.1.1, .o 0 z.1.2.1, .o 1 z.1.2.2] : AV)) hE17.symm) (congrArg (fun z => ([.h code, .i ((z.2.1 : Nat) : Int), .i z.2.2] : List C)) hE17.symm)
def specl17Diffs_f0 (code : (List UInt8)) (s0 : (List DiffD) × Int × Nat × Int) : Rd ((List DiffD) × Nat × Int) ((List DiffD) × Int × Nat × Int) ((List DiffD) × Nat × Int) := (lt (α := Int × Nat × Int) (specl01Below code s0.2.2.1 s0.2.2.2 5) (fun x1 => (bif decide (s0.2.1 < x1.1) then (lt (α := DiffD × Nat × Int) (specl17Diff code x1.2.1 x1.2.2) (fun x3 => (.next (s0.1 ++ [x3.1], (s0.2.1 + 1), x3.2.1, x3.2.2)))) else (.brk (s0.1, x1.2.1, x1.2.2)))))
def specl17Diffs (code : (List UInt8)) (ci : Nat) (ch : Int) : (List DiffD) × Nat × Int := (Out.on (whlD (specl17Diffs_f0 code) 5 ([], 0, ci, ch)) (fun y0 => (y0.1, y0.2.1, y0.2.2)))
theorem specl17Diffs_w (code : List UInt8) (ci : Nat) (ch : Int) : (whl (specl17Diffs_f0 code) 5 ([], 0, ci, ch)).isSome = true :=
  whl_up (fun s => s.2.1) 4 (fun s s' h0 h => by
    unfold specl17Diffs_f0 lt at h
    have hb := specl01Below_bd code s.2.2.1 s.2.2.2 5
    generalize specl01Below code s.2.2.1 s.2.2.2 5 = x at h hb
    by_cases hc : s.2.1 < x.1
    · simp only [decide_eq_true hc, cond_true] at h
      have h := Rd.next.inj h
      rw [← h]
      exact ⟨by omega, rfl⟩
    · simp only [decide_eq_false hc, cond_false] at h
      cases h) 4 _ (by show (0 : Int) ≤ 0; decide) (by show (4 : Int) ≤ 0 + 4; decide)
theorem specl17Diffs_a (code : (List UInt8)) (ci : Nat) (ch : Int) : AGive Tryz.prog 86 [.h code, .i ((ci : Nat) : Int), .i ch] [] (.o 0 (((specl17Diffs code ci ch)).1)) [.h code, .i ((((specl17Diffs code ci ch)).2.1 : Nat) : Int), .i (((specl17Diffs code ci ch)).2.2)] := by
 refine agive_of (tt := tt) tt_ok Tryz.func86 (fn := Tryz.f86) rfl (by unfold FnOk; kernel_rfl) (Nat.le_of_ble_eq_true rfl) (Nat.le_of_ble_eq_true rfl) rfl rfl fun w0 F0 hG => ?_
 refine sn tt_ok [0, 2] [60000] (p0) ?_
 refine tn tt_ok [0, 2, 3] [60000] (p0) ?_
 refine awp_seq ?_
 refine tu tt_ok [(2, .e 0), (3, .one (.slc (.own true 320) 3 [])), (4, .i 0)] [] [] [] (p0) ?_
 refine blw (fun (s0 : (List DiffD) × Int × Nat × Int) => [(3, .o 147202 s0.1), (4, .i s0.2.1)]) [3, 4] (fun s0 => [(60000, [.h code, .i ((s0.2.2.1 : Nat) : Int), .i s0.2.2.2])]) [60000] (fun (y0 : (List DiffD) × Nat × Int) => [(3, .o 147352 y0.1)]) [3, 4] (fun y0 => [(60000, [.h code, .i ((y0.2.1 : Nat) : Int), .i y0.2.2])]) [60000] (fun (k0 : Nat) (s0 : (List DiffD) × Int × Nat × Int) => whl (specl17Diffs_f0 code) k0 s0 = some (whlD (specl17Diffs_f0 code) 5 ([], 0, ci, ch)) ∧ 0 ≤ s0.2.1 ∧ (List.length s0.1 : Int) ≤ s0.2.1) (fun (y0 : (List DiffD) × Nat × Int) => (whlD (specl17Diffs_f0 code) 5 ([], 0, ci, ch)) = .brk y0) 5 ([], 0, ci, ch) (weak_sf [(320, 147202)] (by kernel_rfl)) ⟨whl_some (specl17Diffs_w code ci ch), (by first | omega | (simp; done) | (dsimp only; omega)), (by first | omega | (simp; done) | (dsimp only; omega))⟩ (fun _ h => whl_zero h.1) (fun k0 s0 hI0 => ?_) (fun y0 hD0 => ?_)
 ·
  have hA0_0 := hI0.2.1
  have hA0_1 := hI0.2.2
  refine awp_seq ?_
  obtain ⟨x1, hx1⟩ : ∃ z : Int × Nat × Int, specl01Below code s0.2.2.1 s0.2.2.2 5 = z := ⟨_, rfl⟩
  have hbx1 := hx1 ▸ specl01Below_bd code s0.2.2.1 s0.2.2.2 5
  refine sn tt_ok [0, 2, 3, 4, 9] [60000] (po 2 (.give none (.i x1.1) [.h code, .i ((x1.2.1 : Nat) : Int), .i x1.2.2]) (px (ob_give (hx1 ▸ specl01Below_a code s0.2.2.1 s0.2.2.2 5)) p0)) ?_
  refine ck (decide (s0.2.1 < x1.1)) (fun h2 => ?_) (fun h2 => ?_)
  ·
   have h2d := of_decide_eq_true h2
   refine awp_skip ?_
   refine awp_seq ?_
   refine awp_block ?_
   obtain ⟨x3, hx3⟩ : ∃ z : DiffD × Nat × Int, specl17Diff code x1.2.1 x1.2.2 = z := ⟨_, rfl⟩
   refine wT 3 0 (.own true 147202) s0.1 (fun hw4 hl5 => ?_)
   refine qu tt_ok [(3, .one (.slc (.own true 1024) 3 ((eL s0.1) ++ [[.s x3.1.1, .h x3.1.2.1, .h x3.1.2.2]])))] [3] [(60000, [.h code, .i ((x3.2.1 : Nat) : Int), .i x3.2.2])] [60000] (po 2 (.give none (.a [.s x3.1.1, .o 0 x3.1.2.1, .o 1 x3.1.2.2]) [.h code, .i ((x3.2.1 : Nat) : Int), .i x3.2.2]) (px (ob_give (hx3 ▸ specl17Diff_a code x1.2.1 x1.2.2)) (pa s0.1 [x3.1] p0))) ?_
   refine eqn [(3, .o 1024 (s0.1 ++ [x3.1]))] [3] [] [] (by rw [show ((eL s0.1) ++ [[.s x3.1.1, .h x3.1.2.1, .h x3.1.2.2]]) = (eL (s0.1 ++ [x3.1])) from app_eL (rfl) (rfl)]; first | done | kernel_rfl) ?_
   refine rn tt_ok [0, 2, 3, 4] [60000] (pe 1 (av_i (IntWalk.i64_in (s0.2.1 + 1) (by omega))) p0) ?_
   exact Exists.intro (s0.1 ++ [x3.1], (s0.2.1 + 1), x3.2.1, x3.2.2) (And.intro (weak_sf [(1024, 147202)] (by kernel_rfl)) ⟨wn hI0.1 (lt_b hx1 (bif_t h2 (lt_b hx3 (rfl)))), (by first | omega | (simp; omega)), (by first | omega | (simp; omega))⟩)
  ·
   refine awp_exit ?_
   exact Exists.intro (s0.1, x1.2.1, x1.2.2) (And.intro (weak_sf [(147202, 147352)] (by kernel_rfl)) (wb hI0.1 (lt_b hx1 (bif_f h2 (rfl)))))
 ·
  refine sn tt_ok [0, 2] [60000] (p0) ?_
  refine awp_ret ?_
  have hE6 : specl17Diffs code ci ch = (y0.1, y0.2.1, y0.2.2) := on_b hD0 (rfl)
  exact gret [] (congrArg (fun z => (.o 0 z.1 : AV)) hE6.symm) (congrArg (fun z => ([.h code, .i ((z.2.1 : Nat) : Int), .i z.2.2] : List C)) hE6.symm)
def specDrawEvaluate (code : (List UInt8)) : StoreD × (List DirD) := (lt (α := Nat × Int) (specl01New code) (fun x1 => (lt (α := StoreD × (List DirD) × Nat × Int) (specl15Case code x1.1 x1.2) (fun x2 => (x2.1, x2.2.1)))))
theorem specDrawEvaluate_a (code : (List UInt8)) : ACalls Tryz.prog 35 [.h code] (.tup [(true, [.h ((((specDrawEvaluate code)).1).1), .q 0 ((((specDrawEvaluate code)).1).2.1), .i ((((specDrawEvaluate code)).1).2.2)]), (false, [.h (((specDrawEvaluate code)).2)])]) := by
 refine en tt_ok Tryz.func35 fun w0 F0 hG => ?_
 refine sn tt_ok [0, 2, 3] [2] (p0) ?_
 obtain ⟨x1, hx1⟩ : ∃ z : Nat × Int, specl01New code = z := ⟨_, rfl⟩
 obtain ⟨x2, hx2⟩ : ∃ z : StoreD × (List DirD) × Nat × Int, specl15Case code x1.1 x1.2 = z := ⟨_, rfl⟩
 refine tn tt_ok [2, 3] [2] (po 1 (.new [.h code, .i ((x1.1 : Nat) : Int), .i x1.2]) (px (ob_new (hx1 ▸ specl01New_a code)) (po 2 (.give none (.tup [(true, [.h x2.1.1, .q 0 x2.1.2.1, .i x2.1.2.2]), (false, [.h x2.2.1])]) [.h code, .i ((x2.2.2.1 : Nat) : Int), .i x2.2.2.2]) (px (ob_give (hx2 ▸ specl15Case_a code x1.1 x1.2)) p0)))) ?_
 refine awp_ret ?_
 exact pz [] (show specDrawEvaluate code = _ from lt_b hx1 (lt_b hx2 (rfl))) (fun z => .tup [(true, [.h z.1.1, .q 0 z.1.2.1, .i z.1.2.2]), (false, [.h z.2])])
def specDrawDiffResults (code : (List UInt8)) : (List ResultD) × (List ResultD) := (lt (α := Nat × Int) (specl01New code) (fun x1 => (lt (α := (List ResultD) × Nat × Int) (specl14Answers code x1.1 x1.2) (fun x2 => (lt (α := (List ResultD) × Nat × Int) (specl14Answers code x2.2.1 x2.2.2) (fun x3 => (x2.1, x3.1)))))))
theorem specDrawDiffResults_a (code : (List UInt8)) : ACalls Tryz.prog 38 [.h code] (.tup [(false, [.o 0 (((specDrawDiffResults code)).1)]), (false, [.o 1 (((specDrawDiffResults code)).2)])]) := by
 refine en tt_ok Tryz.func38 fun w0 F0 hG => ?_
 refine sn tt_ok [0, 2, 3] [] (p0) ?_
 obtain ⟨x1, hx1⟩ : ∃ z : Nat × Int, specl01New code = z := ⟨_, rfl⟩
 refine tn tt_ok [2, 3, 4] [6] (po 1 (.new [.h code, .i ((x1.1 : Nat) : Int), .i x1.2]) (px (ob_new (hx1 ▸ specl01New_a code)) p0)) ?_
 obtain ⟨x2, hx2⟩ : ∃ z : (List ResultD) × Nat × Int, specl14Answers code x1.1 x1.2 = z := ⟨_, rfl⟩
 obtain ⟨x3, hx3⟩ : ∃ z : (List ResultD) × Nat × Int, specl14Answers code x2.2.1 x2.2.2 = z := ⟨_, rfl⟩
 refine tu tt_ok [(2, .o 512 x2.1), (3, .o 640 x3.1)] [0] [] [] (po 1 (.give none (.o 0 x2.1) [.h code, .i ((x2.2.1 : Nat) : Int), .i x2.2.2]) (px (ob_give (hx2 ▸ specl14Answers_a code x1.1 x1.2)) (po 3 (.give none (.o 0 x3.1) [.h code, .i ((x3.2.1 : Nat) : Int), .i x3.2.2]) (px (ob_give (hx3 ▸ specl14Answers_a code x2.2.1 x2.2.2)) p0)))) ?_
 refine awp_ret ?_
 exact pz [] (show specDrawDiffResults code = _ from lt_b hx1 (lt_b hx2 (lt_b hx3 (rfl)))) (fun z => .tup [(false, [.o 0 z.1]), (false, [.o 1 z.2])])
def specDrawApplyDiffs (code : (List UInt8)) : (List ResultD) × (List DiffD) := (lt (α := Nat × Int) (specl01New code) (fun x1 => (lt (α := (List ResultD) × Nat × Int) (specl14Answers code x1.1 x1.2) (fun x2 => (lt (α := (List DiffD) × Nat × Int) (specl17Diffs code x2.2.1 x2.2.2) (fun x3 => (x2.1, x3.1)))))))
theorem specDrawApplyDiffs_a (code : (List UInt8)) : ACalls Tryz.prog 39 [.h code] (.tup [(false, [.o 0 (((specDrawApplyDiffs code)).1)]), (false, [.o 1 (((specDrawApplyDiffs code)).2)])]) := by
 refine en tt_ok Tryz.func39 fun w0 F0 hG => ?_
 refine sn tt_ok [0, 2, 3] [] (p0) ?_
 obtain ⟨x1, hx1⟩ : ∃ z : Nat × Int, specl01New code = z := ⟨_, rfl⟩
 refine tn tt_ok [2, 3, 4] [6] (po 1 (.new [.h code, .i ((x1.1 : Nat) : Int), .i x1.2]) (px (ob_new (hx1 ▸ specl01New_a code)) p0)) ?_
 obtain ⟨x2, hx2⟩ : ∃ z : (List ResultD) × Nat × Int, specl14Answers code x1.1 x1.2 = z := ⟨_, rfl⟩
 obtain ⟨x3, hx3⟩ : ∃ z : (List DiffD) × Nat × Int, specl17Diffs code x2.2.1 x2.2.2 = z := ⟨_, rfl⟩
 refine tu tt_ok [(2, .o 512 x2.1), (3, .o 640 x3.1)] [0] [] [] (po 1 (.give none (.o 0 x2.1) [.h code, .i ((x2.2.1 : Nat) : Int), .i x2.2.2]) (px (ob_give (hx2 ▸ specl14Answers_a code x1.1 x1.2)) (po 3 (.give none (.o 0 x3.1) [.h code, .i ((x3.2.1 : Nat) : Int), .i x3.2.2]) (px (ob_give (hx3 ▸ specl17Diffs_a code x2.2.1 x2.2.2)) p0)))) ?_
 refine awp_ret ?_
 exact pz [] (show specDrawApplyDiffs code = _ from lt_b hx1 (lt_b hx2 (lt_b hx3 (rfl)))) (fun z => .tup [(false, [.o 0 z.1]), (false, [.o 1 z.2])])
def specDrawInvertDiffs (code : (List UInt8)) : (List DiffD) := (lt (α := Nat × Int) (specl01New code) (fun x1 => (lt (α := (List DiffD) × Nat × Int) (specl17Diffs code x1.1 x1.2) (fun x2 => x2.1))))
theorem specDrawInvertDiffs_a (code : (List UInt8)) : ACalls Tryz.prog 40 [.h code] (.o 0 (specDrawInvertDiffs code)) := by
 refine en tt_ok Tryz.func40 fun w0 F0 hG => ?_
 refine sn tt_ok [0, 2] [] (p0) ?_
 obtain ⟨x1, hx1⟩ : ∃ z : Nat × Int, specl01New code = z := ⟨_, rfl⟩
 obtain ⟨x2, hx2⟩ : ∃ z : (List DiffD) × Nat × Int, specl17Diffs code x1.1 x1.2 = z := ⟨_, rfl⟩
 refine tn tt_ok [2] [] (po 1 (.new [.h code, .i ((x1.1 : Nat) : Int), .i x1.2]) (px (ob_new (hx1 ▸ specl01New_a code)) (po 2 (.give none (.o 0 x2.1) [.h code, .i ((x2.2.1 : Nat) : Int), .i x2.2.2]) (px (ob_give (hx2 ▸ specl17Diffs_a code x1.1 x1.2)) p0)))) ?_
 refine awp_ret ?_
 exact po0 [] (lt_b hx1 (lt_b hx2 (rfl)))
def implisAscending_f0 (l : (List Int)) (k0 : Nat) (_ : Unit) : Rd (Bool) (Unit) (Unit) := (bif decide ((nth l (Int.toNat (((k0 + 1 : Nat) : Int) - 1))) ≥ (nth l (k0 + 1))) then (.ret false) else (.next ()))
def implisAscending_e0 (_ : Nat) (_ : Unit) : Unit := ()
def implisAscending (l : (List Int)) : Bool := (Out.on (forN (implisAscending_f0 l) implisAscending_e0 (l.length - 1) 0 ()) (fun _ => true))
theorem implisAscending_a (l : (List Int)) : ACalls Tryz.prog 69 [.h l] (.b (implisAscending l)) := by
 refine en tt_ok Tryz.func69 fun w0 F0 hG => ?_
 refine sn tt_ok [0, 2] [] (p0) ?_
 refine awp_seq ?_
 refine tn tt_ok [0, 2, 3] [] (p0) ?_
 refine mz [(2, .b false), (3, .i 1)] [] [] [] ?_
 refine wT 0 0 .sh l (fun hw1 hl2 => ?_)
 refine blN0 (implisAscending_f0 l) implisAscending_e0 (l.length - 1) () (fun k0 _ => [(3, .i ((k0 + 1 : Nat) : Int))]) [3] (fun _ => []) [0, 3] (weak_fit (by kernel_rfl)) (fun k0 s0 hk0 hI0 => ?_) (fun k0 s0 hk0 hI0 => ?_) (fun y0 hD0 => ?_)
 ·
  refine awp_seq ?_
  refine sn tt_ok [0, 2, 3, 7] [] (pl 2 l (pe 3 (av_bool (decide_eq_true (p := ((k0 + 1 : Nat) : Int) < (l.length : Int)) (by omega))) p0)) ?_
  refine ckT ?_
  refine awp_skip ?_
  refine awp_seq ?_
  refine awp_block ?_
  have hx3 := ng l (Int.toNat (((k0 + 1 : Nat) : Int) - 1))
  have hx4 := ng l (k0 + 1)
  refine tN tt_ok tt_mx [0, 2, 3, 19] [] (pe 2 (av_i (IntWalk.i64_in (((k0 + 1 : Nat) : Int) - 1) (by omega))) (pg 3 (((k0 + 1 : Nat) : Int) - 1) hx3 (pg 7 ((k0 + 1 : Nat) : Int) hx4 p0))) ?_
  refine ck (decide ((nth l (Int.toNat (((k0 + 1 : Nat) : Int) - 1))) ≥ (nth l (k0 + 1)))) (fun h5 => ?_) (fun h5 => ?_)
  ·
   refine tu tt_ok [] [] [] [] (p0) ?_
   refine awp_ret ?_
   have hr6 : (forN (implisAscending_f0 l) implisAscending_e0 (l.length - 1) 0 ()) = .ret false := forN_ret hk0 (bif_t h5 (rfl)) hI0
   exact pb [] (on_r hr6)
  ·
   have h5d := of_decide_eq_false h5
   refine awp_skip ?_
   refine qu tt_ok [(3, .i ((k0 + 2 : Nat) : Int))] [3] [] [] (pe 1 (show .i (IntKind.i64.wrap (((k0 + 1 : Nat) : Int) + 1)) = .i ((k0 + 2 : Nat) : Int) from av_i ((IntWalk.i64_in _ (by omega)).trans (by omega))) p0) ?_
   exact Exists.intro _ (And.intro (weak_fit (by kernel_rfl)) (forN_next hk0 (bif_f h5 (rfl)) hI0))
 ·
  refine awp_seq ?_
  refine sn tt_ok [0, 2, 3, 7] [] (pl 2 l (pe 3 (av_bool (decide_eq_false (p := ((k0 + 1 : Nat) : Int) < (l.length : Int)) (by omega))) p0)) ?_
  refine ckF ?_
  refine awp_exit ?_
  exact Exists.intro _ (And.intro (weak_fit (by kernel_rfl)) (forN_end hk0 (rfl) hI0))
 ·
  refine sn tt_ok [2] [] (p0) ?_
  refine awp_ret ?_
  exact pb [] (on_b hD0 (rfl))
def implIsValidDiff (d : DiffD) : Bool := ((implIsValidString d.1) && ((implisAscending d.2.1) && ((implisAscending d.2.2) && ((((less d.2.1 d.2.2).length : Int) == (d.2.1.length : Int)) && decide (IntKind.i64.wrap ((d.2.1.length : Int) + (d.2.2.length : Int)) > (0 : Int))))))
theorem implIsValidDiff_a (d : DiffD) : ACalls Tryz.prog 48 [.a [.s d.1, .h d.2.1, .h d.2.2]] (.b (implIsValidDiff d)) := by
 refine en tt_ok Tryz.func48 fun w0 F0 hG => ?_
 refine sn tt_ok [1, 2] [1] (p0) ?_
 refine awp_seq ?_
 refine mz [(1, .p 1 0), (2, .b false)] [0] [(1, [.s d.1, .h d.2.1, .h d.2.2])] [] ?_
 refine jn [(2, .b ((implIsValidString d.1) && ((implisAscending d.2.1) && ((implisAscending d.2.2) && ((((less d.2.1 d.2.2).length : Int) == (d.2.1.length : Int)) && decide (IntKind.i64.wrap ((d.2.1.length : Int) + (d.2.2.length : Int)) > (0 : Int)))))))] [1, 2] [] [1] (implIsValidString d.1) (fun h1 => ?_) (fun h1 => ?_) ?_
 ·
  refine awp_split (implisAscending d.2.1) (fun h2 => ?_) (fun h2 => ?_)
  ·
   refine awp_split (implisAscending d.2.2) (fun h3 => ?_) (fun h3 => ?_)
   ·
    refine awp_split (((less d.2.1 d.2.2).length : Int) == (d.2.1.length : Int)) (fun h4 => ?_) (fun h4 => ?_)
    ·
     refine wB 1 1 .sh d.2.1 (fun hw5 hl6 => ?_)
     refine rN tt_ok tt_mx [2] [] (pc 2 (cb h1 (implIsValidString_a d.1)) (pc 6 (cb h2 (implisAscending_a d.2.1)) (pc 11 (cb h3 (implisAscending_a d.2.2)) (pc 18 ((without_less hl6) ▸ implwithout_a d.2.1 d.2.2) (pl 19 (less d.2.1 d.2.2) (pl 22 d.2.1 (pt 23 h4 (pl 28 d.2.1 (pl 31 d.2.2 p0))))))))) ?_
     exact ⟨rfl, weak_fit (by rw [h1, h2, h3, h4]; first | done | kernel_rfl)⟩
    ·
     refine wB 1 1 .sh d.2.1 (fun hw7 hl8 => ?_)
     refine rN tt_ok tt_mx [2] [] (pc 2 (cb h1 (implIsValidString_a d.1)) (pc 6 (cb h2 (implisAscending_a d.2.1)) (pc 11 (cb h3 (implisAscending_a d.2.2)) (pc 18 ((without_less hl8) ▸ implwithout_a d.2.1 d.2.2) (pl 19 (less d.2.1 d.2.2) (pl 22 d.2.1 (pf 23 h4 p0))))))) ?_
     exact ⟨rfl, weak_fit (by rw [h1, h2, h3, h4]; first | done | kernel_rfl)⟩
   ·
    refine rN tt_ok tt_mx [2] [] (pc 2 (cb h1 (implIsValidString_a d.1)) (pc 6 (cb h2 (implisAscending_a d.2.1)) (pc 11 (cb h3 (implisAscending_a d.2.2)) p0))) ?_
    exact ⟨rfl, weak_fit (by rw [h1, h2, h3]; first | done | kernel_rfl)⟩
  ·
   refine rN tt_ok tt_mx [2] [] (pc 2 (cb h1 (implIsValidString_a d.1)) (pc 6 (cb h2 (implisAscending_a d.2.1)) p0)) ?_
   exact ⟨rfl, weak_fit (by rw [h1, h2]; first | done | kernel_rfl)⟩
 ·
  refine rN tt_ok tt_mx [2] [] (pc 2 (cb h1 (implIsValidString_a d.1)) p0) ?_
  exact ⟨rfl, weak_fit (by rw [h1]; first | done | kernel_rfl)⟩
 refine awp_ret ?_
 exact pb [] (show implIsValidDiff d = ((implIsValidString d.1) && ((implisAscending d.2.1) && ((implisAscending d.2.2) && ((((less d.2.1 d.2.2).length : Int) == (d.2.1.length : Int)) && decide (IntKind.i64.wrap ((d.2.1.length : Int) + (d.2.2.length : Int)) > (0 : Int)))))) from rfl)
def lawssampleStore (n : Int) : StoreD := (((specCreateFile (specNewStore specDefaultSchema) (specSetAttr (0, 0, false, 0, []) ⟨#[97]⟩ (specIntValue n)))).1)
theorem lawssampleStore_a (n : Int) : ACalls Tryz.prog 32 [.i n] (.a [.o 0 ((lawssampleStore n).1), .o 1 ((lawssampleStore n).2.1), .i ((lawssampleStore n).2.2)]) := by
 refine en tt_ok Tryz.func32 fun w0 F0 hG => ?_
 refine sn tt_ok [0, 2] [2] (p0) ?_
 refine tn tt_ok [2, 3] [2, 3] (pc 0 (specDefaultSchema_a) (pc 1 (specNewStore_a specDefaultSchema) (pc 4 (specIntValue_a n) (pc 5 (specSetAttr_a (0, 0, false, 0, []) ⟨#[97]⟩ (specIntValue n) (by first | omega | (simp; done) | (simp; omega))) (pc 6 (specCreateFile_a (specNewStore specDefaultSchema) (specSetAttr (0, 0, false, 0, []) ⟨#[97]⟩ (specIntValue n))) p0))))) ?_
 refine tu tt_ok [(2, .p 2 0)] [0] [(2, [.o 832 ((((specCreateFile (specNewStore specDefaultSchema) (specSetAttr (0, 0, false, 0, []) ⟨#[97]⟩ (specIntValue n)))).1).1), .o 833 ((((specCreateFile (specNewStore specDefaultSchema) (specSetAttr (0, 0, false, 0, []) ⟨#[97]⟩ (specIntValue n)))).1).2.1), .i ((((specCreateFile (specNewStore specDefaultSchema) (specSetAttr (0, 0, false, 0, []) ⟨#[97]⟩ (specIntValue n)))).1).2.2)])] [] (p0) ?_
 refine awp_ret ?_
 exact pz [] (show lawssampleStore n = (((specCreateFile (specNewStore specDefaultSchema) (specSetAttr (0, 0, false, 0, []) ⟨#[97]⟩ (specIntValue n)))).1) from rfl) (fun z => .a [.o 0 z.1, .o 1 z.2.1, .i z.2.2])
end Go.Proofs.YtcnkkobgogmakaaGreat
namespace Go.Proofs.YtcnkkobgogmakaaGreat
open Go.RowKit
def hasD (a : List ResultD) (x : ResultD) : Bool := decide (IntKind.i64.wrap (((((implDiffIDs (implResultIDs a x.1) x.2)).1).length : Int) + ((((implDiffIDs (implResultIDs a x.1) x.2)).2).length : Int)) > (0 : Int))
def mkD (a : List ResultD) (x : ResultD) : DiffD := (x.1, less x.2 (implResultIDs a x.1), less (implResultIDs a x.1) x.2)
theorem diff_is (a b : List ResultD) : implDiffResults a b = (b.filter (hasD a)).map (mkD a) := by
  unfold implDiffResults
  rw [forL_filter (f := implDiffResults_f0 a) (e := implDiffResults_e0) (p := hasD a) (g := mkD a) (fun _ _ _ => rfl)]
  rfl
def invD (y : DiffD) : DiffD := (y.1, y.2.2, y.2.1)
theorem invI_go : ∀ (l : List DiffD) (k : Nat) (s : List DiffD), forL implInvertDiffs_f0 implInvertDiffs_e0 l k s = .brk ((l.map invD).reverse ++ s)
  | [], k, s => rfl
  | a :: l, k, s => by
    simp only [forL, implInvertDiffs_f0]
    rw [invI_go l (k + 1)]
    simp [insAt, invD]
theorem invI (d : List DiffD) : implInvertDiffs d = (d.map invD).reverse := by
  unfold implInvertDiffs
  rw [invI_go]
  simp [Out.on]
theorem ans_small (code : List UInt8) (ci : Nat) (ch : Int) : ∀ x, x ∈ (specl14Answers code ci ch).1 → x.2.length ≤ 1000 := by
  unfold specl14Answers
  obtain ⟨t, ht⟩ := whlD_brk (f := specl14Answers_f0 code) (fun s r => by
    unfold specl14Answers_f0 lt
    dsimp only
    generalize decide (_ < (specl01Below code s.2.2.1 s.2.2.2 5).1) = c
    cases c <;> simp) 5 ([], 0, ci, ch)
  have hj := whlD_inv (f := specl14Answers_f0 code) (I := fun s => ∀ x, x ∈ s.1 → x.2.length ≤ 1000) (J := fun t => ∀ x, x ∈ t.1 → x.2.length ≤ 1000) (fun s s' hi h => by
    unfold specl14Answers_f0 lt at h
    generalize specl01Below code s.2.2.1 s.2.2.2 5 = x at h
    by_cases hc : s.2.1 < x.1
    · simp only [decide_eq_true hc, cond_true] at h
      have h := Rd.next.inj h
      rw [← h]
      intro a ha
      rcases List.mem_append.1 ha with ha | ha
      · exact hi a ha
      · rw [List.mem_singleton.1 ha]; exact Nat.le_trans (ids14_len code _ _) (by decide)
    · simp only [decide_eq_false hc, cond_false] at h
      cases h) (fun s t hi h => by
    unfold specl14Answers_f0 lt at h
    generalize specl01Below code s.2.2.1 s.2.2.2 5 = x at h
    by_cases hc : s.2.1 < x.1
    · simp only [decide_eq_true hc, cond_true] at h
      cases h
    · simp only [decide_eq_false hc, cond_false] at h
      have h := Rd.brk.inj h
      rw [← h]; exact hi) (n := 5) (s := ([], 0, ci, ch)) (t := t) (by intro x hx; simp at hx) (specl14Answers_w code ci ch) ht
  rw [ht]
  exact hj
theorem ml_evalS (s : StoreD) (d : List DirD) : Mlr (specEvaluate s d).1 := by
  rw [evaluate_eq]
  intro x hx
  cases h : (implEvaluate s d).2 with
  | false => rw [evaluate_no h] at hx; simp at hx
  | true =>
    obtain ⟨_, h2, _, h4⟩ := evaluate_ok h
    obtain ⟨p, hp⟩ := h4 x hx
    rw [hp]
    exact Nat.le_trans (sel_len _ _ _) (Nat.le_trans (store12 h2) (by decide))
theorem len_evalS (s : StoreD) (d : List DirD) : (specEvaluate s d).1.length ≤ 5 := by
  rw [evaluate_eq]
  cases h : (implEvaluate s d).2 with
  | false => rw [evaluate_no h]; exact Nat.zero_le _
  | true =>
    obtain ⟨h1, _, h3, _⟩ := evaluate_ok h
    have := congrArg List.length h3
    simp only [List.length_map] at this
    omega
theorem rids_ml {r : List ResultD} (h : Mlr r) (nm : ByteArray) : (implResultIDs r nm).length ≤ 1000 := by
  unfold implResultIDs
  rcases rids_mem nm r 0 with h1 | ⟨x, hx, h1⟩
  · rw [h1]; exact Nat.zero_le _
  · rw [h1]; exact h x hx
theorem md_diffS (s t : StoreD) (d : List DirD) : Mdr (implDiffResults (specEvaluate s d).1 (specEvaluate t d).1) := by
  rw [diff_is]
  refine ⟨?_, fun y hy => ?_⟩
  · rw [List.length_map]
    exact Nat.le_trans (List.length_filter_le _ _) (Nat.le_trans (len_evalS t d) (by decide))
  · obtain ⟨x, hx, rfl⟩ := List.mem_map.1 hy
    have h1 := ml_evalS t d x (List.mem_filter.1 hx).1
    have h2 := rids_ml (ml_evalS s d) x.1
    exact ⟨Nat.le_trans (less_len _ _) h1, Nat.le_trans (less_len _ _) h2⟩
theorem md_inv {e : List DiffD} (h : Mdr e) : Mdr (implInvertDiffs e) := by
  rw [invI]
  refine ⟨by rw [List.length_reverse, List.length_map]; exact h.1, fun y hy => ?_⟩
  obtain ⟨x, hx, rfl⟩ := List.mem_map.1 (List.mem_reverse.1 hy)
  exact ⟨(h.2 x hx).2, (h.2 x hx).1⟩
theorem lD {α : Type} {t : α} {f : α → DiffD × Nat × Int} (Q : α → Prop) (h : Q t) (k : ∀ x, Q x → (f x).1.2.1.length ≤ 1000 ∧ (f x).1.2.2.length ≤ 1000) : (lt t f).1.2.1.length ≤ 1000 ∧ (lt t f).1.2.2.length ≤ 1000 := k t h
theorem l17_len (code : List UInt8) (ci : Nat) (ch : Int) : (specl17Diff code ci ch).1.2.1.length ≤ 1000 ∧ (specl17Diff code ci ch).1.2.2.length ≤ 1000 := by
  unfold specl17Diff
  refine lD (fun x : List Int × Nat × Int => x.1.length ≤ 7) (ids14_len code _ _) fun x1 h1 => lD (fun x : List Int × Nat × Int => x.1.length ≤ 7) (ids14_len code _ _) fun x2 h2 => lD (fun _ => True) trivial fun x3 _ => lD (fun _ => True) trivial fun x4 _ => ?_
  obtain ⟨q1, q2⟩ := diffS_len x1.1 x2.1
  cases (x4.1 == (0 : Int)) with
  | true =>
    simp only [cond_true]
    exact lD (fun _ => True) trivial fun x6 _ => ⟨by (try dsimp only); rw [List.length_append, List.length_singleton]; omega, by (try dsimp only); omega⟩
  | false =>
    simp only [cond_false]
    cases (x4.1 == (1 : Int)) with
    | true => simp only [cond_true]; exact ⟨by (try dsimp only); omega, by rw [List.length_append, List.length_singleton]; omega⟩
    | false =>
      simp only [cond_false]
      cases (x4.1 == (2 : Int)) with
      | true => simp only [cond_true]; exact lD (fun _ => True) trivial fun x15 _ => ⟨by (try dsimp only); omega, by (try dsimp only); omega⟩
      | false => simp only [cond_false]; exact ⟨by omega, by omega⟩
theorem l17s_md (code : List UInt8) (ci : Nat) (ch : Int) : Mdr (specl17Diffs code ci ch).1 := by
  unfold specl17Diffs
  obtain ⟨t, ht⟩ := whlD_brk (f := specl17Diffs_f0 code) (fun s r => by
    unfold specl17Diffs_f0 lt
    dsimp only
    generalize decide (_ < (specl01Below code s.2.2.1 s.2.2.2 5).1) = c
    cases c <;> simp) 5 ([], 0, ci, ch)
  have hj := whlD_inv (f := specl17Diffs_f0 code) (I := fun s => (s.1.length : Int) ≤ s.2.1 ∧ s.2.1 ≤ 4 ∧ 0 ≤ s.2.1 ∧ ∀ y, y ∈ s.1 → y.2.1.length ≤ 1000 ∧ y.2.2.length ≤ 1000) (J := fun t => Mdr t.1) (fun s s' hi h => by
    unfold specl17Diffs_f0 lt at h
    have hb := specl01Below_bd code s.2.2.1 s.2.2.2 5
    generalize specl01Below code s.2.2.1 s.2.2.2 5 = x at h hb
    by_cases hc : s.2.1 < x.1
    · simp only [decide_eq_true hc, cond_true] at h
      have h := Rd.next.inj h
      rw [← h]
      refine ⟨by (try dsimp only); rw [List.length_append, List.length_singleton]; omega, by (try dsimp only); omega, by (try dsimp only); omega, fun y hy => ?_⟩
      rcases List.mem_append.1 hy with hy | hy
      · exact hi.2.2.2 y hy
      · rw [List.mem_singleton.1 hy]; exact l17_len code _ _
    · simp only [decide_eq_false hc, cond_false] at h
      cases h) (fun s t hi h => by
    unfold specl17Diffs_f0 lt at h
    generalize specl01Below code s.2.2.1 s.2.2.2 5 = x at h
    by_cases hc : s.2.1 < x.1
    · simp only [decide_eq_true hc, cond_true] at h
      cases h
    · simp only [decide_eq_false hc, cond_false] at h
      have h := Rd.brk.inj h
      rw [← h]
      exact ⟨by have := hi.1; have := hi.2.1; dsimp only; omega, hi.2.2.2⟩) (n := 5) (s := ([], 0, ci, ch)) (t := t) ⟨Int.le_refl 0, by show (0 : Int) ≤ 4; decide, Int.le_refl 0, by intro y hy; simp at hy⟩ (specl17Diffs_w code ci ch) ht
  rw [ht]
  exact hj
theorem drawAp (code : List UInt8) : Mlr (specDrawApplyDiffs code).1 ∧ Mdr (specDrawApplyDiffs code).2 := ⟨ans_small code _ _, l17s_md code _ _⟩
open GoE (enc wide)
def lawsbig (code : (List UInt8)) : Bool := decide ((code.length : Int) > (1048576 : Int))
theorem lawsbig_a (code : (List UInt8)) : ACalls Tryz.prog 8 [.h code] (.b (lawsbig code)) := by
 refine en tt_ok Tryz.func8 fun w0 F0 hG => ?_
 refine sn tt_ok [0, 2] [] (p0) ?_
 refine tn tt_ok [2] [] (pl 1 code p0) ?_
 refine awp_ret ?_
 exact pb [] (show lawsbig code = decide ((code.length : Int) > (1048576 : Int)) from rfl)
def lawssameInts_f0 (b : (List Int)) (k0 : Nat) (a0 : Int) (_ : Unit) : Rd (Bool) (Unit) (Unit) := (bif (a0 != (nth b k0)) then (.ret false) else (.next ()))
def lawssameInts_e0 (_ : Nat) (_ : Unit) : Unit := ()
def lawssameInts (a_ : (List Int)) (b : (List Int)) : Bool := (bif ((a_.length : Int) != (b.length : Int)) then false else (Out.on (forL (lawssameInts_f0 b) lawssameInts_e0 a_ 0 ()) (fun _ => true)))
theorem lawssameInts_a (a_ : (List Int)) (b : (List Int)) : ACalls Tryz.prog 16 [.h a_, .h b] (.b (lawssameInts a_ b)) := by
 refine en tt_ok Tryz.func16 fun w0 F0 hG => ?_
 refine sn tt_ok [0, 1, 4] [] (p0) ?_
 refine awp_seq ?_
 refine tn tt_ok [0, 1, 4, 10] [] (pl 1 a_ (pl 3 b p0)) ?_
 refine ck ((a_.length : Int) != (b.length : Int)) (fun h1 => ?_) (fun h1 => ?_)
 ·
  refine tu tt_ok [(4, .b false)] [] [] [] (p0) ?_
  refine awp_ret ?_
  exact pb [] (bif_t h1 (rfl))
 ·
  have h1d := eq_of_bne h1
  refine awp_skip ?_
  refine awp_seq ?_
  refine tu tt_ok [(4, .b false), (5, .i 0)] [] [] [] (p0) ?_
  refine wT 0 0 .sh a_ (fun hw2 hl3 => ?_)
  refine blL0 (lawssameInts_f0 b) lawssameInts_e0 a_ () (fun k0 _ => [(5, .i ((k0 : Nat) : Int))]) [5] (fun _ => []) [0, 1, 5] (weak_fit (by kernel_rfl)) (fun k0 s0 hk0 hI0 => ?_) (fun k0 s0 hk0 hI0 => ?_) (fun y0 hD0 => ?_)
  ·
   obtain ⟨a0, hx0⟩ := get_some (l := a_) (i := k0) hk0
   refine awp_seq ?_
   refine sn tt_ok [0, 1, 4, 5, 14] [] (pl 2 a_ (pe 3 (av_bool (decide_eq_true (p := ((k0 : Nat) : Int) < (a_.length : Int)) (by omega))) p0)) ?_
   refine ckT ?_
   refine awp_skip ?_
   refine awp_seq ?_
   refine awp_block ?_
   refine wT 1 0 .sh b (fun hw5 hl6 => ?_)
   have hx4 := ng b k0
   refine tN tt_ok tt_mx [0, 1, 4, 5, 25] [] (pn 2 hx0 (pn 6 hx4 p0)) ?_
   refine ck (a0 != (nth b k0)) (fun h7 => ?_) (fun h7 => ?_)
   ·
    refine tu tt_ok [] [] [] [] (p0) ?_
    refine awp_ret ?_
    have hr8 : (forL (lawssameInts_f0 b) lawssameInts_e0 a_ 0 ()) = .ret false := forL_ret hx0 (bif_t h7 (rfl)) hI0
    exact pb [] (bif_f h1 (on_r hr8))
   ·
    have h7d := eq_of_bne h7
    refine awp_skip ?_
    refine qu tt_ok [(5, .i ((k0 + 1 : Nat) : Int))] [5] [] [] (pe 1 (av_i (wrap_succ k0 (by omega))) p0) ?_
    exact Exists.intro _ (And.intro (weak_fit (by kernel_rfl)) (forL_next hx0 (bif_f h7 (rfl)) hI0))
  ·
   refine awp_seq ?_
   refine sn tt_ok [0, 1, 4, 5, 14] [] (pl 2 a_ (pe 3 (av_bool (decide_eq_false (p := ((k0 : Nat) : Int) < (a_.length : Int)) (by omega))) p0)) ?_
   refine ckF ?_
   refine awp_exit ?_
   exact Exists.intro _ (And.intro (weak_fit (by kernel_rfl)) (forL_end hk0 (rfl) hI0))
  ·
   refine sn tt_ok [4] [] (p0) ?_
   refine awp_ret ?_
   exact pb [] (bif_f h1 (on_b hD0 (rfl)))
def lawssameDiff (a_ : DiffD) (b : DiffD) : Bool := ((a_.1.toList == b.1.toList) && ((lawssameInts a_.2.1 b.2.1) && (lawssameInts a_.2.2 b.2.2)))
theorem lawssameDiff_a (a_ : DiffD) (b : DiffD) : ACalls Tryz.prog 87 [.a [.s a_.1, .h a_.2.1, .h a_.2.2], .a [.s b.1, .h b.2.1, .h b.2.2]] (.b (lawssameDiff a_ b)) := by
 refine en tt_ok Tryz.func87 fun w0 F0 hG => ?_
 refine sn tt_ok [2, 3, 4] [2, 3] (p0) ?_
 refine awp_seq ?_
 refine mz [(2, .p 2 0), (3, .p 3 0), (4, .b false)] [0, 1] [(2, [.s a_.1, .h a_.2.1, .h a_.2.2]), (3, [.s b.1, .h b.2.1, .h b.2.2])] [] ?_
 refine jn [(4, .b ((a_.1.toList == b.1.toList) && ((lawssameInts a_.2.1 b.2.1) && (lawssameInts a_.2.2 b.2.2))))] [2, 3, 4] [] [2, 3] (a_.1.toList == b.1.toList) (fun h1 => ?_) (fun h1 => ?_) ?_
 ·
  refine awp_split (lawssameInts a_.2.1 b.2.1) (fun h2 => ?_) (fun h2 => ?_)
  ·
   refine rn tt_ok [4] [] (pt 4 h1 (pc 10 (cb h2 (lawssameInts_a a_.2.1 b.2.1)) (pc 17 (lawssameInts_a a_.2.2 b.2.2) p0))) ?_
   exact ⟨rfl, weak_fit (by rw [h1, h2]; first | done | kernel_rfl)⟩
  ·
   refine rn tt_ok [4] [] (pt 4 h1 (pc 10 (cb h2 (lawssameInts_a a_.2.1 b.2.1)) p0)) ?_
   exact ⟨rfl, weak_fit (by rw [h1, h2]; first | done | kernel_rfl)⟩
 ·
  refine rn tt_ok [4] [] (pf 4 h1 p0) ?_
  exact ⟨rfl, weak_fit (by rw [h1]; first | done | kernel_rfl)⟩
 refine awp_ret ?_
 exact pb [] (show lawssameDiff a_ b = ((a_.1.toList == b.1.toList) && ((lawssameInts a_.2.1 b.2.1) && (lawssameInts a_.2.2 b.2.2))) from rfl)
def lawssameDiffs_f0 (b : (List DiffD)) (k0 : Nat) (a0 : DiffD) (_ : Unit) : Rd (Bool) (Unit) (Unit) := (bif (!(lawssameDiff a0 (nth b k0))) then (.ret false) else (.next ()))
def lawssameDiffs_e0 (_ : Nat) (_ : Unit) : Unit := ()
def lawssameDiffs (a_ : (List DiffD)) (b : (List DiffD)) : Bool := (bif ((a_.length : Int) != (b.length : Int)) then false else (Out.on (forL (lawssameDiffs_f0 b) lawssameDiffs_e0 a_ 0 ()) (fun _ => true)))
theorem lawssameDiffs_a (a_ : (List DiffD)) (b : (List DiffD)) : ACalls Tryz.prog 41 [.h a_, .h b] (.b (lawssameDiffs a_ b)) := by
 refine en tt_ok Tryz.func41 fun w0 F0 hG => ?_
 refine sn tt_ok [0, 1, 4] [] (p0) ?_
 refine awp_seq ?_
 refine tn tt_ok [0, 1, 4, 10] [] (pl 1 a_ (pl 3 b p0)) ?_
 refine ck ((a_.length : Int) != (b.length : Int)) (fun h1 => ?_) (fun h1 => ?_)
 ·
  refine tu tt_ok [(4, .b false)] [] [] [] (p0) ?_
  refine awp_ret ?_
  exact pb [] (bif_t h1 (rfl))
 ·
  have h1d := eq_of_bne h1
  refine awp_skip ?_
  refine awp_seq ?_
  refine tu tt_ok [(4, .b false), (5, .i 0)] [] [] [] (p0) ?_
  refine wT 0 0 .sh a_ (fun hw2 hl3 => ?_)
  refine blL0 (lawssameDiffs_f0 b) lawssameDiffs_e0 a_ () (fun k0 _ => [(5, .i ((k0 : Nat) : Int))]) [5] (fun _ => []) [0, 1, 5] (weak_fit (by kernel_rfl)) (fun k0 s0 hk0 hI0 => ?_) (fun k0 s0 hk0 hI0 => ?_) (fun y0 hD0 => ?_)
  ·
   obtain ⟨a0, hx0⟩ := get_some (l := a_) (i := k0) hk0
   refine awp_seq ?_
   refine sn tt_ok [0, 1, 4, 5, 14] [] (pl 2 a_ (pe 3 (av_bool (decide_eq_true (p := ((k0 : Nat) : Int) < (a_.length : Int)) (by omega))) p0)) ?_
   refine ckT ?_
   refine awp_skip ?_
   refine awp_seq ?_
   refine awp_block ?_
   refine wT 1 0 .sh b (fun hw5 hl6 => ?_)
   have hx4 := ng b k0
   refine tN tt_ok tt_mx [0, 1, 4, 5, 26] [] (pn 2 hx0 (pn 6 hx4 (pc 8 (lawssameDiff_a a0 (nth b k0)) p0))) ?_
   refine ck (!(lawssameDiff a0 (nth b k0))) (fun h7 => ?_) (fun h7 => ?_)
   ·
    refine tu tt_ok [] [] [] [] (p0) ?_
    refine awp_ret ?_
    have hr8 : (forL (lawssameDiffs_f0 b) lawssameDiffs_e0 a_ 0 ()) = .ret false := forL_ret hx0 (bif_t h7 (rfl)) hI0
    exact pb [] (bif_f h1 (on_r hr8))
   ·
    refine awp_skip ?_
    refine qu tt_ok [(5, .i ((k0 + 1 : Nat) : Int))] [5] [] [] (pe 1 (av_i (wrap_succ k0 (by omega))) p0) ?_
    exact Exists.intro _ (And.intro (weak_fit (by kernel_rfl)) (forL_next hx0 (bif_f h7 (rfl)) hI0))
  ·
   refine awp_seq ?_
   refine sn tt_ok [0, 1, 4, 5, 14] [] (pl 2 a_ (pe 3 (av_bool (decide_eq_false (p := ((k0 : Nat) : Int) < (a_.length : Int)) (by omega))) p0)) ?_
   refine ckF ?_
   refine awp_exit ?_
   exact Exists.intro _ (And.intro (weak_fit (by kernel_rfl)) (forL_end hk0 (rfl) hI0))
  ·
   refine sn tt_ok [4] [] (p0) ?_
   refine awp_ret ?_
   exact pb [] (bif_f h1 (on_b hD0 (rfl)))
def lawssameResult (a_ : ResultD) (b : ResultD) : Bool := ((a_.1.toList == b.1.toList) && (lawssameInts a_.2 b.2))
theorem lawssameResult_a (a_ : ResultD) (b : ResultD) : ACalls Tryz.prog 88 [.a [.s a_.1, .h a_.2], .a [.s b.1, .h b.2]] (.b (lawssameResult a_ b)) := by
 refine en tt_ok Tryz.func88 fun w0 F0 hG => ?_
 refine sn tt_ok [2, 3, 4] [2, 3] (p0) ?_
 refine awp_seq ?_
 refine mz [(2, .p 2 0), (3, .p 3 0), (4, .b false)] [0, 1] [(2, [.s a_.1, .h a_.2]), (3, [.s b.1, .h b.2])] [] ?_
 refine jn [(4, .b ((a_.1.toList == b.1.toList) && (lawssameInts a_.2 b.2)))] [2, 3, 4] [] [2, 3] (a_.1.toList == b.1.toList) (fun h1 => ?_) (fun h1 => ?_) ?_
 ·
  refine rn tt_ok [4] [] (pt 4 h1 (pc 10 (lawssameInts_a a_.2 b.2) p0)) ?_
  exact ⟨rfl, weak_fit (by rw [h1]; first | done | kernel_rfl)⟩
 ·
  refine rn tt_ok [4] [] (pf 4 h1 p0) ?_
  exact ⟨rfl, weak_fit (by rw [h1]; first | done | kernel_rfl)⟩
 refine awp_ret ?_
 exact pb [] (show lawssameResult a_ b = ((a_.1.toList == b.1.toList) && (lawssameInts a_.2 b.2)) from rfl)
def lawssameResults_f0 (b : (List ResultD)) (k0 : Nat) (a0 : ResultD) (_ : Unit) : Rd (Bool) (Unit) (Unit) := (bif (!(lawssameResult a0 (nth b k0))) then (.ret false) else (.next ()))
def lawssameResults_e0 (_ : Nat) (_ : Unit) : Unit := ()
def lawssameResults (a_ : (List ResultD)) (b : (List ResultD)) : Bool := (bif ((a_.length : Int) != (b.length : Int)) then false else (Out.on (forL (lawssameResults_f0 b) lawssameResults_e0 a_ 0 ()) (fun _ => true)))
theorem lawssameResults_a (a_ : (List ResultD)) (b : (List ResultD)) : ACalls Tryz.prog 43 [.h a_, .h b] (.b (lawssameResults a_ b)) := by
 refine en tt_ok Tryz.func43 fun w0 F0 hG => ?_
 refine sn tt_ok [0, 1, 4] [] (p0) ?_
 refine awp_seq ?_
 refine tn tt_ok [0, 1, 4, 10] [] (pl 1 a_ (pl 3 b p0)) ?_
 refine ck ((a_.length : Int) != (b.length : Int)) (fun h1 => ?_) (fun h1 => ?_)
 ·
  refine tu tt_ok [(4, .b false)] [] [] [] (p0) ?_
  refine awp_ret ?_
  exact pb [] (bif_t h1 (rfl))
 ·
  have h1d := eq_of_bne h1
  refine awp_skip ?_
  refine awp_seq ?_
  refine tu tt_ok [(4, .b false), (5, .i 0)] [] [] [] (p0) ?_
  refine wT 0 0 .sh a_ (fun hw2 hl3 => ?_)
  refine blL0 (lawssameResults_f0 b) lawssameResults_e0 a_ () (fun k0 _ => [(5, .i ((k0 : Nat) : Int))]) [5] (fun _ => []) [0, 1, 5] (weak_fit (by kernel_rfl)) (fun k0 s0 hk0 hI0 => ?_) (fun k0 s0 hk0 hI0 => ?_) (fun y0 hD0 => ?_)
  ·
   obtain ⟨a0, hx0⟩ := get_some (l := a_) (i := k0) hk0
   refine awp_seq ?_
   refine sn tt_ok [0, 1, 4, 5, 14] [] (pl 2 a_ (pe 3 (av_bool (decide_eq_true (p := ((k0 : Nat) : Int) < (a_.length : Int)) (by omega))) p0)) ?_
   refine ckT ?_
   refine awp_skip ?_
   refine awp_seq ?_
   refine awp_block ?_
   refine wT 1 0 .sh b (fun hw5 hl6 => ?_)
   have hx4 := ng b k0
   refine tN tt_ok tt_mx [0, 1, 4, 5, 26] [] (pn 2 hx0 (pn 6 hx4 (pc 8 (lawssameResult_a a0 (nth b k0)) p0))) ?_
   refine ck (!(lawssameResult a0 (nth b k0))) (fun h7 => ?_) (fun h7 => ?_)
   ·
    refine tu tt_ok [] [] [] [] (p0) ?_
    refine awp_ret ?_
    have hr8 : (forL (lawssameResults_f0 b) lawssameResults_e0 a_ 0 ()) = .ret false := forL_ret hx0 (bif_t h7 (rfl)) hI0
    exact pb [] (bif_f h1 (on_r hr8))
   ·
    refine awp_skip ?_
    refine qu tt_ok [(5, .i ((k0 + 1 : Nat) : Int))] [5] [] [] (pe 1 (av_i (wrap_succ k0 (by omega))) p0) ?_
    exact Exists.intro _ (And.intro (weak_fit (by kernel_rfl)) (forL_next hx0 (bif_f h7 (rfl)) hI0))
  ·
   refine awp_seq ?_
   refine sn tt_ok [0, 1, 4, 5, 14] [] (pl 2 a_ (pe 3 (av_bool (decide_eq_false (p := ((k0 : Nat) : Int) < (a_.length : Int)) (by omega))) p0)) ?_
   refine ckF ?_
   refine awp_exit ?_
   exact Exists.intro _ (And.intro (weak_fit (by kernel_rfl)) (forL_end hk0 (rfl) hI0))
  ·
   refine sn tt_ok [4] [] (p0) ?_
   refine awp_ret ?_
   exact pb [] (bif_f h1 (on_b hD0 (rfl)))
def lawsFnDiffApply_f0 (_ : Nat) (a0 : DiffD) (_ : Unit) : Rd (Bool) (Unit) (Unit) := (bif (!(implIsValidDiff a0)) then (.ret false) else (.next ()))
def lawsFnDiffApply_e0 (_ : Nat) (_ : Unit) : Unit := ()
def lawsFnDiffApply (code : (List UInt8)) : Bool := (bif (lawsbig code) then true else (bif ((!(lawssameDiffs (implDiffResults (((specEvaluate (((specDrawEvaluate code)).1) (((specDrawEvaluate code)).2))).1) (((specEvaluate (lawssampleStore (Int.tmod (nth (specDrawPlaces code) 0) 5)) (((specDrawEvaluate code)).2))).1)) (specDiffResults (((specEvaluate (((specDrawEvaluate code)).1) (((specDrawEvaluate code)).2))).1) (((specEvaluate (lawssampleStore (Int.tmod (nth (specDrawPlaces code) 0) 5)) (((specDrawEvaluate code)).2))).1)))) || ((!(lawssameDiffs (implDiffResults (((specDrawDiffResults code)).1) (((specDrawDiffResults code)).2)) (specDiffResults (((specDrawDiffResults code)).1) (((specDrawDiffResults code)).2)))) || ((!(lawssameResults (implApplyDiffs (((specDrawApplyDiffs code)).1) (((specDrawApplyDiffs code)).2)) (specApplyDiffs (((specDrawApplyDiffs code)).1) (((specDrawApplyDiffs code)).2)))) || (!(lawssameDiffs (implInvertDiffs (specDrawInvertDiffs code)) (specInvertDiffs (specDrawInvertDiffs code))))))) then false else (Out.on (forL lawsFnDiffApply_f0 lawsFnDiffApply_e0 (implDiffResults (((specEvaluate (((specDrawEvaluate code)).1) (((specDrawEvaluate code)).2))).1) (((specEvaluate (lawssampleStore (Int.tmod (nth (specDrawPlaces code) 0) 5)) (((specDrawEvaluate code)).2))).1)) 0 ()) (fun _ => ((!(((specEvaluate (((specDrawEvaluate code)).1) (((specDrawEvaluate code)).2))).2)) || ((!(((specEvaluate (lawssampleStore (Int.tmod (nth (specDrawPlaces code) 0) 5)) (((specDrawEvaluate code)).2))).2)) || ((lawssameResults (implApplyDiffs (((specEvaluate (((specDrawEvaluate code)).1) (((specDrawEvaluate code)).2))).1) (implDiffResults (((specEvaluate (((specDrawEvaluate code)).1) (((specDrawEvaluate code)).2))).1) (((specEvaluate (lawssampleStore (Int.tmod (nth (specDrawPlaces code) 0) 5)) (((specDrawEvaluate code)).2))).1))) (((specEvaluate (lawssampleStore (Int.tmod (nth (specDrawPlaces code) 0) 5)) (((specDrawEvaluate code)).2))).1)) && (lawssameResults (implApplyDiffs (((specEvaluate (lawssampleStore (Int.tmod (nth (specDrawPlaces code) 0) 5)) (((specDrawEvaluate code)).2))).1) (implInvertDiffs (implDiffResults (((specEvaluate (((specDrawEvaluate code)).1) (((specDrawEvaluate code)).2))).1) (((specEvaluate (lawssampleStore (Int.tmod (nth (specDrawPlaces code) 0) 5)) (((specDrawEvaluate code)).2))).1)))) (((specEvaluate (((specDrawEvaluate code)).1) (((specDrawEvaluate code)).2))).1)))))))))
theorem lawsFnDiffApply_a (code : (List UInt8)) : ACalls Tryz.prog 7 [.h code] (.b (lawsFnDiffApply code)) := by
 refine en tt_ok Tryz.func7 fun w0 F0 hG => ?_
 have hpl := places_len code
 have hp0 := (place_mod code 0 (by decide) (m := 5) (by decide)).2
 refine sn tt_ok [0, 2] [] (p0) ?_
 refine awp_seq ?_
 refine tn tt_ok [0, 2, 19] [] (pc 1 (lawsbig_a code) p0) ?_
 refine ck (lawsbig code) (fun h1 => ?_) (fun h1 => ?_)
 ·
  refine tu tt_ok [(2, .b true)] [] [] [] (p0) ?_
  refine awp_ret ?_
  exact pb [] (bif_t h1 (rfl))
 ·
  refine awp_skip ?_
  refine tu tt_ok [(2, .b false), (3, .o 1344 (specDrawPlaces code))] [] [] [] (pc 1 (specDrawPlaces_a code) p0) ?_
  refine sn tt_ok [0, 2, 3, 4, 5] [4] (pc 1 (specDrawEvaluate_a code) p0) ?_
  refine tn tt_ok [0, 2, 3, 5, 6, 7] [] (pc 2 (specEvaluate_a (((specDrawEvaluate code)).1) (((specDrawEvaluate code)).2)) p0) ?_
  refine wT 3 0 (.own true 1344) (specDrawPlaces code) (fun hw3 hl4 => ?_)
  have hx2 := ng (specDrawPlaces code) 0
  have hx2b := places_bd code _ (List.mem_of_getElem? hx2)
  refine tu tt_ok [(5, .h (((specDrawEvaluate code)).2)), (6, .o 1920 (((specEvaluate (((specDrawEvaluate code)).1) (((specDrawEvaluate code)).2))).1)), (7, .b (((specEvaluate (((specDrawEvaluate code)).1) (((specDrawEvaluate code)).2))).2)), (8, .p 8 0)] [3] [(8, [.o 2368 ((lawssampleStore (Int.tmod (nth (specDrawPlaces code) 0) 5)).1), .o 2369 ((lawssampleStore (Int.tmod (nth (specDrawPlaces code) 0) 5)).2.1), .i ((lawssampleStore (Int.tmod (nth (specDrawPlaces code) 0) 5)).2.2)])] [] (pG 1 0 hx2 (px (ob_nz (n := 5) (by omega)) (px (ob_inr (k := .i64) (n := Int.tmod (nth (specDrawPlaces code) 0) 5) (inr_rem0 (by omega))) (pc 4 (lawssampleStore_a (Int.tmod (nth (specDrawPlaces code) 0) 5)) p0)))) ?_
  refine sn tt_ok [0, 2, 6, 7, 9, 10] [] (pc 2 (specEvaluate_a (lawssampleStore (Int.tmod (nth (specDrawPlaces code) 0) 5)) (((specDrawEvaluate code)).2)) p0) ?_
  refine tn tt_ok [0, 2, 6, 7, 9, 10, 11] [] (pc 2 (implDiffResults_a (((specEvaluate (((specDrawEvaluate code)).1) (((specDrawEvaluate code)).2))).1) (((specEvaluate (lawssampleStore (Int.tmod (nth (specDrawPlaces code) 0) 5)) (((specDrawEvaluate code)).2))).1)) p0) ?_
  refine tu tt_ok [(9, .o 2624 (((specEvaluate (lawssampleStore (Int.tmod (nth (specDrawPlaces code) 0) 5)) (((specDrawEvaluate code)).2))).1)), (10, .b (((specEvaluate (lawssampleStore (Int.tmod (nth (specDrawPlaces code) 0) 5)) (((specDrawEvaluate code)).2))).2)), (11, .o 2944 (implDiffResults (((specEvaluate (((specDrawEvaluate code)).1) (((specDrawEvaluate code)).2))).1) (((specEvaluate (lawssampleStore (Int.tmod (nth (specDrawPlaces code) 0) 5)) (((specDrawEvaluate code)).2))).1))), (12, .o 3136 (((specDrawDiffResults code)).1)), (13, .o 3137 (((specDrawDiffResults code)).2))] [5, 8] [] [8] (pc 1 (specDrawDiffResults_a code) p0) ?_
  refine sn tt_ok [0, 2, 6, 7, 9, 10, 11, 12, 13, 14, 15] [] (pc 1 (specDrawApplyDiffs_a code) p0) ?_
  refine tn tt_ok [2, 6, 7, 9, 10, 11, 12, 13, 14, 15, 16] [] (pc 1 (specDrawInvertDiffs_a code) p0) ?_
  refine awp_seq ?_
  refine awp_seq ?_
  refine mz [(14, .o 3456 (((specDrawApplyDiffs code)).1)), (15, .o 3457 (((specDrawApplyDiffs code)).2)), (16, .o 3712 (specDrawInvertDiffs code))] [0] [] [] ?_
  refine jn [(92, .b ((!(lawssameDiffs (implDiffResults (((specEvaluate (((specDrawEvaluate code)).1) (((specDrawEvaluate code)).2))).1) (((specEvaluate (lawssampleStore (Int.tmod (nth (specDrawPlaces code) 0) 5)) (((specDrawEvaluate code)).2))).1)) (specDiffResults (((specEvaluate (((specDrawEvaluate code)).1) (((specDrawEvaluate code)).2))).1) (((specEvaluate (lawssampleStore (Int.tmod (nth (specDrawPlaces code) 0) 5)) (((specDrawEvaluate code)).2))).1)))) || ((!(lawssameDiffs (implDiffResults (((specDrawDiffResults code)).1) (((specDrawDiffResults code)).2)) (specDiffResults (((specDrawDiffResults code)).1) (((specDrawDiffResults code)).2)))) || ((!(lawssameResults (implApplyDiffs (((specDrawApplyDiffs code)).1) (((specDrawApplyDiffs code)).2)) (specApplyDiffs (((specDrawApplyDiffs code)).1) (((specDrawApplyDiffs code)).2)))) || (!(lawssameDiffs (implInvertDiffs (specDrawInvertDiffs code)) (specInvertDiffs (specDrawInvertDiffs code))))))))] [12, 13, 14, 15, 16] [] [] (!(lawssameDiffs (implDiffResults (((specEvaluate (((specDrawEvaluate code)).1) (((specDrawEvaluate code)).2))).1) (((specEvaluate (lawssampleStore (Int.tmod (nth (specDrawPlaces code) 0) 5)) (((specDrawEvaluate code)).2))).1)) (specDiffResults (((specEvaluate (((specDrawEvaluate code)).1) (((specDrawEvaluate code)).2))).1) (((specEvaluate (lawssampleStore (Int.tmod (nth (specDrawPlaces code) 0) 5)) (((specDrawEvaluate code)).2))).1)))) (fun h5 => ?_) (fun h5 => ?_) ?_
  ·
   have h5n : (lawssameDiffs (implDiffResults (((specEvaluate (((specDrawEvaluate code)).1) (((specDrawEvaluate code)).2))).1) (((specEvaluate (lawssampleStore (Int.tmod (nth (specDrawPlaces code) 0) 5)) (((specDrawEvaluate code)).2))).1)) (specDiffResults (((specEvaluate (((specDrawEvaluate code)).1) (((specDrawEvaluate code)).2))).1) (((specEvaluate (lawssampleStore (Int.tmod (nth (specDrawPlaces code) 0) 5)) (((specDrawEvaluate code)).2))).1))) = false := bnot_t h5
   refine rn tt_ok [2, 6, 7, 9, 10, 11, 92] [] (pc 3 (specDiffResults_a (((specEvaluate (((specDrawEvaluate code)).1) (((specDrawEvaluate code)).2))).1) (((specEvaluate (lawssampleStore (Int.tmod (nth (specDrawPlaces code) 0) 5)) (((specDrawEvaluate code)).2))).1)) (pc 4 (cb h5n (lawssameDiffs_a (implDiffResults (((specEvaluate (((specDrawEvaluate code)).1) (((specDrawEvaluate code)).2))).1) (((specEvaluate (lawssampleStore (Int.tmod (nth (specDrawPlaces code) 0) 5)) (((specDrawEvaluate code)).2))).1)) (specDiffResults (((specEvaluate (((specDrawEvaluate code)).1) (((specDrawEvaluate code)).2))).1) (((specEvaluate (lawssampleStore (Int.tmod (nth (specDrawPlaces code) 0) 5)) (((specDrawEvaluate code)).2))).1)))) (pe 5 (show .b (!false) = .b true from rfl) p0))) ?_
   exact ⟨rfl, weak_fit (by rw [h5]; first | done | kernel_rfl)⟩
  ·
   have h5n : (lawssameDiffs (implDiffResults (((specEvaluate (((specDrawEvaluate code)).1) (((specDrawEvaluate code)).2))).1) (((specEvaluate (lawssampleStore (Int.tmod (nth (specDrawPlaces code) 0) 5)) (((specDrawEvaluate code)).2))).1)) (specDiffResults (((specEvaluate (((specDrawEvaluate code)).1) (((specDrawEvaluate code)).2))).1) (((specEvaluate (lawssampleStore (Int.tmod (nth (specDrawPlaces code) 0) 5)) (((specDrawEvaluate code)).2))).1))) = true := bnot_f h5
   refine awp_split (!(lawssameDiffs (implDiffResults (((specDrawDiffResults code)).1) (((specDrawDiffResults code)).2)) (specDiffResults (((specDrawDiffResults code)).1) (((specDrawDiffResults code)).2)))) (fun h6 => ?_) (fun h6 => ?_)
   ·
    have h6n : (lawssameDiffs (implDiffResults (((specDrawDiffResults code)).1) (((specDrawDiffResults code)).2)) (specDiffResults (((specDrawDiffResults code)).1) (((specDrawDiffResults code)).2))) = false := bnot_t h6
    refine rn tt_ok [2, 6, 7, 9, 10, 11, 92] [] (pc 3 (specDiffResults_a (((specEvaluate (((specDrawEvaluate code)).1) (((specDrawEvaluate code)).2))).1) (((specEvaluate (lawssampleStore (Int.tmod (nth (specDrawPlaces code) 0) 5)) (((specDrawEvaluate code)).2))).1)) (pc 4 (cb h5n (lawssameDiffs_a (implDiffResults (((specEvaluate (((specDrawEvaluate code)).1) (((specDrawEvaluate code)).2))).1) (((specEvaluate (lawssampleStore (Int.tmod (nth (specDrawPlaces code) 0) 5)) (((specDrawEvaluate code)).2))).1)) (specDiffResults (((specEvaluate (((specDrawEvaluate code)).1) (((specDrawEvaluate code)).2))).1) (((specEvaluate (lawssampleStore (Int.tmod (nth (specDrawPlaces code) 0) 5)) (((specDrawEvaluate code)).2))).1)))) (pe 5 (show .b (!true) = .b false from rfl) (pc 9 (implDiffResults_a (((specDrawDiffResults code)).1) (((specDrawDiffResults code)).2)) (pc 12 (specDiffResults_a (((specDrawDiffResults code)).1) (((specDrawDiffResults code)).2)) (pc 13 (cb h6n (lawssameDiffs_a (implDiffResults (((specDrawDiffResults code)).1) (((specDrawDiffResults code)).2)) (specDiffResults (((specDrawDiffResults code)).1) (((specDrawDiffResults code)).2)))) (pe 14 (show .b (!false) = .b true from rfl) p0))))))) ?_
    exact ⟨rfl, weak_fit (by rw [h5, h6]; first | done | kernel_rfl)⟩
   ·
    have h6n : (lawssameDiffs (implDiffResults (((specDrawDiffResults code)).1) (((specDrawDiffResults code)).2)) (specDiffResults (((specDrawDiffResults code)).1) (((specDrawDiffResults code)).2))) = true := bnot_f h6
    refine awp_split (!(lawssameResults (implApplyDiffs (((specDrawApplyDiffs code)).1) (((specDrawApplyDiffs code)).2)) (specApplyDiffs (((specDrawApplyDiffs code)).1) (((specDrawApplyDiffs code)).2)))) (fun h7 => ?_) (fun h7 => ?_)
    ·
     have h7n : (lawssameResults (implApplyDiffs (((specDrawApplyDiffs code)).1) (((specDrawApplyDiffs code)).2)) (specApplyDiffs (((specDrawApplyDiffs code)).1) (((specDrawApplyDiffs code)).2))) = false := bnot_t h7
     refine rn tt_ok [2, 6, 7, 9, 10, 11, 92] [] (pc 3 (specDiffResults_a (((specEvaluate (((specDrawEvaluate code)).1) (((specDrawEvaluate code)).2))).1) (((specEvaluate (lawssampleStore (Int.tmod (nth (specDrawPlaces code) 0) 5)) (((specDrawEvaluate code)).2))).1)) (pc 4 (cb h5n (lawssameDiffs_a (implDiffResults (((specEvaluate (((specDrawEvaluate code)).1) (((specDrawEvaluate code)).2))).1) (((specEvaluate (lawssampleStore (Int.tmod (nth (specDrawPlaces code) 0) 5)) (((specDrawEvaluate code)).2))).1)) (specDiffResults (((specEvaluate (((specDrawEvaluate code)).1) (((specDrawEvaluate code)).2))).1) (((specEvaluate (lawssampleStore (Int.tmod (nth (specDrawPlaces code) 0) 5)) (((specDrawEvaluate code)).2))).1)))) (pe 5 (show .b (!true) = .b false from rfl) (pc 9 (implDiffResults_a (((specDrawDiffResults code)).1) (((specDrawDiffResults code)).2)) (pc 12 (specDiffResults_a (((specDrawDiffResults code)).1) (((specDrawDiffResults code)).2)) (pc 13 (cb h6n (lawssameDiffs_a (implDiffResults (((specDrawDiffResults code)).1) (((specDrawDiffResults code)).2)) (specDiffResults (((specDrawDiffResults code)).1) (((specDrawDiffResults code)).2)))) (pe 14 (show .b (!true) = .b false from rfl) (pc 19 (implApplyDiffs_a (((specDrawApplyDiffs code)).1) (((specDrawApplyDiffs code)).2) (by first | exact (drawAp code).1 | exact ml_evalS _ _) (by first | exact (drawAp code).2 | exact md_diffS _ _ _ | exact md_inv (md_diffS _ _ _))) (pc 22 (specApplyDiffs_a (((specDrawApplyDiffs code)).1) (((specDrawApplyDiffs code)).2) (drawAp code).1 (drawAp code).2) (pc 23 (cb h7n (lawssameResults_a (implApplyDiffs (((specDrawApplyDiffs code)).1) (((specDrawApplyDiffs code)).2)) (specApplyDiffs (((specDrawApplyDiffs code)).1) (((specDrawApplyDiffs code)).2)))) (pe 24 (show .b (!false) = .b true from rfl) p0))))))))))) ?_
     exact ⟨rfl, weak_fit (by rw [h5, h6, h7]; first | done | kernel_rfl)⟩
    ·
     have h7n : (lawssameResults (implApplyDiffs (((specDrawApplyDiffs code)).1) (((specDrawApplyDiffs code)).2)) (specApplyDiffs (((specDrawApplyDiffs code)).1) (((specDrawApplyDiffs code)).2))) = true := bnot_f h7
     refine rn tt_ok [2, 6, 7, 9, 10, 11, 92] [] (pc 3 (specDiffResults_a (((specEvaluate (((specDrawEvaluate code)).1) (((specDrawEvaluate code)).2))).1) (((specEvaluate (lawssampleStore (Int.tmod (nth (specDrawPlaces code) 0) 5)) (((specDrawEvaluate code)).2))).1)) (pc 4 (cb h5n (lawssameDiffs_a (implDiffResults (((specEvaluate (((specDrawEvaluate code)).1) (((specDrawEvaluate code)).2))).1) (((specEvaluate (lawssampleStore (Int.tmod (nth (specDrawPlaces code) 0) 5)) (((specDrawEvaluate code)).2))).1)) (specDiffResults (((specEvaluate (((specDrawEvaluate code)).1) (((specDrawEvaluate code)).2))).1) (((specEvaluate (lawssampleStore (Int.tmod (nth (specDrawPlaces code) 0) 5)) (((specDrawEvaluate code)).2))).1)))) (pe 5 (show .b (!true) = .b false from rfl) (pc 9 (implDiffResults_a (((specDrawDiffResults code)).1) (((specDrawDiffResults code)).2)) (pc 12 (specDiffResults_a (((specDrawDiffResults code)).1) (((specDrawDiffResults code)).2)) (pc 13 (cb h6n (lawssameDiffs_a (implDiffResults (((specDrawDiffResults code)).1) (((specDrawDiffResults code)).2)) (specDiffResults (((specDrawDiffResults code)).1) (((specDrawDiffResults code)).2)))) (pe 14 (show .b (!true) = .b false from rfl) (pc 19 (implApplyDiffs_a (((specDrawApplyDiffs code)).1) (((specDrawApplyDiffs code)).2) (by first | exact (drawAp code).1 | exact ml_evalS _ _) (by first | exact (drawAp code).2 | exact md_diffS _ _ _ | exact md_inv (md_diffS _ _ _))) (pc 22 (specApplyDiffs_a (((specDrawApplyDiffs code)).1) (((specDrawApplyDiffs code)).2) (drawAp code).1 (drawAp code).2) (pc 23 (cb h7n (lawssameResults_a (implApplyDiffs (((specDrawApplyDiffs code)).1) (((specDrawApplyDiffs code)).2)) (specApplyDiffs (((specDrawApplyDiffs code)).1) (((specDrawApplyDiffs code)).2)))) (pe 24 (show .b (!true) = .b false from rfl) (pc 28 (implInvertDiffs_a (specDrawInvertDiffs code)) (pc 30 (specInvertDiffs_a (specDrawInvertDiffs code)) (pc 31 (lawssameDiffs_a (implInvertDiffs (specDrawInvertDiffs code)) (specInvertDiffs (specDrawInvertDiffs code))) p0)))))))))))))) ?_
     exact ⟨rfl, weak_fit (by rw [h5, h6, h7]; first | done | kernel_rfl)⟩
  refine ck ((!(lawssameDiffs (implDiffResults (((specEvaluate (((specDrawEvaluate code)).1) (((specDrawEvaluate code)).2))).1) (((specEvaluate (lawssampleStore (Int.tmod (nth (specDrawPlaces code) 0) 5)) (((specDrawEvaluate code)).2))).1)) (specDiffResults (((specEvaluate (((specDrawEvaluate code)).1) (((specDrawEvaluate code)).2))).1) (((specEvaluate (lawssampleStore (Int.tmod (nth (specDrawPlaces code) 0) 5)) (((specDrawEvaluate code)).2))).1)))) || ((!(lawssameDiffs (implDiffResults (((specDrawDiffResults code)).1) (((specDrawDiffResults code)).2)) (specDiffResults (((specDrawDiffResults code)).1) (((specDrawDiffResults code)).2)))) || ((!(lawssameResults (implApplyDiffs (((specDrawApplyDiffs code)).1) (((specDrawApplyDiffs code)).2)) (specApplyDiffs (((specDrawApplyDiffs code)).1) (((specDrawApplyDiffs code)).2)))) || (!(lawssameDiffs (implInvertDiffs (specDrawInvertDiffs code)) (specInvertDiffs (specDrawInvertDiffs code))))))) (fun h8 => ?_) (fun h8 => ?_)
  ·
   refine su tt_ok [] [92] [] [] (p0) ?_
   refine awp_ret ?_
   exact pb [] (bif_f h1 (bif_t h8 (rfl)))
  ·
   refine awp_skip ?_
   refine awp_seq ?_
   refine su tt_ok [(17, .i 0)] [92] [] [] (p0) ?_
   refine wT 11 0 (.own true 2944) (implDiffResults (((specEvaluate (((specDrawEvaluate code)).1) (((specDrawEvaluate code)).2))).1) (((specEvaluate (lawssampleStore (Int.tmod (nth (specDrawPlaces code) 0) 5)) (((specDrawEvaluate code)).2))).1)) (fun hw9 hl10 => ?_)
   refine blL0 lawsFnDiffApply_f0 lawsFnDiffApply_e0 (implDiffResults (((specEvaluate (((specDrawEvaluate code)).1) (((specDrawEvaluate code)).2))).1) (((specEvaluate (lawssampleStore (Int.tmod (nth (specDrawPlaces code) 0) 5)) (((specDrawEvaluate code)).2))).1)) () (fun k0 _ => [(17, .i ((k0 : Nat) : Int))]) [17] (fun _ => []) [17] (weak_fit (by kernel_rfl)) (fun k0 s0 hk0 hI0 => ?_) (fun k0 s0 hk0 hI0 => ?_) (fun y0 hD0 => ?_)
   ·
    obtain ⟨a0, hx0⟩ := get_some (l := implDiffResults (((specEvaluate (((specDrawEvaluate code)).1) (((specDrawEvaluate code)).2))).1) (((specEvaluate (lawssampleStore (Int.tmod (nth (specDrawPlaces code) 0) 5)) (((specDrawEvaluate code)).2))).1)) (i := k0) hk0
    refine awp_seq ?_
    refine su tt_ok [(96, .b true)] [] [] [] (pl 2 (implDiffResults (((specEvaluate (((specDrawEvaluate code)).1) (((specDrawEvaluate code)).2))).1) (((specEvaluate (lawssampleStore (Int.tmod (nth (specDrawPlaces code) 0) 5)) (((specDrawEvaluate code)).2))).1)) (pe 3 (av_bool (decide_eq_true (p := ((k0 : Nat) : Int) < ((implDiffResults (((specEvaluate (((specDrawEvaluate code)).1) (((specDrawEvaluate code)).2))).1) (((specEvaluate (lawssampleStore (Int.tmod (nth (specDrawPlaces code) 0) 5)) (((specDrawEvaluate code)).2))).1)).length : Int)) (by omega))) p0)) ?_
    refine ckT ?_
    refine awp_skip ?_
    refine awp_seq ?_
    refine awp_block ?_
    refine sn tt_ok [2, 6, 7, 9, 10, 11, 17, 104] [] (pN 2 hx0 (pc 4 (implIsValidDiff_a a0) p0)) ?_
    refine ck (!(implIsValidDiff a0)) (fun h11 => ?_) (fun h11 => ?_)
    ·
     refine tu tt_ok [] [96] [] [] (p0) ?_
     refine awp_ret ?_
     have hr12 : (forL lawsFnDiffApply_f0 lawsFnDiffApply_e0 (implDiffResults (((specEvaluate (((specDrawEvaluate code)).1) (((specDrawEvaluate code)).2))).1) (((specEvaluate (lawssampleStore (Int.tmod (nth (specDrawPlaces code) 0) 5)) (((specDrawEvaluate code)).2))).1)) 0 ()) = .ret false := forL_ret hx0 (bif_t h11 (rfl)) hI0
     exact pb [] (bif_f h1 (bif_f h8 (on_r hr12)))
    ·
     refine awp_skip ?_
     refine qn tt_ok [2, 6, 7, 9, 10, 11, 17] [] (pe 1 (av_i (wrap_succ k0 (by omega))) p0) ?_
     exact Exists.intro _ (And.intro (weak_fit (by kernel_rfl)) (forL_next hx0 (bif_f h11 (rfl)) hI0))
   ·
    refine awp_seq ?_
    refine su tt_ok [(96, .b false)] [] [] [] (pl 2 (implDiffResults (((specEvaluate (((specDrawEvaluate code)).1) (((specDrawEvaluate code)).2))).1) (((specEvaluate (lawssampleStore (Int.tmod (nth (specDrawPlaces code) 0) 5)) (((specDrawEvaluate code)).2))).1)) (pe 3 (av_bool (decide_eq_false (p := ((k0 : Nat) : Int) < ((implDiffResults (((specEvaluate (((specDrawEvaluate code)).1) (((specDrawEvaluate code)).2))).1) (((specEvaluate (lawssampleStore (Int.tmod (nth (specDrawPlaces code) 0) 5)) (((specDrawEvaluate code)).2))).1)).length : Int)) (by omega))) p0)) ?_
    refine ckF ?_
    refine awp_exit ?_
    exact Exists.intro _ (And.intro (weak_fit (by kernel_rfl)) (forL_end hk0 (rfl) hI0))
   ·
    refine awp_seq ?_
    refine jn [(2, .b ((!(((specEvaluate (((specDrawEvaluate code)).1) (((specDrawEvaluate code)).2))).2)) || ((!(((specEvaluate (lawssampleStore (Int.tmod (nth (specDrawPlaces code) 0) 5)) (((specDrawEvaluate code)).2))).2)) || ((lawssameResults (implApplyDiffs (((specEvaluate (((specDrawEvaluate code)).1) (((specDrawEvaluate code)).2))).1) (implDiffResults (((specEvaluate (((specDrawEvaluate code)).1) (((specDrawEvaluate code)).2))).1) (((specEvaluate (lawssampleStore (Int.tmod (nth (specDrawPlaces code) 0) 5)) (((specDrawEvaluate code)).2))).1))) (((specEvaluate (lawssampleStore (Int.tmod (nth (specDrawPlaces code) 0) 5)) (((specDrawEvaluate code)).2))).1)) && (lawssameResults (implApplyDiffs (((specEvaluate (lawssampleStore (Int.tmod (nth (specDrawPlaces code) 0) 5)) (((specDrawEvaluate code)).2))).1) (implInvertDiffs (implDiffResults (((specEvaluate (((specDrawEvaluate code)).1) (((specDrawEvaluate code)).2))).1) (((specEvaluate (lawssampleStore (Int.tmod (nth (specDrawPlaces code) 0) 5)) (((specDrawEvaluate code)).2))).1)))) (((specEvaluate (((specDrawEvaluate code)).1) (((specDrawEvaluate code)).2))).1))))))] [2, 6, 7, 9, 10, 11] [] [] (!(((specEvaluate (((specDrawEvaluate code)).1) (((specDrawEvaluate code)).2))).2)) (fun h13 => ?_) (fun h13 => ?_) ?_
    ·
     have h13n : (((specEvaluate (((specDrawEvaluate code)).1) (((specDrawEvaluate code)).2))).2) = false := bnot_t h13
     refine rn tt_ok [2] [] (pf 0 h13n (pe 1 (show .b (!false) = .b true from rfl) p0)) ?_
     exact ⟨rfl, weak_fit (by rw [h13]; first | done | kernel_rfl)⟩
    ·
     have h13n : (((specEvaluate (((specDrawEvaluate code)).1) (((specDrawEvaluate code)).2))).2) = true := bnot_f h13
     refine awp_split (!(((specEvaluate (lawssampleStore (Int.tmod (nth (specDrawPlaces code) 0) 5)) (((specDrawEvaluate code)).2))).2)) (fun h14 => ?_) (fun h14 => ?_)
     ·
      have h14n : (((specEvaluate (lawssampleStore (Int.tmod (nth (specDrawPlaces code) 0) 5)) (((specDrawEvaluate code)).2))).2) = false := bnot_t h14
      refine rn tt_ok [2] [] (pt 0 h13n (pe 1 (show .b (!true) = .b false from rfl) (pf 3 h14n (pe 4 (show .b (!false) = .b true from rfl) p0)))) ?_
      exact ⟨rfl, weak_fit (by rw [h13, h14]; first | done | kernel_rfl)⟩
     ·
      have h14n : (((specEvaluate (lawssampleStore (Int.tmod (nth (specDrawPlaces code) 0) 5)) (((specDrawEvaluate code)).2))).2) = true := bnot_f h14
      refine awp_split (lawssameResults (implApplyDiffs (((specEvaluate (((specDrawEvaluate code)).1) (((specDrawEvaluate code)).2))).1) (implDiffResults (((specEvaluate (((specDrawEvaluate code)).1) (((specDrawEvaluate code)).2))).1) (((specEvaluate (lawssampleStore (Int.tmod (nth (specDrawPlaces code) 0) 5)) (((specDrawEvaluate code)).2))).1))) (((specEvaluate (lawssampleStore (Int.tmod (nth (specDrawPlaces code) 0) 5)) (((specDrawEvaluate code)).2))).1)) (fun h15 => ?_) (fun h15 => ?_)
      ·
       refine rn tt_ok [2] [] (pt 0 h13n (pe 1 (show .b (!true) = .b false from rfl) (pt 3 h14n (pe 4 (show .b (!true) = .b false from rfl) (pc 9 (implApplyDiffs_a (((specEvaluate (((specDrawEvaluate code)).1) (((specDrawEvaluate code)).2))).1) (implDiffResults (((specEvaluate (((specDrawEvaluate code)).1) (((specDrawEvaluate code)).2))).1) (((specEvaluate (lawssampleStore (Int.tmod (nth (specDrawPlaces code) 0) 5)) (((specDrawEvaluate code)).2))).1)) (by first | exact (drawAp code).1 | exact ml_evalS _ _) (by first | exact (drawAp code).2 | exact md_diffS _ _ _ | exact md_inv (md_diffS _ _ _))) (pc 11 (cb h15 (lawssameResults_a (implApplyDiffs (((specEvaluate (((specDrawEvaluate code)).1) (((specDrawEvaluate code)).2))).1) (implDiffResults (((specEvaluate (((specDrawEvaluate code)).1) (((specDrawEvaluate code)).2))).1) (((specEvaluate (lawssampleStore (Int.tmod (nth (specDrawPlaces code) 0) 5)) (((specDrawEvaluate code)).2))).1))) (((specEvaluate (lawssampleStore (Int.tmod (nth (specDrawPlaces code) 0) 5)) (((specDrawEvaluate code)).2))).1))) (pc 15 (implInvertDiffs_a (implDiffResults (((specEvaluate (((specDrawEvaluate code)).1) (((specDrawEvaluate code)).2))).1) (((specEvaluate (lawssampleStore (Int.tmod (nth (specDrawPlaces code) 0) 5)) (((specDrawEvaluate code)).2))).1))) (pc 16 (implApplyDiffs_a (((specEvaluate (lawssampleStore (Int.tmod (nth (specDrawPlaces code) 0) 5)) (((specDrawEvaluate code)).2))).1) (implInvertDiffs (implDiffResults (((specEvaluate (((specDrawEvaluate code)).1) (((specDrawEvaluate code)).2))).1) (((specEvaluate (lawssampleStore (Int.tmod (nth (specDrawPlaces code) 0) 5)) (((specDrawEvaluate code)).2))).1))) (by first | exact (drawAp code).1 | exact ml_evalS _ _) (by first | exact (drawAp code).2 | exact md_diffS _ _ _ | exact md_inv (md_diffS _ _ _))) (pc 18 (lawssameResults_a (implApplyDiffs (((specEvaluate (lawssampleStore (Int.tmod (nth (specDrawPlaces code) 0) 5)) (((specDrawEvaluate code)).2))).1) (implInvertDiffs (implDiffResults (((specEvaluate (((specDrawEvaluate code)).1) (((specDrawEvaluate code)).2))).1) (((specEvaluate (lawssampleStore (Int.tmod (nth (specDrawPlaces code) 0) 5)) (((specDrawEvaluate code)).2))).1)))) (((specEvaluate (((specDrawEvaluate code)).1) (((specDrawEvaluate code)).2))).1)) p0))))))))) ?_
       exact ⟨rfl, weak_fit (by rw [h13, h14, h15]; first | done | kernel_rfl)⟩
      ·
       refine rn tt_ok [2] [] (pt 0 h13n (pe 1 (show .b (!true) = .b false from rfl) (pt 3 h14n (pe 4 (show .b (!true) = .b false from rfl) (pc 9 (implApplyDiffs_a (((specEvaluate (((specDrawEvaluate code)).1) (((specDrawEvaluate code)).2))).1) (implDiffResults (((specEvaluate (((specDrawEvaluate code)).1) (((specDrawEvaluate code)).2))).1) (((specEvaluate (lawssampleStore (Int.tmod (nth (specDrawPlaces code) 0) 5)) (((specDrawEvaluate code)).2))).1)) (by first | exact (drawAp code).1 | exact ml_evalS _ _) (by first | exact (drawAp code).2 | exact md_diffS _ _ _ | exact md_inv (md_diffS _ _ _))) (pc 11 (cb h15 (lawssameResults_a (implApplyDiffs (((specEvaluate (((specDrawEvaluate code)).1) (((specDrawEvaluate code)).2))).1) (implDiffResults (((specEvaluate (((specDrawEvaluate code)).1) (((specDrawEvaluate code)).2))).1) (((specEvaluate (lawssampleStore (Int.tmod (nth (specDrawPlaces code) 0) 5)) (((specDrawEvaluate code)).2))).1))) (((specEvaluate (lawssampleStore (Int.tmod (nth (specDrawPlaces code) 0) 5)) (((specDrawEvaluate code)).2))).1))) p0)))))) ?_
       exact ⟨rfl, weak_fit (by rw [h13, h14, h15]; first | done | kernel_rfl)⟩
    refine awp_ret ?_
    exact pb [] (bif_f h1 (bif_f h8 (on_b hD0 (rfl))))
end Go.Proofs.YtcnkkobgogmakaaGreat
namespace Go.Proofs.YtcnkkobgogmakaaGreat
open Go.RowKit
theorem adj_pair {l : List ByteArray} (h : ∀ i, i + 1 < l.length → bl (nth l i) (nth l (i + 1)) = true) : ascS l := by
  have key : ∀ j i, i < j → j < l.length → bl (nth l i) (nth l j) = true := by
    intro j
    induction j with
    | zero => intro i hi; omega
    | succ j ih =>
      intro i hi hj
      by_cases e : i = j
      · subst e; exact h i hj
      · exact bl_trans (ih i (by omega) (by omega)) (h j hj)
  unfold ascS
  rw [List.pairwise_iff_getElem]
  intro i j hi hj hij
  have := key j i hij hj
  simpa [nth, List.getD, hi, hj] using this
theorem asc_nodup {l : List ByteArray} (h : ascS l) : l.Nodup := h.imp fun {a b} hab e => by
  subst e
  rw [bl_irr] at hab
  cases hab
theorem mem_replayed (ids a r : List Int) (x : Int) : x ∈ implreplayed ids a r ↔ x ∈ a ∨ (x ∈ ids ∧ x ∉ r) := by
  have h : implreplayed ids a r = replay1 ids a r := replay1_eq ids a r
  rw [h]
  unfold replay1
  rw [mem_putAll, mem_putAll]
  simp [less]
theorem mem_less {a b : List Int} {x : Int} : x ∈ less a b ↔ x ∈ a ∧ x ∉ b := by simp [less]
theorem adj_pairs {α : Type} (f : α → Int) {l : List α} (h : ∀ (i : Nat) (a b : α), l[i]? = some a → l[i+1]? = some b → f a < f b) : l.Pairwise (fun a b => f a < f b) := by
  rw [List.pairwise_iff_getElem]
  have key : ∀ (d i : Nat) (hi : i < l.length) (hj : i + d + 1 < l.length), f l[i] < f l[i + d + 1] := by
    intro d
    induction d with
    | zero => intro i hi hj; exact h i _ _ (List.getElem?_eq_getElem hi) (List.getElem?_eq_getElem hj)
    | succ d ih =>
      intro i hi hj
      have h1 := ih i hi (by omega)
      have h2 := h (i + d + 1) _ _ (List.getElem?_eq_getElem (by omega)) (List.getElem?_eq_getElem hj)
      exact Int.lt_trans h1 h2
  intro i j hi hj hij
  have h1 := key (j - i - 1) i hi (by omega)
  have e : i + (j - i - 1) + 1 = j := by omega
  simp only [e] at h1
  exact h1
theorem asc_replayed (ids a r : List Int) : (implreplayed ids a r).Pairwise (· < ·) := by
  have h : implreplayed ids a r = replay1 ids a r := replay1_eq ids a r
  rw [h]
  unfold replay1
  exact asc_putAll _ _ (asc_putAll _ _ List.Pairwise.nil)
theorem sameInts_self (l : List Int) : lawssameInts l l = true := by
  unfold lawssameInts
  rw [forL_of_all l 0 (fun i a hi => by
    unfold lawssameInts_f0
    rw [Nat.zero_add, nth_of hi]
    simp)]
  simp [Out.on]
/-! ### names of valid directories -/
theorem vdirs_run {d : List DirD} (h : implIsValidDirs d = true) : ∀ (i : Nat) (a : DirD), d[i]? = some a → implIsValidDirs_f0 d i a () = .next () := by
  unfold implIsValidDirs at h
  cases hf : forL (implIsValidDirs_f0 d) implIsValidDirs_e0 d 0 () with
  | brk t =>
    intro i a ha
    have := forL_all (fun k a t => by unfold implIsValidDirs_f0; generalize (_ || _ : Bool) = c; cases c <;> simp) hf i a ha
    rwa [Nat.zero_add] at this
  | ret r =>
    rw [hf] at h
    obtain rfl : r = true := h
    exfalso
    have key : ∀ (l : List DirD) k, forL (implIsValidDirs_f0 d) implIsValidDirs_e0 l k () ≠ .ret true := by
      intro l
      induction l with
      | nil => intro k h; simp [forL] at h
      | cons a l ih =>
        intro k h
        simp only [forL] at h
        unfold implIsValidDirs_f0 at h
        split at h
        · rename_i hf; exact ih _ h
        · cases h
        · rename_i r hf; cases h; revert hf; generalize (_ || _ : Bool) = c; cases c <;> simp
    exact key _ _ hf
theorem vdir_name {d : List DirD} (h : implIsValidDirs d = true) {a : DirD} (ha : a ∈ d) : implIsValidString a.1 = true := by
  obtain ⟨i, hi⟩ := List.getElem?_of_mem ha
  have := vdirs_run h i a hi
  unfold implIsValidDirs_f0 at this
  cases hv : implIsValidString a.1 with
  | true => rfl
  | false => rw [hv] at this; cases this
theorem vdirs_nodup {d : List DirD} (h : implIsValidDirs d = true) : (d.map (·.1)).Nodup := by
  refine asc_nodup (adj_pair fun i hi => ?_)
  rw [List.length_map] at hi
  have e : ∀ j, j < d.length → nth (d.map (·.1)) j = (nth d j).1 := fun j hj => by simp [nth, List.getD, hj]
  rw [e i (by omega), e (i + 1) hi]
  have := vdirs_run h (i + 1) _ (nth_get hi)
  unfold implIsValidDirs_f0 at this
  rw [decide_eq_true (show ((i + 1 : Nat) : Int) > 0 by omega), show Int.toNat (((i + 1 : Nat) : Int) - 1) = i by omega] at this
  simp only [cond_true] at this
  cases hb : bl (nth d i).1 (nth d (i + 1)).1 with
  | true => rfl
  | false =>
    unfold bl at hb
    rw [hb] at this
    simp at this
structure EvD (d : List DirD) (r : List ResultD) : Prop where
  names : r.map (·.1) = d.map (·.1)
  asc : ∀ x, x ∈ r → x.2.Pairwise (· < ·)
  len : ∀ x, x ∈ r → x.2.length ≤ 12
theorem eval_facts {s : StoreD} {d : List DirD} (h : (implEvaluate s d).2 = true) : EvD d (implEvaluate s d).1 ∧ implIsValidDirs d = true := by
  have hs : (implStrata d).2 = true := by
    cases hs : (implStrata d).2 with
    | true => rfl
    | false =>
      unfold implEvaluate implevaluated at h
      rw [hs] at h
      simp at h
  obtain ⟨_, h2, h3, h4⟩ := evaluate_ok h
  have hl := store12 h2
  rw [← store_eq] at h2
  have hv := vs_of h2
  refine ⟨⟨h3, fun x hx => ?_, fun x hx => ?_⟩, (strata_ok (L := (implStrata d).1) (Prod.ext rfl hs)).1⟩
  · obtain ⟨p, hp⟩ := h4 x hx
    rw [hp]
    unfold sel
    exact List.pairwise_map.2 ((adj_pairs (fun f : FileD => f.1) (l := s.2.1) (fun i a b ha hb => hv.asc i a b ha hb)).filter _)
  · obtain ⟨p, hp⟩ := h4 x hx
    rw [hp]
    exact Nat.le_trans (sel_len _ _ _) hl
theorem rids_go' (nm : ByteArray) : ∀ (l : List ResultD) (k : Nat), (l.map (·.1)).Nodup → ∀ x, x ∈ l → x.1 = nm → forL (implResultIDs_f0 nm) implResultIDs_e0 l k () = .ret x.2
  | [], _, _, x, hx, _ => by simp at hx
  | y :: l, k, hn, x, hx, he => by
    rw [List.map_cons, List.nodup_cons] at hn
    simp only [forL, implResultIDs_f0, toList_inj]
    by_cases hy : y.1 = nm
    · rw [decide_eq_true hy]
      simp only [cond_true]
      rcases List.mem_cons.1 hx with rfl | hx
      · rfl
      · exact absurd (List.mem_map.2 ⟨x, hx, he.trans hy.symm⟩) hn.1
    · rw [decide_eq_false hy]
      simp only [cond_false]
      rcases List.mem_cons.1 hx with rfl | hx
      · exact absurd he hy
      · exact rids_go' nm l (k + 1) hn.2 x hx he
theorem rids_of {r : List ResultD} (hn : (r.map (·.1)).Nodup) {x : ResultD} (hx : x ∈ r) : implResultIDs r x.1 = x.2 := by
  unfold implResultIDs
  rw [rids_go' x.1 r 0 hn x hx rfl]
  rfl
/-! ### diffs -/
theorem has_or {a : List ResultD} {x : ResultD} (h1 : (implResultIDs a x.1).length ≤ 1000) (h2 : x.2.length ≤ 1000) : hasD a x = (decide (((((implDiffIDs (implResultIDs a x.1) x.2)).1).length : Int) > (0 : Int)) || decide (((((implDiffIDs (implResultIDs a x.1) x.2)).2).length : Int) > (0 : Int))) := by
  unfold hasD implDiffIDs
  have h3 := less_len x.2 (implResultIDs a x.1)
  have h4 := less_len (implResultIDs a x.1) x.2
  dsimp only
  rw [IntWalk.i64_in _ (show _ ∧ _ by omega)]
  rw [Bool.eq_iff_iff]
  simp only [Bool.or_eq_true, decide_eq_true_eq]
  omega
theorem rids_small {r : List ResultD} {N : Nat} (h : ∀ x, x ∈ r → x.2.length ≤ N) (nm : ByteArray) : (implResultIDs r nm).length ≤ N := by
  unfold implResultIDs
  rcases rids_mem nm r 0 with h1 | ⟨x, hx, h1⟩
  · rw [h1]; exact Nat.zero_le _
  · rw [h1]; exact h x hx
theorem diffR_eq {a b : List ResultD} (ha : ∀ x, x ∈ a → x.2.length ≤ 1000) (hb : ∀ x, x ∈ b → x.2.length ≤ 1000) : specDiffResults a b = implDiffResults a b := by
  unfold specDiffResults implDiffResults
  rw [forL_congr (f := specDiffResults_f0 a) (g := implDiffResults_f0 a) (e := specDiffResults_e0) (e' := implDiffResults_e0) (fun _ _ => rfl) b 0 [] (fun i x t hx => by
    unfold specDiffResults_f0 implDiffResults_f0
    have e : specResultIDs a x.1 = implResultIDs a x.1 := rfl
    rw [e, diffIDs_eq]
    have h := has_or (rids_small ha x.1) (hb x (List.mem_of_getElem? hx))
    unfold hasD at h
    rw [h])]
/-! ### applying -/
def foldD (nm : ByteArray) (e : List DiffD) (ids : List Int) : List Int := e.foldl (fun ids y => bif y.1.toList == nm.toList then implreplayed ids y.2.1 y.2.2 else ids) ids
def apD (e : List DiffD) (x : ResultD) : ResultD := (x.1, foldD x.1 e x.2)
theorem nth_set_self {l : List ResultD} {k : Nat} (x : ResultD) (h : k < l.length) : nth (l.set k x) k = x := by simp [nth, List.getD, h]
theorem apply_in (s : List ResultD) (k : Nat) (hk : k < s.length) : ∀ (e : List DiffD) (j : Nat) (ids : List Int), forL (implApplyDiffs_f1 k s) implApplyDiffs_e1 e j (s.set k ((nth s k).1, ids)) = .brk (s.set k ((nth s k).1, foldD (nth s k).1 e ids))
  | [], j, ids => rfl
  | y :: e, j, ids => by
    simp only [forL, implApplyDiffs_f1]
    cases hc : (y.1.toList == (nth s k).1.toList) with
    | true =>
      simp only [cond_true]
      rw [nth_set_self _ hk, List.set_set]
      have := apply_in s k hk e (j + 1) (implreplayed ids y.2.1 y.2.2)
      unfold foldD at this ⊢
      rw [List.foldl_cons, hc]
      exact this
    | false =>
      simp only [cond_false]
      have := apply_in s k hk e (j + 1) ids
      unfold foldD at this ⊢
      rw [List.foldl_cons, hc]
      exact this
theorem set_nth {l : List ResultD} {k : Nat} (h : k < l.length) : l.set k (nth l k) = l := by
  have e : nth l k = l[k] := by simp [nth, List.getD, h]
  rw [e]
  exact List.set_getElem_self h
theorem apply_out (d : List DiffD) : ∀ (l : List ResultD) (k : Nat) (s : List ResultD), k + l.length = s.length → forL (implApplyDiffs_f0 d) implApplyDiffs_e0 l k s = .brk (s.take k ++ (s.drop k).map (apD d))
  | [], k, s, h => by
    rw [List.length_nil, Nat.add_zero] at h
    subst h
    simp [forL, implApplyDiffs_e0]
  | a :: l, k, s, h => by
    rw [List.length_cons] at h
    have hk : k < s.length := by omega
    have h1 := apply_in s k hk d 0 (nth s k).2
    rw [show ((nth s k).1, (nth s k).2) = nth s k from rfl, set_nth hk] at h1
    simp only [forL, implApplyDiffs_f0, h1, Out.on]
    rw [apply_out d l (k + 1) _ (by rw [List.length_set]; omega)]
    congr 1
    have e : nth s k = s[k] := by simp [nth, List.getD, hk]
    have e1 : (s.set k ((nth s k).1, foldD (nth s k).1 d (nth s k).2)).take (k + 1) = s.take k ++ [apD d (nth s k)] := by
      rw [List.take_succ_eq_append_getElem (by rw [List.length_set]; exact hk), List.take_set, List.set_eq_of_length_le (by simp; omega)]
      simp [apD]
    have e2 : (s.set k ((nth s k).1, foldD (nth s k).1 d (nth s k).2)).drop (k + 1) = s.drop (k + 1) := by
      rw [List.drop_set, if_pos (by omega)]
    rw [e1, e2, List.drop_eq_getElem_cons hk, List.map_cons, ← e, List.append_assoc]
    rfl
theorem copyR (r : List ResultD) : implcopyResults r = r := by
  unfold implcopyResults
  rw [forL_map (f := implcopyResults_f0) (e := implcopyResults_e0) (g := id) (fun _ _ _ => rfl), List.map_id]
  rfl
theorem applyI (r : List ResultD) (d : List DiffD) : implApplyDiffs r d = r.map (apD d) := by
  unfold implApplyDiffs
  rw [copyR, apply_out d r 0 r (by omega)]
  simp [Out.on]
theorem applyS_in (a : ResultD) : ∀ (e : List DiffD) (j : Nat) (ids : List Int), forL (specApplyDiffs_f1 a) specApplyDiffs_e1 e j ids = .brk (foldD a.1 e ids)
  | [], j, ids => rfl
  | y :: e, j, ids => by
    simp only [forL, specApplyDiffs_f1, apply_eq]
    unfold foldD
    rw [List.foldl_cons]
    cases hc : (y.1.toList == a.1.toList) with
    | true => simp only [cond_true]; exact applyS_in a e (j + 1) _
    | false => simp only [cond_false]; exact applyS_in a e (j + 1) _
theorem applyS (r : List ResultD) (d : List DiffD) : specApplyDiffs r d = r.map (apD d) := by
  unfold specApplyDiffs
  rw [forL_map (f := specApplyDiffs_f0 d) (e := specApplyDiffs_e0) (g := apD d) (fun k a s => by
    unfold specApplyDiffs_f0
    rw [applyS_in]
    rfl)]
  rfl
theorem fold_none {nm : ByteArray} : ∀ (e : List DiffD) (ids : List Int), (∀ y, y ∈ e → y.1 ≠ nm) → foldD nm e ids = ids
  | [], ids, _ => rfl
  | y :: e, ids, h => by
    have h1 := h y List.mem_cons_self
    unfold foldD
    rw [List.foldl_cons, toList_inj, decide_eq_false h1]
    exact fold_none e ids fun z hz => h z (List.mem_cons_of_mem _ hz)
theorem fold_one {nm : ByteArray} : ∀ (e : List DiffD) (ids : List Int), (e.map (·.1)).Nodup → ∀ y, y ∈ e → y.1 = nm → foldD nm e ids = implreplayed ids y.2.1 y.2.2
  | [], ids, _, y, hy, _ => by simp at hy
  | z :: e, ids, hn, y, hy, he => by
    rw [List.map_cons, List.nodup_cons] at hn
    unfold foldD
    rw [List.foldl_cons, toList_inj]
    rcases List.mem_cons.1 hy with rfl | hy
    · rw [decide_eq_true he]
      exact fold_none e _ fun z hz hc => hn.1 (List.mem_map.2 ⟨z, hz, hc.trans he.symm⟩)
    · have hz : z.1 ≠ nm := fun hc => hn.1 (List.mem_map.2 ⟨y, hy, he.trans hc.symm⟩)
      rw [decide_eq_false hz]
      exact fold_one e ids hn.2 y hy he
/-! ### turned round -/
theorem copy17 (d : List DiffD) : specl17Copy d = d := by
  unfold specl17Copy
  rw [forL_map (f := specl17Copy_f0) (e := specl17Copy_e0) (g := id) (fun _ _ _ => rfl), List.map_id]
  rfl
theorem invS_go (d : List DiffD) : ∀ (n k : Nat) (s : List DiffD), k + n = d.length → forN (specInvertDiffs_f0 d) specInvertDiffs_e0 n k s = .brk (s ++ ((d.take n).map invD).reverse)
  | 0, k, s, _ => by simp [forN, specInvertDiffs_e0]
  | n + 1, k, s, h => by
    simp only [forN, specInvertDiffs_f0, copy17]
    rw [dn_eq, show Int.toNat ((d.length : Int) - 1 - (k : Int)) = n by omega, invS_go d n (k + 1) _ (by omega), List.take_succ_eq_append_getElem (show n < d.length by omega)]
    have e : nth d n = d[n] := by simp [nth, List.getD, show n < d.length by omega]
    rw [e, List.map_append, List.reverse_append, List.append_assoc]
    rfl
theorem invS (d : List DiffD) : specInvertDiffs d = (d.map invD).reverse := by
  unfold specInvertDiffs
  rw [copy17, invS_go d d.length 0 [] (by omega)]
  simp [Out.on]
/-! ### from one evaluation to another -/
theorem forN_all {R T : Type} {f : Nat → Unit → Rd R Unit T} {e : Nat → Unit → T} : ∀ (n k : Nat), (∀ j, k ≤ j → j < k + n → f j () = .next ()) → forN f e n k () = .brk (e (k + n) ())
  | 0, k, _ => rfl
  | n + 1, k, h => by
    simp only [forN, h k (Nat.le_refl _) (by omega)]
    rw [forN_all n (k + 1) fun j h1 h2 => h j (by omega) (by omega), show k + 1 + n = k + (n + 1) by omega]
theorem asc_rise {l : List Int} (h : l.Pairwise (· < ·)) : implisAscending l = true := by
  unfold implisAscending
  rw [forN_all (f := implisAscending_f0 l) (e := implisAscending_e0) (l.length - 1) 0 fun j _ hj => by
    have hj : j + 1 < l.length := by omega
    unfold implisAscending_f0
    have := List.pairwise_iff_getElem.1 h j (j + 1) (by omega) hj (by omega)
    rw [show Int.toNat (((j + 1 : Nat) : Int) - 1) = j by omega]
    have e1 : nth l j = l[j] := by simp [nth, List.getD, show j < l.length by omega]
    have e2 : nth l (j + 1) = l[j + 1] := by simp [nth, List.getD, hj]
    rw [e1, e2, decide_eq_false (show ¬ l[j] ≥ l[j + 1] by omega)]
    rfl]
  rfl
theorem back (A B : List Int) (hB : B.Pairwise (· < ·)) : implreplayed A (less B A) (less A B) = B := asc_ext _ _ (asc_replayed _ _ _) hB fun x => by
  rw [mem_replayed, mem_less, mem_less]
  constructor
  · rintro (⟨h1, _⟩ | ⟨h1, h2⟩)
    · exact h1
    · exact Decidable.byContradiction fun h3 => h2 ⟨h1, h3⟩
  · intro h1
    by_cases h2 : x ∈ A
    · exact .inr ⟨h2, fun h3 => h3.2 h1⟩
    · exact .inl ⟨h1, h2⟩
theorem pair_fold {d : List DirD} {a b : List ResultD} (ha : EvD d a) (hb : EvD d b) (hd : implIsValidDirs d = true) {x y : ResultD} (hx : x ∈ a) (hy : y ∈ b) (hn : x.1 = y.1) :
    foldD x.1 (implDiffResults a b) x.2 = y.2 ∧ foldD y.1 (implInvertDiffs (implDiffResults a b)) y.2 = x.2 := by
  have hna : (a.map (·.1)).Nodup := by rw [ha.names]; exact vdirs_nodup hd
  have hnb : (b.map (·.1)).Nodup := by rw [hb.names]; exact vdirs_nodup hd
  have hra : implResultIDs a y.1 = x.2 := by rw [← hn]; exact rids_of hna hx
  have hD : ((implDiffResults a b).map (·.1)).Nodup := by
    rw [diff_is, List.map_map]
    exact (List.Sublist.map _ List.filter_sublist).nodup hnb
  have hI : ((implInvertDiffs (implDiffResults a b)).map (·.1)).Nodup := by
    rw [invI, List.map_reverse, List.map_map]
    exact List.pairwise_reverse.2 (hD.imp fun h => h.symm)
  have la : ∀ z, z ∈ a → z.2.length ≤ 1000 := fun z hz => Nat.le_trans (ha.len z hz) (by decide)
  have lb : ∀ z, z ∈ b → z.2.length ≤ 1000 := fun z hz => Nat.le_trans (hb.len z hz) (by decide)
  cases hp : hasD a y with
  | true =>
    have hm : mkD a y ∈ implDiffResults a b := by rw [diff_is]; exact List.mem_map.2 ⟨y, List.mem_filter.2 ⟨hy, hp⟩, rfl⟩
    have hmi : invD (mkD a y) ∈ implInvertDiffs (implDiffResults a b) := by rw [invI]; exact List.mem_reverse.2 (List.mem_map.2 ⟨_, hm, rfl⟩)
    have q2 : foldD y.1 (implInvertDiffs (implDiffResults a b)) y.2 = implreplayed y.2 (invD (mkD a y)).2.1 (invD (mkD a y)).2.2 := fold_one _ _ hI (invD (mkD a y)) hmi rfl
    rw [fold_one _ _ hD (mkD a y) hm hn.symm, q2]
    show implreplayed x.2 (less y.2 (implResultIDs a y.1)) (less (implResultIDs a y.1) y.2) = y.2 ∧ implreplayed y.2 (less (implResultIDs a y.1) y.2) (less y.2 (implResultIDs a y.1)) = x.2
    rw [hra]
    exact ⟨back _ _ (hb.asc y hy), back _ _ (ha.asc x hx)⟩
  | false =>
    have hno : ∀ z, z ∈ implDiffResults a b → z.1 ≠ y.1 := fun z hz he => by
      rw [diff_is] at hz
      obtain ⟨u, hu, rfl⟩ := List.mem_map.1 hz
      obtain ⟨hu1, hu2⟩ := List.mem_filter.1 hu
      have he : u.1 = y.1 := he
      have e1 := rids_of hnb hu1
      have e2 := rids_of hnb hy
      rw [he, e2] at e1
      have : u = y := Prod.ext he e1.symm
      rw [this, hp] at hu2
      cases hu2
    have hni : ∀ z, z ∈ implInvertDiffs (implDiffResults a b) → z.1 ≠ y.1 := fun z hz he => by
      rw [invI] at hz
      obtain ⟨u, hu, rfl⟩ := List.mem_map.1 (List.mem_reverse.1 hz)
      exact hno u hu he
    rw [fold_none _ _ (fun z hz he => hno z hz (he.trans hn)), fold_none _ _ hni]
    rw [has_or (rids_small la y.1) (lb y hy)] at hp
    unfold implDiffIDs at hp
    dsimp only at hp
    rw [hra] at hp
    have h1 := of_decide_eq_false (or_l hp)
    have h2 := of_decide_eq_false (or_r hp)
    have e1 : less y.2 x.2 = [] := List.length_eq_zero_iff.1 (by omega)
    have e2 : less x.2 y.2 = [] := List.length_eq_zero_iff.1 (by omega)
    have e : x.2 = y.2 := asc_ext _ _ (ha.asc x hx) (hb.asc y hy) fun z => ⟨fun hz => Decidable.byContradiction fun hc => by
      have : z ∈ less x.2 y.2 := mem_less.2 ⟨hz, hc⟩
      rw [e2] at this; simp at this, fun hz => Decidable.byContradiction fun hc => by
      have : z ∈ less y.2 x.2 := mem_less.2 ⟨hz, hc⟩
      rw [e1] at this; simp at this⟩
    exact ⟨e, e.symm⟩
theorem pair_map {d : List DirD} {a b : List ResultD} (ha : EvD d a) (hb : EvD d b) {e : List DiffD} (h : ∀ x y, x ∈ a → y ∈ b → x.1 = y.1 → foldD x.1 e x.2 = y.2) : a.map (apD e) = b := by
  have hl : a.length = b.length := by
    have h1 := congrArg List.length ha.names
    have h2 := congrArg List.length hb.names
    simp only [List.length_map] at h1 h2
    omega
  refine List.ext_getElem (by simpa using hl) fun i h1 h2 => ?_
  rw [List.length_map] at h1
  have hn : a[i].1 = b[i].1 := by
    have := congrArg (fun l => l[i]?) (ha.names.trans hb.names.symm)
    simpa [h1, h2] using this
  rw [List.getElem_map]
  exact Prod.ext hn (h _ _ (List.getElem_mem h1) (List.getElem_mem h2) hn)
theorem sameDiffs_self (l : List DiffD) : lawssameDiffs l l = true := by
  unfold lawssameDiffs
  rw [forL_of_all l 0 (fun i a hi => by
    unfold lawssameDiffs_f0 lawssameDiff
    rw [Nat.zero_add, nth_of hi, sameInts_self, sameInts_self]
    simp)]
  simp [Out.on]
theorem sameResults_self (l : List ResultD) : lawssameResults l l = true := by
  unfold lawssameResults
  rw [forL_of_all l 0 (fun i a hi => by
    unfold lawssameResults_f0 lawssameResult
    rw [Nat.zero_add, nth_of hi, sameInts_self]
    simp)]
  simp [Out.on]
theorem eval_small (s : StoreD) (d : List DirD) : ∀ x, x ∈ (implEvaluate s d).1 → x.2.length ≤ 1000 ∧ x.2.Pairwise (· < ·) := by
  cases h : (implEvaluate s d).2 with
  | false => rw [evaluate_no h]; intro x hx; simp at hx
  | true => intro x hx; exact ⟨Nat.le_trans ((eval_facts h).1.len x hx) (by decide), (eval_facts h).1.asc x hx⟩
theorem rids_asc {r : List ResultD} (h : ∀ x, x ∈ r → x.2.Pairwise (· < ·)) (nm : ByteArray) : (implResultIDs r nm).Pairwise (· < ·) := by
  unfold implResultIDs
  rcases rids_mem nm r 0 with h1 | ⟨x, hx, h1⟩
  · rw [h1]; exact List.Pairwise.nil
  · rw [h1]; exact h x hx
theorem valid_diff (s t : StoreD) (d : List DirD) : ∀ y, y ∈ implDiffResults (implEvaluate s d).1 (implEvaluate t d).1 → implIsValidDiff y = true := fun y hy => by
  rw [diff_is] at hy
  obtain ⟨x, hx, rfl⟩ := List.mem_map.1 hy
  obtain ⟨hx1, hx2⟩ := List.mem_filter.1 hx
  have ht : (implEvaluate t d).2 = true := by
    cases ht : (implEvaluate t d).2 with
    | true => rfl
    | false => rw [evaluate_no ht] at hx1; simp at hx1
  obtain ⟨hb, hd⟩ := eval_facts ht
  have hname : implIsValidString x.1 = true := by
    have : x.1 ∈ d.map (·.1) := by rw [← hb.names]; exact List.mem_map.2 ⟨x, hx1, rfl⟩
    obtain ⟨u, hu, e⟩ := List.mem_map.1 this
    rw [← e]; exact vdir_name hd hu
  have h1 := rids_asc (fun z hz => (eval_small s d z hz).2) x.1
  have h2 := (eval_small t d x hx1).2
  have hl : less (less x.2 (implResultIDs (implEvaluate s d).1 x.1)) (less (implResultIDs (implEvaluate s d).1 x.1) x.2) = less x.2 (implResultIDs (implEvaluate s d).1 x.1) := List.filter_eq_self.2 fun z hz => by
    have hz1 := (mem_less.1 hz).1
    have : ¬ z ∈ less (implResultIDs (implEvaluate s d).1 x.1) x.2 := fun hc => (mem_less.1 hc).2 hz1
    simpa using this
  unfold implIsValidDiff
  show (implIsValidString x.1 && (implisAscending (less x.2 (implResultIDs (implEvaluate s d).1 x.1)) && (implisAscending (less (implResultIDs (implEvaluate s d).1 x.1) x.2) && ((((less (less x.2 (implResultIDs (implEvaluate s d).1 x.1)) (less (implResultIDs (implEvaluate s d).1 x.1) x.2)).length : Int) == ((less x.2 (implResultIDs (implEvaluate s d).1 x.1)).length : Int)) && hasD (implEvaluate s d).1 x)))) = true
  have a1 : implisAscending (less x.2 (implResultIDs (implEvaluate s d).1 x.1)) = true := asc_rise (h2.filter _)
  have a2 : implisAscending (less (implResultIDs (implEvaluate s d).1 x.1) x.2) = true := asc_rise (h1.filter _)
  rw [hname, a1, a2, hl, hx2]
  simp
theorem drawDiff_small (code : List UInt8) : (∀ x, x ∈ (specDrawDiffResults code).1 → x.2.length ≤ 1000) ∧ ∀ x, x ∈ (specDrawDiffResults code).2 → x.2.length ≤ 1000 := ⟨ans_small code _ _, ans_small code _ _⟩
theorem lawsFnDiffApply_true (code : List UInt8) : lawsFnDiffApply code = true := by
  unfold lawsFnDiffApply
  cases lawsbig code with
  | true => rfl
  | false =>
    simp only [cond_false]
    have hs := drawDiff_small code
    generalize specDrawDiffResults code = q at hs ⊢
    generalize specDrawEvaluate code = z
    generalize specDrawApplyDiffs code = r
    generalize specDrawInvertDiffs code = v
    generalize lawssampleStore _ = t
    have e1 := diffR_eq (a := (implEvaluate z.1 z.2).1) (b := (implEvaluate t z.2).1) (fun x hx => (eval_small _ _ x hx).1) (fun x hx => (eval_small _ _ x hx).1)
    have e2 := diffR_eq (a := q.1) (b := q.2) hs.1 hs.2
    have e3 : specApplyDiffs r.1 r.2 = implApplyDiffs r.1 r.2 := by rw [applyI, applyS]
    have e4 : specInvertDiffs v = implInvertDiffs v := by rw [invI, invS]
    simp only [evaluate_eq, e1, e2, e3, e4, sameDiffs_self, sameResults_self, Bool.not_true, Bool.or_self, cond_false]
    rw [forL_of_all (f := lawsFnDiffApply_f0) (e := lawsFnDiffApply_e0) _ 0 (fun i y hy => by
      unfold lawsFnDiffApply_f0
      rw [valid_diff z.1 t z.2 y (List.mem_of_getElem? hy)]
      rfl)]
    simp only [Out.on]
    cases ha : (implEvaluate z.1 z.2).2 with
    | false => rfl
    | true =>
      cases hb : (implEvaluate t z.2).2 with
      | false => rfl
      | true =>
        obtain ⟨fa, hd⟩ := eval_facts ha
        obtain ⟨fb, _⟩ := eval_facts hb
        rw [applyI, applyI, pair_map fa fb fun x y hx hy hn => (pair_fold fa fb hd hx hy hn).1, pair_map fb fa fun y x hy hx hn => (pair_fold fa fb hd hx hy hn.symm).2]
        simp only [sameResults_self]
        rfl
end Go.Proofs.YtcnkkobgogmakaaGreat
namespace Go.Proofs.YtcnkkobgogmakaaGreat
open Go.RowKit
open GoD (rd own)
set_option maxRecDepth 1000000 in
theorem bigDiffApply (w : World) (v : Value) (a : List UInt8) (h : rd w [v] a) (hbig : ¬ a.length ≤ 1048576) : Calls Tryz.prog 7 #[v] w (Ret w (.bool true)) := by
  obtain ⟨oa, cap, rfl⟩ := slice_of_rd h
  have hln := len_of_rd h
  clear h
  have hbi : 1048576 < (a.length : Int) := by omega
  go_enter Tryz.func7, Tryz.ntmps7
  go_wp2_with (first | (go_at_call 8; go_in))
  go_ret
  exact ⟨rfl, by go_grown⟩
theorem lawDiffApply (w : World) (v : Value) (a : List UInt8) (h : rd w [v] a) : Calls Tryz.prog 7 #[v] w (Ret w (.bool true)) := by
  by_cases hbig : a.length ≤ 1048576
  · haveI : Good Tryz.prog w := Good.none (by kernel_rfl) w
    have hc := (lawsFnDiffApply_a a).run (.cons (arg_sli h ⟨by omega, fun _ _ => trivial⟩) .nil)
    rw [lawsFnDiffApply_true] at hc
    exact hc.mono fun _ _ h => ret_bool h
  · exact bigDiffApply w v a h hbig
end Go.Proofs.YtcnkkobgogmakaaGreat
