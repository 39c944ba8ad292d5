/- Texts of this proof, put together by a program: Rca, LRc, Rcl, MRc. -/
import Derived.Test.YtcnkkobgogmakaaGreatP5
import Derived.KernelRfl
import Derived.Outline
set_option linter.unusedVariables false
set_option linter.unusedSimpArgs false
namespace Go.Proofs.YtcnkkobgogmakaaGreat
open Go.RowKit
open GoE (enc wide)
def implDirContents (s_ : StoreD) (d : (List DirD)) (name : ByteArray) : (List Int) := (implResultIDs (((implEvaluate s_ d)).1) name)
theorem implDirContents_a (s_ : StoreD) (d : (List DirD)) (name : ByteArray) : ACalls Tryz.prog 15 [.a [.h s_.1, .h s_.2.1, .i s_.2.2], .h d, .s name] (.o 0 (implDirContents s_ d name)) := by
 refine en tt_ok Tryz.func15 fun w0 F0 hG => ?_
 refine sn tt_ok [1, 2, 3, 6] [3] (p0) ?_
 refine tn tt_ok [2, 6, 7] [] (pc 2 (implEvaluate_a s_ d) p0) ?_
 refine tu tt_ok [(6, .o 1088 (implResultIDs (((implEvaluate s_ d)).1) name))] [0, 1, 2] [] [] (pc 2 (implResultIDs_a (((implEvaluate s_ d)).1) name) p0) ?_
 refine awp_ret ?_
 exact po0 [] (show implDirContents s_ d name = (implResultIDs (((implEvaluate s_ d)).1) name) from rfl)
def specDirContents (s_ : StoreD) (d : (List DirD)) (name : ByteArray) : (List Int) := (specResultIDs (((specEvaluate s_ d)).1) name)
theorem specDirContents_a (s_ : StoreD) (d : (List DirD)) (name : ByteArray) : ACalls Tryz.prog 17 [.a [.h s_.1, .h s_.2.1, .i s_.2.2], .h d, .s name] (.o 0 (specDirContents s_ d name)) := by
 refine en tt_ok Tryz.func17 fun w0 F0 hG => ?_
 refine sn tt_ok [1, 2, 3, 6] [3] (p0) ?_
 refine tn tt_ok [2, 6, 7] [] (pc 2 (specEvaluate_a s_ d) p0) ?_
 refine tu tt_ok [(6, .o 1088 (specResultIDs (((specEvaluate s_ d)).1) name))] [0, 1, 2] [] [] (pc 2 (specResultIDs_a (((specEvaluate s_ d)).1) name) p0) ?_
 refine awp_ret ?_
 exact po0 [] (show specDirContents s_ d name = (specResultIDs (((specEvaluate s_ d)).1) name) from rfl)
def specSetAttr_f0 (name : ByteArray) (_ : Nat) (a0 : AttrD) (s0 : (List AttrD)) : Rd (FileD) ((List AttrD)) ((List AttrD)) := (bif (!(a0.1.toList == name.toList)) then (.next (s0 ++ [a0])) else (.next s0))
def specSetAttr_e0 (_ : Nat) (s0 : (List AttrD)) : (List AttrD) := s0
def specSetAttr_f1 (name : ByteArray) (k1 : Nat) (a1 : AttrD) (_ : Unit) : Rd (FileD) (Unit) (Int) := (bif (Op.bytesLess a1.1.toList name.toList || a1.1.toList == name.toList) then (.next ()) else (.brk ((k1 : Nat) : Int)))
def specSetAttr_e1 (k1 : Nat) (_ : Unit) : Int := ((k1 : Nat) : Int)
def specSetAttr (f : FileD) (name : ByteArray) (v : ValueD) : FileD := (Out.on (forL (specSetAttr_f0 name) specSetAttr_e0 f.2.2.2.2 0 []) (fun y0 => (bif (v.1 != (0 : Int)) then (Out.on (forL (specSetAttr_f1 name) specSetAttr_e1 y0 0 ()) (fun y1 => (f.1, f.2.1, f.2.2.1, f.2.2.2.1, List.take (Int.toNat y1) y0 ++ [(name, v)] ++ (List.drop (Int.toNat y1) y0)))) else (f.1, f.2.1, f.2.2.1, f.2.2.2.1, y0))))
theorem specSetAttr_a (f : FileD) (name : ByteArray) (v : ValueD) (hp : List.length f.2.2.2.2 ≤ 1073741000) : ACalls Tryz.prog 13 [.a [.i f.1, .i f.2.1, .b f.2.2.1, .i f.2.2.2.1, .h f.2.2.2.2], .s name, .a [.i v.1, .i v.2.1, .s v.2.2]] (.a [.i ((specSetAttr f name v).1), .i ((specSetAttr f name v).2.1), .b ((specSetAttr f name v).2.2.1), .i ((specSetAttr f name v).2.2.2.1), .o 0 ((specSetAttr f name v).2.2.2.2)]) := by
 refine en tt_ok Tryz.func13 fun w0 F0 hG => ?_
 refine sn tt_ok [1, 3, 5, 6] [3, 5, 6] (p0) ?_
 refine tn tt_ok [1, 3, 5, 6, 7] [3, 5, 6] (p0) ?_
 refine awp_seq ?_
 refine tu tt_ok [(3, .p 3 0), (5, .p 5 0), (6, .p 6 0), (7, .one (.slc (.own true 704) 4 [])), (8, .i 0)] [0, 2] [(3, [.i f.1, .i f.2.1, .b f.2.2.1, .i f.2.2.2.1, .h f.2.2.2.2]), (5, [.i v.1, .i v.2.1, .s v.2.2]), (6, [.i 0, .i 0, .b false, .i 0, .e 4])] [] (p0) ?_
 refine wB 3 4 .sh f.2.2.2.2 (fun hw1 hl2 => ?_)
 refine blL3 (specSetAttr_f0 name) specSetAttr_e0 f.2.2.2.2 [] (fun k0 s0 => [(7, .o 147204 s0), (8, .i ((k0 : Nat) : Int))]) [7, 8] (fun y0 => [(7, .o 147354 y0)]) [7, 8] (fun k0 s0 => List.length s0 ≤ k0) (fun y0 => List.length y0 ≤ List.length f.2.2.2.2) (weak_sf [(704, 147204)] (by kernel_rfl)) (by simp) (fun k0 s0 hk0 hI0 => ?_) (fun k0 s0 hk0 hI0 => ?_) (fun y0 hD0 => ?_)
 ·
  have hA0_0 := hI0.2
  obtain ⟨a0, hx0⟩ := get_some (l := f.2.2.2.2) (i := k0) hk0
  refine awp_seq ?_
  refine su tt_ok [(16, .b true)] [] [] [] (pl 3 f.2.2.2.2 (pe 4 (av_bool (decide_eq_true (p := ((k0 : Nat) : Int) < (f.2.2.2.2.length : Int)) (by omega))) p0)) ?_
  refine ckT ?_
  refine awp_skip ?_
  refine awp_seq ?_
  refine awp_block ?_
  refine sn tt_ok [1, 3, 5, 6, 7, 8, 26] [3, 5, 6] (pn 3 hx0 p0) ?_
  refine ck (!(a0.1.toList == name.toList)) (fun h3 => ?_) (fun h3 => ?_)
  ·
   refine wT 7 0 (.own true 147204) s0 (fun hw4 hl5 => ?_)
   refine qu tt_ok [(7, .one (.slc (.own true 2176) 4 ((eL s0) ++ [[.s a0.1, .i a0.2.1, .i a0.2.2.1, .s a0.2.2.2]])))] [7, 16] [] [] (pn 4 hx0 (pa s0 [a0] p0)) ?_
   refine eqn [(7, .o 2176 (s0 ++ [a0]))] [7] [] [] (by rw [show ((eL s0) ++ [[.s a0.1, .i a0.2.1, .i a0.2.2.1, .s a0.2.2.2]]) = (eL (s0 ++ [a0])) from app_eL (rfl) (rfl)]; first | done | kernel_rfl) ?_
   refine rn tt_ok [1, 3, 5, 6, 7, 8] [3, 5, 6] (pe 1 (av_i (wrap_succ k0 (by omega))) p0) ?_
   exact Exists.intro (s0 ++ [a0]) (And.intro (weak_sf [(2176, 147204)] (by kernel_rfl)) ⟨forL_next hx0 (bif_t h3 (rfl)) hI0.1, by first | omega | (simp; omega) | simp⟩)
  ·
   refine awp_skip ?_
   refine qn tt_ok [1, 3, 5, 6, 7, 8] [3, 5, 6] (pe 1 (av_i (wrap_succ k0 (by omega))) p0) ?_
   exact Exists.intro s0 (And.intro (weak_fit (by kernel_rfl)) ⟨forL_next hx0 (bif_f h3 (rfl)) hI0.1, by first | omega | (simp; omega) | simp⟩)
 ·
  have hA0_0 := hI0.2
  refine awp_seq ?_
  refine su tt_ok [(16, .b false)] [] [] [] (pl 3 f.2.2.2.2 (pe 4 (av_bool (decide_eq_false (p := ((k0 : Nat) : Int) < (f.2.2.2.2.length : Int)) (by omega))) p0)) ?_
  refine ckF ?_
  refine awp_exit ?_
  exact Exists.intro s0 (And.intro (weak_sf [(147204, 147354)] (by kernel_rfl)) ⟨forL_end hk0 (rfl) hI0.1, by first | omega | (simp only [List.length_set]; omega)⟩)
 ·
  have hD0_0 := hD0.2
  refine awp_seq ?_
  refine sn tt_ok [1, 3, 5, 6, 7, 37] [3, 5, 6] (p0) ?_
  refine ck (v.1 != (0 : Int)) (fun h6 => ?_) (fun h6 => ?_)
  ·
   have h6d := ne_of_bne h6
   refine tu tt_ok [(9, .i 0)] [] [] [] (p0) ?_
   refine awp_seq ?_
   refine wT 7 0 (.own true 147354) y0 (fun hw7 hl8 => ?_)
   refine blL2 (specSetAttr_f1 name) specSetAttr_e1 y0 () (fun k1 _ => [(9, .i ((k1 : Nat) : Int))]) [9] (fun y1 => [(9, .i y1)]) [9] (fun y1 => 0 ≤ y1 ∧ y1 ≤ (y0.length : Int)) (weak_fit (by kernel_rfl)) (fun k1 s1 hk1 hI1 => ?_) (fun k1 s1 hk1 hI1 => ?_) (fun y1 hD1 => ?_)
   ·
    obtain ⟨a1, hx1⟩ := get_some (l := y0) (i := k1) hk1
    refine awp_seq ?_
    refine sn tt_ok [1, 3, 5, 6, 7, 9, 50] [3, 5, 6] (pl 2 y0 (pe 3 (av_bool (decide_eq_true (p := ((k1 : Nat) : Int) < (y0.length : Int)) (by omega))) (pN 7 hx1 p0))) ?_
    refine ck (Op.bytesLess a1.1.toList name.toList || a1.1.toList == name.toList) (fun h9 => ?_) (fun h9 => ?_)
    ·
     refine awp_skip ?_
     refine awp_block ?_
     refine qn tt_ok [1, 3, 5, 6, 7, 9] [3, 5, 6] (pe 1 (av_i (wrap_succ k1 (by omega))) p0) ?_
     exact Exists.intro _ (And.intro (weak_fit (by kernel_rfl)) (forL_next hx1 (bif_t h9 (rfl)) hI1))
    ·
     refine awp_exit ?_
     exact Exists.intro ((k1 : Nat) : Int) (And.intro (weak_fit (by kernel_rfl)) ⟨forL_brk hx1 (bif_f h9 (rfl)) hI1, by first | omega | (simp only [List.length_set]; omega)⟩)
   ·
    refine awp_seq ?_
    refine su tt_ok [(50, .b false)] [] [] [] (pl 2 y0 (pe 3 (av_bool (decide_eq_false (p := ((k1 : Nat) : Int) < (y0.length : Int)) (by omega))) p0)) ?_
    refine ckF ?_
    refine awp_exit ?_
    exact Exists.intro ((k1 : Nat) : Int) (And.intro (weak_fit (by kernel_rfl)) ⟨forL_end hk1 (rfl) hI1, by first | omega | (simp only [List.length_set]; omega)⟩)
   ·
    have hD1_0 := hD1.2
    have hl10 : List.length (List.take (Int.toNat y1) y0) ≤ 1073741824 := wide_len (wide_take (Int.toNat y1) (hw7))
    refine sU tt_ok tt_mx [(10, .one (.slc (.own true 3968) 4 (([] ++ (eL (List.take (Int.toNat y1) y0))) ++ [[.s name, .i v.1, .i v.2.1, .s v.2.2]])))] [1, 5] [] [5] (pe 3 (av_take (.vw 147354) 4 (Int.toNat y1) y1 y0 rfl) (px (ob_rng (lo := 0) (hi := y1) (n := (List.length (eL y0))) (rng_of (by omega) (by omega) (by omega))) (po 4 (.flat) (px (ob_len (n := (([] : List (List PV)).length + ((eL (List.take (Int.toNat y1) y0)) : List (List PV)).length)) (len_of (rfl) (eL_length (List.take (Int.toNat y1) y0)) (by first | omega | (simp only [List.length_cons, List.length_nil]; omega) | (simp; omega) | simp))) (px (ob_flat (flat_eL (List.take (Int.toNat y1) y0))) (px (ob_len (n := ((([] ++ (eL (List.take (Int.toNat y1) y0))) : List (List PV)).length + ([[.s name, .i v.1, .i v.2.1, .s v.2.2]] : List (List PV)).length)) (by simp [eL_length]; omega)) p0)))))) ?_
    refine eqn [(10, .o 3968 (List.take (Int.toNat y1) y0 ++ [(name, v)]))] [10] [] [] (by rw [show (([] ++ (eL (List.take (Int.toNat y1) y0))) ++ [[.s name, .i v.1, .i v.2.1, .s v.2.2]]) = (eL (List.take (Int.toNat y1) y0 ++ [(name, v)])) from app_eL (rfl) (rfl)]; first | done | kernel_rfl) ?_
    refine wT 10 0 (.own true 3968) (List.take (Int.toNat y1) y0 ++ [(name, v)]) (fun hw11 hl12 => ?_)
    have hl13 : List.length (List.drop (Int.toNat y1) y0) ≤ 1073741824 := wide_len (wide_drop (Int.toNat y1) (hw7))
    refine ru tt_ok [(7, .one (.slc (.own true 4288) 4 ((eL (List.take (Int.toNat y1) y0 ++ [(name, v)])) ++ (eL (List.drop (Int.toNat y1) y0)))))] [7, 9, 10] [] [] (pe 3 (av_drop (.vw 147354) 4 (Int.toNat y1) y1 y0 rfl) (px (ob_rng (lo := y1) (hi := (((eL y0) : List (List PV)).length : Int)) (n := (List.length (eL y0))) (rng_all (by omega) (by omega))) (po 4 (.flat) (pa (List.take (Int.toNat y1) y0 ++ [(name, v)]) (List.drop (Int.toNat y1) y0) (px (ob_flat (flat_eL (List.drop (Int.toNat y1) y0))) p0))))) ?_
    refine eqn [(7, .o 4288 (List.take (Int.toNat y1) y0 ++ [(name, v)] ++ (List.drop (Int.toNat y1) y0)))] [7] [] [] (by rw [show ((eL (List.take (Int.toNat y1) y0 ++ [(name, v)])) ++ (eL (List.drop (Int.toNat y1) y0))) = (eL (List.take (Int.toNat y1) y0 ++ [(name, v)] ++ (List.drop (Int.toNat y1) y0))) from app_eL (rfl) (rfl)]; first | done | kernel_rfl) ?_
    refine sn tt_ok [3, 6] [3, 6] (p0) ?_
    refine tn tt_ok [6] [6] (p0) ?_
    refine awp_ret ?_
    exact pz [] (show specSetAttr f name v = _ from on_b hD0.1 (bif_t h6 (on_b hD1.1 (rfl)))) (fun z => .a [.i z.1, .i z.2.1, .b z.2.2.1, .i z.2.2.2.1, .o 0 z.2.2.2.2])
  ·
   refine awp_skip ?_
   refine tn tt_ok [3, 6] [3, 6] (p0) ?_
   refine tu tt_ok [] [1, 3, 5, 7] [(6, [.i f.1, .i f.2.1, .b f.2.2.1, .i f.2.2.2.1, .o 147354 y0])] [3, 5, 6] (p0) ?_
   refine awp_ret ?_
   exact pz [] (show specSetAttr f name v = _ from on_b hD0.1 (bif_f h6 (rfl))) (fun z => .a [.i z.1, .i z.2.1, .b z.2.2.1, .i z.2.2.2.1, .o 0 z.2.2.2.2])
def specIntValue (n : Int) : ValueD := (1, n, ⟨#[]⟩)
theorem specIntValue_a (n : Int) : ACalls Tryz.prog 10 [.i n] (.a [.i ((specIntValue n).1), .i ((specIntValue n).2.1), .s ((specIntValue n).2.2)]) := by
 refine en tt_ok Tryz.func10 fun w0 F0 hG => ?_
 refine sn tt_ok [0, 2] [2] (p0) ?_
 refine tn tt_ok [2] [2] (p0) ?_
 refine awp_ret ?_
 exact pz [] (show specIntValue n = (1, n, ⟨#[]⟩) from rfl) (fun z => .a [.i z.1, .i z.2.1, .s z.2.2])
open GoE (enc wide)
def lawsbig (code : (List UInt8)) : Bool := decide ((code.length : Int) > (1048576 : Int))
theorem lawsbig_a (code : (List UInt8)) : ACalls Tryz.prog 8 [.h code] (.b (lawsbig code)) := by
 refine en tt_ok Tryz.func8 fun w0 F0 hG => ?_
 refine sn tt_ok [0, 2] [] (p0) ?_
 refine tn tt_ok [2] [] (pl 1 code p0) ?_
 refine awp_ret ?_
 exact pb [] (show lawsbig code = decide ((code.length : Int) > (1048576 : Int)) from rfl)
def lawssameInts_f0 (b : (List Int)) (k0 : Nat) (a0 : Int) (_ : Unit) : Rd (Bool) (Unit) (Unit) := (bif (a0 != (nth b k0)) then (.ret false) else (.next ()))
def lawssameInts_e0 (_ : Nat) (_ : Unit) : Unit := ()
def lawssameInts (a_ : (List Int)) (b : (List Int)) : Bool := (bif ((a_.length : Int) != (b.length : Int)) then false else (Out.on (forL (lawssameInts_f0 b) lawssameInts_e0 a_ 0 ()) (fun _ => true)))
theorem lawssameInts_a (a_ : (List Int)) (b : (List Int)) : ACalls Tryz.prog 16 [.h a_, .h b] (.b (lawssameInts a_ b)) := by
 refine en tt_ok Tryz.func16 fun w0 F0 hG => ?_
 refine sn tt_ok [0, 1, 4] [] (p0) ?_
 refine awp_seq ?_
 refine tn tt_ok [0, 1, 4, 10] [] (pl 1 a_ (pl 3 b p0)) ?_
 refine ck ((a_.length : Int) != (b.length : Int)) (fun h1 => ?_) (fun h1 => ?_)
 ·
  refine tu tt_ok [(4, .b false)] [] [] [] (p0) ?_
  refine awp_ret ?_
  exact pb [] (bif_t h1 (rfl))
 ·
  have h1d := eq_of_bne h1
  refine awp_skip ?_
  refine awp_seq ?_
  refine tu tt_ok [(4, .b false), (5, .i 0)] [] [] [] (p0) ?_
  refine wT 0 0 .sh a_ (fun hw2 hl3 => ?_)
  refine blL0 (lawssameInts_f0 b) lawssameInts_e0 a_ () (fun k0 _ => [(5, .i ((k0 : Nat) : Int))]) [5] (fun _ => []) [0, 1, 5] (weak_fit (by kernel_rfl)) (fun k0 s0 hk0 hI0 => ?_) (fun k0 s0 hk0 hI0 => ?_) (fun y0 hD0 => ?_)
  ·
   obtain ⟨a0, hx0⟩ := get_some (l := a_) (i := k0) hk0
   refine awp_seq ?_
   refine sn tt_ok [0, 1, 4, 5, 14] [] (pl 2 a_ (pe 3 (av_bool (decide_eq_true (p := ((k0 : Nat) : Int) < (a_.length : Int)) (by omega))) p0)) ?_
   refine ckT ?_
   refine awp_skip ?_
   refine awp_seq ?_
   refine awp_block ?_
   refine wT 1 0 .sh b (fun hw5 hl6 => ?_)
   have hx4 := ng b k0
   refine tN tt_ok tt_mx [0, 1, 4, 5, 25] [] (pn 2 hx0 (pn 6 hx4 p0)) ?_
   refine ck (a0 != (nth b k0)) (fun h7 => ?_) (fun h7 => ?_)
   ·
    refine tu tt_ok [] [] [] [] (p0) ?_
    refine awp_ret ?_
    have hr8 : (forL (lawssameInts_f0 b) lawssameInts_e0 a_ 0 ()) = .ret false := forL_ret hx0 (bif_t h7 (rfl)) hI0
    exact pb [] (bif_f h1 (on_r hr8))
   ·
    have h7d := eq_of_bne h7
    refine awp_skip ?_
    refine qu tt_ok [(5, .i ((k0 + 1 : Nat) : Int))] [5] [] [] (pe 1 (av_i (wrap_succ k0 (by omega))) p0) ?_
    exact Exists.intro _ (And.intro (weak_fit (by kernel_rfl)) (forL_next hx0 (bif_f h7 (rfl)) hI0))
  ·
   refine awp_seq ?_
   refine sn tt_ok [0, 1, 4, 5, 14] [] (pl 2 a_ (pe 3 (av_bool (decide_eq_false (p := ((k0 : Nat) : Int) < (a_.length : Int)) (by omega))) p0)) ?_
   refine ckF ?_
   refine awp_exit ?_
   exact Exists.intro _ (And.intro (weak_fit (by kernel_rfl)) (forL_end hk0 (rfl) hI0))
  ·
   refine sn tt_ok [4] [] (p0) ?_
   refine awp_ret ?_
   exact pb [] (bif_f h1 (on_b hD0 (rfl)))
def lawsfileOf (s_ : StoreD) (id : Int) : FileD := (((specFindFile s_ id)).1)
theorem lawsfileOf_a (s_ : StoreD) (id : Int) : ACalls Tryz.prog 19 [.a [.h s_.1, .h s_.2.1, .i s_.2.2], .i id] (.a [.i ((lawsfileOf s_ id).1), .i ((lawsfileOf s_ id).2.1), .b ((lawsfileOf s_ id).2.2.1), .i ((lawsfileOf s_ id).2.2.2.1), .o 0 ((lawsfileOf s_ id).2.2.2.2)]) := by
 refine en tt_ok Tryz.func19 fun w0 F0 hG => ?_
 refine sn tt_ok [1, 2, 4] [2, 4] (p0) ?_
 refine tn tt_ok [4, 5] [4, 5] (pc 2 (specFindFile_a s_ id) p0) ?_
 refine tu tt_ok [(4, .p 4 0)] [0, 1] [(4, [.i ((((specFindFile s_ id)).1).1), .i ((((specFindFile s_ id)).1).2.1), .b ((((specFindFile s_ id)).1).2.2.1), .i ((((specFindFile s_ id)).1).2.2.2.1), .o 640 ((((specFindFile s_ id)).1).2.2.2.2)])] [] (p0) ?_
 refine awp_ret ?_
 exact pz [] (show lawsfileOf s_ id = (((specFindFile s_ id)).1) from rfl) (fun z => .a [.i z.1, .i z.2.1, .b z.2.2.1, .i z.2.2.2.1, .o 0 z.2.2.2.2])
def lawsFnRecursion_f0 (code : (List UInt8)) (k0 : Nat) (s0 : StoreD) : Rd (Bool) (StoreD) (StoreD) := (bif (((k0 : Nat) : Int) == Int.tmod (nth (specDrawPlaces code) 6) 6) then (.next (((specCreateFile s0 (specSetAttr (0, 0, false, Int.tmod (nth (specDrawPlaces code) k0) 7, []) ⟨#[97]⟩ (specIntValue 1)))).1)) else (.next (((specCreateFile s0 (0, 0, false, Int.tmod (nth (specDrawPlaces code) k0) 7, []))).1)))
def lawsFnRecursion_e0 (_ : Nat) (s0 : StoreD) : StoreD := s0
def lawsFnRecursion_f2 (y0 : StoreD) (_ : Nat) (s2 : Bool × FileD) : Rd (Rd (Bool) (Unit) (Unit)) (Bool × FileD) (Bool) := (.next ((s2.1 || (((specGetAttr s2.2 ⟨#[97]⟩).1 == (specIntValue 1).1) && (((specGetAttr s2.2 ⟨#[97]⟩).2.1 == (specIntValue 1).2.1) && ((((specGetAttr s2.2 ⟨#[97]⟩).2.2).toList == ((specIntValue 1).2.2).toList) && true)))), (lawsfileOf y0 s2.2.2.2.2.1)))
def lawsFnRecursion_e2 (_ : Nat) (s2 : Bool × FileD) : Bool := s2.1
def lawsFnRecursion_f1 (y0 : StoreD) (_ : Nat) (a1 : FileD) (_ : Unit) : Rd (Bool) (Unit) (Unit) := (Out.on (forN (lawsFnRecursion_f2 y0) lawsFnRecursion_e2 (Int.toNat (8 : Int)) 0 (false, a1)) (fun y2 => (bif (!((implContainsID (implDirContents y0 [((⟨#[100, 97]⟩, [((3, 0, 0, ⟨#[97]⟩, (specIntValue 1)) : NodeD), ((9, 0, 0, ⟨#[100, 97]⟩, (0, 0, ⟨#[]⟩)) : NodeD), ((7, 0, 1, ⟨#[]⟩, (0, 0, ⟨#[]⟩)) : NodeD)]) : DirD)] ⟨#[100, 97]⟩) a1.1) == y2)) then (.ret false) else (.next ()))))
def lawsFnRecursion_e1 (_ : Nat) (_ : Unit) : Unit := ()
def lawsFnRecursion (code : (List UInt8)) : Bool := (bif (lawsbig code) then true else (Out.on (forN (lawsFnRecursion_f0 code) lawsFnRecursion_e0 (Int.toNat (6 : Int)) 0 (specNewStore specDefaultSchema)) (fun y0 => (bif (!(lawssameInts (implDirContents y0 [((⟨#[100, 97]⟩, [((3, 0, 0, ⟨#[97]⟩, (specIntValue 1)) : NodeD), ((9, 0, 0, ⟨#[100, 97]⟩, (0, 0, ⟨#[]⟩)) : NodeD), ((7, 0, 1, ⟨#[]⟩, (0, 0, ⟨#[]⟩)) : NodeD)]) : DirD)] ⟨#[100, 97]⟩) (specDirContents y0 [((⟨#[100, 97]⟩, [((3, 0, 0, ⟨#[97]⟩, (specIntValue 1)) : NodeD), ((9, 0, 0, ⟨#[100, 97]⟩, (0, 0, ⟨#[]⟩)) : NodeD), ((7, 0, 1, ⟨#[]⟩, (0, 0, ⟨#[]⟩)) : NodeD)]) : DirD)] ⟨#[100, 97]⟩))) then false else (Out.on (forL (lawsFnRecursion_f1 y0) lawsFnRecursion_e1 y0.2.1 0 ()) (fun _ => true))))))
theorem lawsFnRecursion_a (code : (List UInt8)) : ACalls Tryz.prog 3 [.h code] (.b (lawsFnRecursion code)) := by
 refine en tt_ok Tryz.func3 fun w0 F0 hG => ?_
 have hpl := places_len code
 refine sn tt_ok [0, 2] [] (p0) ?_
 refine awp_seq ?_
 refine tn tt_ok [0, 2, 14] [] (pc 1 (lawsbig_a code) p0) ?_
 refine ck (lawsbig code) (fun h1 => ?_) (fun h1 => ?_)
 ·
  refine tu tt_ok [(2, .b true)] [] [] [] (p0) ?_
  refine awp_ret ?_
  exact pb [] (bif_t h1 (rfl))
 ·
  refine awp_skip ?_
  refine tu tt_ok [(2, .b false), (3, .o 1024 (specDrawPlaces code))] [0] [] [] (pc 1 (specDrawPlaces_a code) p0) ?_
  refine sn tt_ok [2, 3, 4] [] (pc 0 (specIntValue_a 1) p0) ?_
  refine tn tt_ok [2, 3, 4, 5] [5] (pc 0 (specDefaultSchema_a) (pc 1 (specNewStore_a specDefaultSchema) p0)) ?_
  refine awp_seq ?_
  refine tu tt_ok [(4, .o 1344 [((3, 0, 0, ⟨#[97]⟩, (specIntValue 1)) : NodeD), ((9, 0, 0, ⟨#[100, 97]⟩, (0, 0, ⟨#[]⟩)) : NodeD), ((7, 0, 1, ⟨#[]⟩, (0, 0, ⟨#[]⟩)) : NodeD)]), (5, .p 5 0), (6, .i 0)] [] [(5, [.o 1472 ((specNewStore specDefaultSchema).1), .o 1473 ((specNewStore specDefaultSchema).2.1), .i ((specNewStore specDefaultSchema).2.2)])] [] (p0) ?_
  refine blN0b (lawsFnRecursion_f0 code) lawsFnRecursion_e0 (Int.toNat (6 : Int)) (specNewStore specDefaultSchema) (fun k0 _ => [(6, .i ((k0 : Nat) : Int))]) [6] (fun _ s0 => [(5, [.o 147205 s0.1, .o 147206 s0.2.1, .i s0.2.2])]) [5] (fun _ => []) [3, 6] (fun y0 => [(5, [.o 147355 y0.1, .o 147356 y0.2.1, .i y0.2.2])]) [5] (weak_sf [(1472, 147205), (1473, 147206)] (by kernel_rfl)) (fun k0 s0 hk0 hI0 => ?_) (fun k0 s0 hk0 hI0 => ?_) (fun y0 hD0 => ?_)
  ·
   refine awp_seq ?_
   refine sn tt_ok [2, 3, 4, 5, 6, 25] [5] (pe 1 (av_bool (decide_eq_true (p := ((k0 : Nat) : Int) < (6 : Int)) (by omega))) p0) ?_
   refine ckT ?_
   refine awp_skip ?_
   refine awp_seq ?_
   refine awp_block ?_
   refine wT 3 0 (.own true 1024) (specDrawPlaces code) (fun hw3 hl4 => ?_)
   have hx2 := ng (specDrawPlaces code) k0
   have hx2b := places_bd code _ (List.mem_of_getElem? hx2)
   refine tn tt_ok [2, 3, 4, 5, 6, 7] [5, 7] (pN 2 hx2 (px (ob_nz (n := 7) (by omega)) (px (ob_inr (k := .i64) (n := Int.tmod (nth (specDrawPlaces code) k0) 7) (inr_rem0 (by omega))) p0))) ?_
   refine awp_seq ?_
   have hx5 := ng (specDrawPlaces code) 6
   have hx5b := places_bd code _ (List.mem_of_getElem? hx5)
   refine tu tt_ok [(7, .p 7 0), (39, .b (((k0 : Nat) : Int) == Int.tmod (nth (specDrawPlaces code) 6) 6))] [] [(7, [.i 0, .i 0, .b false, .i (Int.tmod (nth (specDrawPlaces code) k0) 7), .e 4])] [] (pG 2 6 hx5 (px (ob_nz (n := 6) (by omega)) (px (ob_inr (k := .i64) (n := Int.tmod (nth (specDrawPlaces code) 6) 6) (inr_rem0 (by omega))) p0))) ?_
   refine ck (((k0 : Nat) : Int) == Int.tmod (nth (specDrawPlaces code) 6) 6) (fun h6 => ?_) (fun h6 => ?_)
   ·
    have h6d := eq_of_beq h6
    refine rN tt_ok tt_mx [2, 3, 4, 5, 6, 7] [5, 7] (pc 1 (specIntValue_a 1) (pc 2 (specSetAttr_a (0, 0, false, Int.tmod (nth (specDrawPlaces code) k0) 7, []) ⟨#[97]⟩ (specIntValue 1) (by first | omega | (simp; done) | (simp; omega))) p0)) ?_
    refine qn tt_ok [2, 3, 4, 5, 6] [5] (pc 2 (specCreateFile_a s0 (specSetAttr (0, 0, false, Int.tmod (nth (specDrawPlaces code) k0) 7, []) ⟨#[97]⟩ (specIntValue 1))) p0) ?_
    refine qu tt_ok [(6, .i ((k0 + 1 : Nat) : Int))] [6, 7, 39] [(5, [.o 2944 ((((specCreateFile s0 (specSetAttr (0, 0, false, Int.tmod (nth (specDrawPlaces code) k0) 7, []) ⟨#[97]⟩ (specIntValue 1)))).1).1), .o 2945 ((((specCreateFile s0 (specSetAttr (0, 0, false, Int.tmod (nth (specDrawPlaces code) k0) 7, []) ⟨#[97]⟩ (specIntValue 1)))).1).2.1), .i ((((specCreateFile s0 (specSetAttr (0, 0, false, Int.tmod (nth (specDrawPlaces code) k0) 7, []) ⟨#[97]⟩ (specIntValue 1)))).1).2.2)])] [5, 7] (pe 1 (av_i (wrap_succ k0 (by omega))) p0) ?_
    exact Exists.intro _ (And.intro (weak_sf [(2944, 147205), (2945, 147206)] (by kernel_rfl)) (forN_next hk0 (bif_t h6 (rfl)) hI0))
   ·
    have h6d := ne_of_beq h6
    refine awp_skip ?_
    refine rn tt_ok [2, 3, 4, 5, 6] [5] (pc 2 (specCreateFile_a s0 (0, 0, false, Int.tmod (nth (specDrawPlaces code) k0) 7, [])) p0) ?_
    refine qn tt_ok [2, 3, 4, 5, 6] [5] (pe 1 (av_i (wrap_succ k0 (by omega))) p0) ?_
    exact Exists.intro _ (And.intro (weak_sf [(2944, 147205), (2945, 147206)] (by kernel_rfl)) (forN_next hk0 (bif_f h6 (rfl)) hI0))
  ·
   refine awp_seq ?_
   refine sn tt_ok [2, 3, 4, 5, 6, 25] [5] (pe 1 (av_bool (decide_eq_false (p := ((k0 : Nat) : Int) < (6 : Int)) (by omega))) p0) ?_
   refine ckF ?_
   refine awp_exit ?_
   exact Exists.intro _ (And.intro (weak_sf [(147205, 147355), (147206, 147356)] (by kernel_rfl)) (forN_end hk0 (rfl) hI0))
  ·
   refine sn tt_ok [2, 4, 5, 8] [5] (pc 4 (implDirContents_a y0 [((⟨#[100, 97]⟩, [((3, 0, 0, ⟨#[97]⟩, (specIntValue 1)) : NodeD), ((9, 0, 0, ⟨#[100, 97]⟩, (0, 0, ⟨#[]⟩)) : NodeD), ((7, 0, 1, ⟨#[]⟩, (0, 0, ⟨#[]⟩)) : NodeD)]) : DirD)] ⟨#[100, 97]⟩) p0) ?_
   refine awp_seq ?_
   refine tn tt_ok [2, 5, 8, 62] [5] (pc 5 (specDirContents_a y0 [((⟨#[100, 97]⟩, [((3, 0, 0, ⟨#[97]⟩, (specIntValue 1)) : NodeD), ((9, 0, 0, ⟨#[100, 97]⟩, (0, 0, ⟨#[]⟩)) : NodeD), ((7, 0, 1, ⟨#[]⟩, (0, 0, ⟨#[]⟩)) : NodeD)]) : DirD)] ⟨#[100, 97]⟩) (pc 6 (lawssameInts_a (implDirContents y0 [((⟨#[100, 97]⟩, [((3, 0, 0, ⟨#[97]⟩, (specIntValue 1)) : NodeD), ((9, 0, 0, ⟨#[100, 97]⟩, (0, 0, ⟨#[]⟩)) : NodeD), ((7, 0, 1, ⟨#[]⟩, (0, 0, ⟨#[]⟩)) : NodeD)]) : DirD)] ⟨#[100, 97]⟩) (specDirContents y0 [((⟨#[100, 97]⟩, [((3, 0, 0, ⟨#[97]⟩, (specIntValue 1)) : NodeD), ((9, 0, 0, ⟨#[100, 97]⟩, (0, 0, ⟨#[]⟩)) : NodeD), ((7, 0, 1, ⟨#[]⟩, (0, 0, ⟨#[]⟩)) : NodeD)]) : DirD)] ⟨#[100, 97]⟩)) p0)) ?_
   refine ck (!(lawssameInts (implDirContents y0 [((⟨#[100, 97]⟩, [((3, 0, 0, ⟨#[97]⟩, (specIntValue 1)) : NodeD), ((9, 0, 0, ⟨#[100, 97]⟩, (0, 0, ⟨#[]⟩)) : NodeD), ((7, 0, 1, ⟨#[]⟩, (0, 0, ⟨#[]⟩)) : NodeD)]) : DirD)] ⟨#[100, 97]⟩) (specDirContents y0 [((⟨#[100, 97]⟩, [((3, 0, 0, ⟨#[97]⟩, (specIntValue 1)) : NodeD), ((9, 0, 0, ⟨#[100, 97]⟩, (0, 0, ⟨#[]⟩)) : NodeD), ((7, 0, 1, ⟨#[]⟩, (0, 0, ⟨#[]⟩)) : NodeD)]) : DirD)] ⟨#[100, 97]⟩))) (fun h7 => ?_) (fun h7 => ?_)
   ·
    refine tu tt_ok [(8, .o 3456 (implDirContents y0 [((⟨#[100, 97]⟩, [((3, 0, 0, ⟨#[97]⟩, (specIntValue 1)) : NodeD), ((9, 0, 0, ⟨#[100, 97]⟩, (0, 0, ⟨#[]⟩)) : NodeD), ((7, 0, 1, ⟨#[]⟩, (0, 0, ⟨#[]⟩)) : NodeD)]) : DirD)] ⟨#[100, 97]⟩))] [4] [] [] (p0) ?_
    refine awp_ret ?_
    exact pb [] (bif_f h1 (on_b hD0 (bif_t h7 (rfl))))
   ·
    refine awp_skip ?_
    refine awp_seq ?_
    refine tu tt_ok [(8, .o 3456 (implDirContents y0 [((⟨#[100, 97]⟩, [((3, 0, 0, ⟨#[97]⟩, (specIntValue 1)) : NodeD), ((9, 0, 0, ⟨#[100, 97]⟩, (0, 0, ⟨#[]⟩)) : NodeD), ((7, 0, 1, ⟨#[]⟩, (0, 0, ⟨#[]⟩)) : NodeD)]) : DirD)] ⟨#[100, 97]⟩)), (9, .i 0)] [4] [] [] (p0) ?_
    refine wB 5 1 (.own true 147356) y0.2.1 (fun hw8 hl9 => ?_)
    refine blL0b (lawsFnRecursion_f1 y0) lawsFnRecursion_e1 y0.2.1 () (fun k1 _ => [(9, .i ((k1 : Nat) : Int))]) [9] (fun _ _ => [(5, [.o 147355 y0.1, .h y0.2.1, .i y0.2.2])]) [5] (fun _ => []) [5, 8, 9] (fun _ => []) [5] (weak_gf [] [147356] [] [] (by kernel_rfl)) (fun k1 s1 hk1 hI1 => ?_) (fun k1 s1 hk1 hI1 => ?_) (fun y1 hD1 => ?_)
    ·
     obtain ⟨a1, hx1⟩ := get_some (l := y0.2.1) (i := k1) hk1
     refine awp_seq ?_
     refine sn tt_ok [2, 5, 8, 9, 67] [5] (pl 3 y0.2.1 (pe 4 (av_bool (decide_eq_true (p := ((k1 : Nat) : Int) < (y0.2.1.length : Int)) (by omega))) p0)) ?_
     refine ckT ?_
     refine awp_skip ?_
     refine awp_seq ?_
     refine awp_block ?_
     refine tn tt_ok [2, 5, 8, 9, 10] [5, 10] (pn 3 hx1 p0) ?_
     refine tu tt_ok [(10, .p 10 0), (11, .b false)] [] [(10, [.i a1.1, .i a1.2.1, .b a1.2.2.1, .i a1.2.2.2.1, .h a1.2.2.2.2])] [] (p0) ?_
     refine awp_seq ?_
     refine su tt_ok [(12, .i 0)] [] [] [] (p0) ?_
     refine blN0b (lawsFnRecursion_f2 y0) lawsFnRecursion_e2 (Int.toNat (8 : Int)) (false, a1) (fun k2 s2 => [(11, .b s2.1), (12, .i ((k2 : Nat) : Int))]) [11, 12] (fun _ s2 => [(10, [.i s2.2.1, .i s2.2.2.1, .b s2.2.2.2.1, .i s2.2.2.2.2.1, .h s2.2.2.2.2.2])]) [10] (fun y2 => [(11, .b y2)]) [10, 11, 12] (fun _ => []) [10] (weak_fit (by kernel_rfl)) (fun k2 s2 hk2 hI2 => ?_) (fun k2 s2 hk2 hI2 => ?_) (fun y2 hD2 => ?_)
     ·
      refine awp_seq ?_
      refine su tt_ok [(76, .b true)] [] [] [] (pe 1 (av_bool (decide_eq_true (p := ((k2 : Nat) : Int) < (8 : Int)) (by omega))) p0) ?_
      refine ckT ?_
      refine awp_skip ?_
      refine awp_seq ?_
      refine awp_block ?_
      refine awp_seq ?_
      refine jn [(11, .b (s2.1 || (((specGetAttr s2.2 ⟨#[97]⟩).1 == (specIntValue 1).1) && (((specGetAttr s2.2 ⟨#[97]⟩).2.1 == (specIntValue 1).2.1) && ((((specGetAttr s2.2 ⟨#[97]⟩).2.2).toList == ((specIntValue 1).2.2).toList) && true)))))] [11, 76] [] [] s2.1 (fun h10 => ?_) (fun h10 => ?_) ?_
      ·
       refine ru tt_ok [(11, .b true)] [11, 76] [] [] (pt 0 h10 p0) ?_
       exact ⟨rfl, weak_fit (by rw [h10]; first | done | kernel_rfl)⟩
      ·
       refine rn tt_ok [2, 5, 8, 9, 10, 11, 12] [5, 10] (pf 0 h10 (pc 3 (specGetAttr_a s2.2 ⟨#[97]⟩) (pc 4 (specIntValue_a 1) p0))) ?_
       exact ⟨rfl, weak_fit (by rw [h10]; first | done | kernel_rfl)⟩
      refine rn tt_ok [2, 5, 8, 9, 10, 11, 12] [5, 10] (pc 3 (lawsfileOf_a y0 s2.2.2.2.2.1) p0) ?_
      refine qn tt_ok [2, 5, 8, 9, 10, 11, 12] [5, 10] (pe 1 (av_i (wrap_succ k2 (by omega))) p0) ?_
      exact Exists.intro _ (And.intro (weak_gf [] [5696] [] [] (by kernel_rfl)) (forN_next hk2 (rfl) hI2))
     ·
      refine awp_seq ?_
      refine su tt_ok [(76, .b false)] [] [] [] (pe 1 (av_bool (decide_eq_false (p := ((k2 : Nat) : Int) < (8 : Int)) (by omega))) p0) ?_
      refine ckF ?_
      refine awp_exit ?_
      exact Exists.intro _ (And.intro (weak_fit (by kernel_rfl)) (forN_end hk2 (rfl) hI2))
     ·
      refine sn tt_ok [2, 5, 8, 9, 99] [5] (pn 4 hx1 (pc 7 (implContainsID_a (implDirContents y0 [((⟨#[100, 97]⟩, [((3, 0, 0, ⟨#[97]⟩, (specIntValue 1)) : NodeD), ((9, 0, 0, ⟨#[100, 97]⟩, (0, 0, ⟨#[]⟩)) : NodeD), ((7, 0, 1, ⟨#[]⟩, (0, 0, ⟨#[]⟩)) : NodeD)]) : DirD)] ⟨#[100, 97]⟩) a1.1) p0)) ?_
      refine ck (!((implContainsID (implDirContents y0 [((⟨#[100, 97]⟩, [((3, 0, 0, ⟨#[97]⟩, (specIntValue 1)) : NodeD), ((9, 0, 0, ⟨#[100, 97]⟩, (0, 0, ⟨#[]⟩)) : NodeD), ((7, 0, 1, ⟨#[]⟩, (0, 0, ⟨#[]⟩)) : NodeD)]) : DirD)] ⟨#[100, 97]⟩) a1.1) == y2)) (fun h11 => ?_) (fun h11 => ?_)
      ·
       refine tu tt_ok [] [11] [] [] (p0) ?_
       refine awp_ret ?_
       have hr12 : (forL (lawsFnRecursion_f1 y0) lawsFnRecursion_e1 y0.2.1 0 ()) = .ret false := forL_ret hx1 (on_b hD2 (bif_t h11 (rfl))) hI1
       exact pb [] (bif_f h1 (on_b hD0 (bif_f h7 (on_r hr12))))
      ·
       have h11n : ((implContainsID (implDirContents y0 [((⟨#[100, 97]⟩, [((3, 0, 0, ⟨#[97]⟩, (specIntValue 1)) : NodeD), ((9, 0, 0, ⟨#[100, 97]⟩, (0, 0, ⟨#[]⟩)) : NodeD), ((7, 0, 1, ⟨#[]⟩, (0, 0, ⟨#[]⟩)) : NodeD)]) : DirD)] ⟨#[100, 97]⟩) a1.1) == y2) = true := bnot_f h11
       have h11nd := eq_of_beq h11n
       refine awp_skip ?_
       refine qn tt_ok [2, 5, 8, 9] [5] (pe 1 (av_i (wrap_succ k1 (by omega))) p0) ?_
       exact Exists.intro _ (And.intro (weak_fit (by kernel_rfl)) (forL_next hx1 (on_b hD2 (bif_f h11 (rfl))) hI1))
    ·
     refine awp_seq ?_
     refine sn tt_ok [2, 5, 8, 9, 67] [5] (pl 3 y0.2.1 (pe 4 (av_bool (decide_eq_false (p := ((k1 : Nat) : Int) < (y0.2.1.length : Int)) (by omega))) p0)) ?_
     refine ckF ?_
     refine awp_exit ?_
     exact Exists.intro _ (And.intro (weak_fit (by kernel_rfl)) (forL_end hk1 (rfl) hI1))
    ·
     refine sn tt_ok [2] [] (p0) ?_
     refine awp_ret ?_
     exact pb [] (bif_f h1 (on_b hD0 (bif_f h7 (on_b hD1 (rfl)))))
end Go.Proofs.YtcnkkobgogmakaaGreat
namespace Go.Proofs.YtcnkkobgogmakaaGreat
open Go.RowKit
def rcQ : List NodeD := [(3, 0, 0, ⟨#[97]⟩, specIntValue 1), (9, 0, 0, ⟨#[100, 97]⟩, (0, 0, ⟨#[]⟩)), (7, 0, 1, ⟨#[]⟩, (0, 0, ⟨#[]⟩))]
def rcD : List DirD := [(⟨#[100, 97]⟩, rcQ)]
def rcC (ids : List Int) : List ResultD := [(⟨#[100, 97]⟩, ids)]
def rcA (b : Bool) : List AttrD := bif b then [(⟨#[97]⟩, specIntValue 1)] else []
section
variable (l : Nat → Int) (st : Int)
def rcF (k : Nat) : FileD := ((k : Int) + 1, 0, false, l k, rcA ((k : Int) == st))
def rcS (n : Nat) : StoreD := (specDefaultSchema, (List.range n).map (rcF l st), (n : Int) + 1)
def rcR : Nat → Nat → Bool
  | 0, _ => false
  | n + 1, k => ((k : Int) == st) || (l k != 0 && rcR n (Int.toNat (l k - 1)))
def rcI (n : Nat) : List Int := ((List.range 6).filter (rcR l st n)).map fun k : Nat => (k : Int) + 1
end
theorem rc_file {i x : Int} {b : Bool} (h1 : 1 ≤ i) (h2 : i ≤ 60) (h3 : 0 ≤ x) (h4 : x ≤ 6) : specIsValidFile specDefaultSchema (i, 0, false, x, rcA b) = true := by
  have key : forL (specIsValidFile_f0 specDefaultSchema (i, 0, false, x, rcA b)) specIsValidFile_e0 (rcA b) 0 () = .brk () := by cases b <;> kernel_rfl
  have hs : specIsValidSchema specDefaultSchema = true := by kernel_rfl
  show Out.on (forL (specIsValidFile_f0 specDefaultSchema (i, 0, false, x, rcA b)) specIsValidFile_e0 (rcA b) 0 ()) _ = true
  rw [key]
  simp only [Out.on, hs, specl01In, Bool.true_and]
  rw [decide_eq_true (show i ≥ 1 from h1), decide_eq_true (show i ≤ 60 from h2), decide_eq_true (show x ≥ 0 from h3), decide_eq_true (show x ≤ 60 by omega)]
  rfl
theorem rc_vs {l : Nat → Int} {st : Int} (hl : ∀ k, 0 ≤ l k ∧ l k ≤ 6) : ∀ n, n ≤ 6 → VS (rcS l st n)
  | 0, _ => by
    refine ⟨by kernel_rfl, by simp [rcS], by simp [rcS], by simp [rcS], fun i a h => ?_, fun i a b h => ?_⟩ <;> simp [rcS] at h
  | n + 1, hn => by
    have ih := rc_vs (st := st) hl n (by omega)
    have h := vs_push (f := rcF l st n) ih (by simp [rcS]; omega) (by show (n : Int) + 1 ≤ 60; omega) (rc_file (b := ((n : Int) == st)) (show (1 : Int) ≤ (n : Int) + 1 by omega) (show (n : Int) + 1 ≤ 60 by omega) (hl n).1 (hl n).2)
    have e : rcS l st (n + 1) = ((rcS l st n).1, (rcS l st n).2.1 ++ [((rcS l st n).2.2, (rcF l st n).2)], (rcS l st n).2.2 + 1) := by
      simp only [rcS, List.range_succ, List.map_append]
      rfl
    rw [e]; exact h
theorem rc_create {l : Nat → Int} {st : Int} (hl : ∀ k, 0 ≤ l k ∧ l k ≤ 6) {n : Nat} (hn : n < 6) : (specCreateFile (rcS l st n) (0, 0, false, l n, rcA ((n : Int) == st))).1 = rcS l st (n + 1) := by
  have h := createS (s := rcS l st n) (f := (0, 0, false, l n, rcA ((n : Int) == st))) (rc_vs hl n (by omega)) (by simp [rcS]; omega) (by show (n : Int) + 1 ≤ 60; omega) (rc_file (i := (n : Int) + 1) (x := l n) (b := ((n : Int) == st)) (by omega) (by omega) (hl n).1 (hl n).2)
  rw [h]
  simp only [rcS, List.range_succ, List.map_append]
  rfl
/-! ### what one pass makes -/
theorem rc_match (f : FileD) (C : List Int) (b : Bool) (hf : f.2.2.2.2 = rcA b) : implMatches rcQ f (rcC C) = (b || (f.2.2.2.1 != 0 && implContainsID C f.2.2.2.1)) := by
  obtain ⟨i, o, s, x, a⟩ := f
  obtain rfl : a = rcA b := hf
  cases b with
  | true => kernel_rfl
  | false => kernel_rfl
theorem rc_select {l : Nat → Int} {st : Int} (hl : ∀ k, 0 ≤ l k ∧ l k ≤ 6) (n : Nat) : implSelectFiles (rcS l st 6) rcQ (rcC (rcI l st n)) = rcI l st (n + 1) := by
  rw [select_sel]
  unfold sel rcI
  show (((List.range 6).map (rcF l st)).filter _).map _ = _
  rw [List.filter_map, List.map_map]
  congr 1
  refine List.filter_congr fun k hk => ?_
  have hk : k < 6 := List.mem_range.1 hk
  show implMatches rcQ (rcF l st k) (rcC (rcI l st n)) = rcR l st (n + 1) k
  rw [rc_match (rcF l st k) _ ((k : Int) == st) rfl]
  show (((k : Int) == st) || (l k != 0 && implContainsID (rcI l st n) (l k))) = (((k : Int) == st) || (l k != 0 && rcR l st n (Int.toNat (l k - 1))))
  congr 1
  by_cases h0 : l k = 0
  · simp [h0]
  · have e : implContainsID (rcI l st n) (l k) = rcR l st n (Int.toNat (l k - 1)) := by
      have h1 := (hl k).1
      have h2 := (hl k).2
      rw [Bool.eq_iff_iff, cid_iff]
      unfold rcI
      simp only [List.mem_map, List.mem_filter, List.mem_range]
      constructor
      · rintro ⟨j, ⟨_, hj⟩, e⟩
        rw [show Int.toNat (l k - 1) = j by omega]; exact hj
      · intro h
        exact ⟨Int.toNat (l k - 1), ⟨by omega, h⟩, by omega⟩
    rw [e]
theorem rc_strata : implStrata rcD = ([0], true) := by kernel_rfl
theorem rc_max : implMaxStratum rcD = 0 := by kernel_rfl
theorem rc_pass {l : Nat → Int} {st : Int} (hl : ∀ k, 0 ≤ l k ∧ l k ≤ 6) (n : Nat) : forL (implevaluated_f3 (rcS l st 6) rcD [⟨#[100, 97]⟩] 0) implevaluated_e3 rcD 0 (rcC (rcI l st n), false) = .brk (rcC (rcI l st (n + 1)), !(slicesEqual_int (rcI l st (n + 1)) (rcI l st n))) := by
  have h : implevaluated_f3 (rcS l st 6) rcD [⟨#[100, 97]⟩] 0 0 (⟨#[100, 97]⟩, rcQ) (rcC (rcI l st n), false) = .next (rcC (rcI l st (n + 1)), !(slicesEqual_int (rcI l st (n + 1)) (rcI l st n))) := by
    unfold implevaluated_f3
    rw [rc_strata]
    have e1 : ((nth ([0] : List Int) 0 != ((0 : Nat) : Int)) || (!(slicesContains_string [⟨#[100, 97]⟩] (⟨#[100, 97]⟩ : ByteArray)))) = false := by kernel_rfl
    have e2 : (nth (rcC (rcI l st n)) 0).2 = rcI l st n := rfl
    show (bif ((nth ([0] : List Int) 0 != ((0 : Nat) : Int)) || (!(slicesContains_string [⟨#[100, 97]⟩] (⟨#[100, 97]⟩ : ByteArray)))) then _ else (bif (!(slicesEqual_int (implSelectFiles (rcS l st 6) rcQ (rcC (rcI l st n))) ((nth (rcC (rcI l st n)) 0).2))) then _ else _)) = _
    rw [e1, e2, rc_select hl n]
    simp only [cond_false]
    cases hs : slicesEqual_int (rcI l st (n + 1)) (rcI l st n) with
    | true =>
      have : rcI l st (n + 1) = rcI l st n := by rw [eqI_dec] at hs; exact of_decide_eq_true hs
      simp [this]
    | false => simp [rcC]; rfl
  show forL _ _ [((⟨#[100, 97]⟩, rcQ) : DirD)] 0 _ = _
  simp only [forL, h]
  rfl
theorem rc_fix {l : Nat → Int} {st : Int} (hl : ∀ k, 0 ≤ l k ∧ l k ≤ 6) {n : Nat} (h : rcI l st (n + 1) = rcI l st n) : ∀ m, rcI l st (n + m) = rcI l st n
  | 0 => rfl
  | m + 1 => by
    rw [← Nat.add_assoc, ← rc_select hl (n + m), rc_fix hl h m, rc_select hl n, h]
theorem rc_whl {l : Nat → Int} {st : Int} (hl : ∀ k, 0 ≤ l k ∧ l k ≤ 6) : ∀ (m n : Nat) (p : Int) (c : Bool) (o : Out _ _), m + n ≤ 8 → (c = false → rcI l st 8 = rcI l st n) → whl (implevaluated_f2 (rcS l st 6) rcD [⟨#[100, 97]⟩] 0) m (rcC (rcI l st n), p, c) = some o → ∃ p', o = .brk (rcC (rcI l st 8), p')
  | 0, _, _, _, _, _, _, h => by simp [whl] at h
  | m + 1, n, p, c, o, hm, hc, h => by
    simp only [whl, implevaluated_f2] at h
    cases c with
    | false =>
      simp only [cond_false] at h
      have h := Option.some.inj h
      exact ⟨p, by rw [← h, hc rfl]⟩
    | true =>
      simp only [cond_true] at h
      rw [rc_pass hl n] at h
      simp only [Out.on] at h
      refine rc_whl hl m (n + 1) _ _ o (by omega) (fun hf => ?_) h
      have he : slicesEqual_int (rcI l st (n + 1)) (rcI l st n) = true := by simpa using hf
      rw [eqI_dec] at he
      have he := of_decide_eq_true he
      have := rc_fix hl he (8 - n)
      rw [show n + (8 - n) = 8 by omega] at this
      rw [this, he]
theorem rc_contents {l : Nat → Int} {st : Int} (hl : ∀ k, 0 ≤ l k ∧ l k ≤ 6) : implDirContents (rcS l st 6) rcD ⟨#[100, 97]⟩ = rcI l st 8 := by
  have hv : implIsValidStore (rcS l st 6) = true := by rw [← store_eq]; exact vs_valid (rc_vs hl 6 (Nat.le_refl _))
  have hn : implDirNames rcD = [⟨#[100, 97]⟩] := rfl
  have h0 : forL (implevaluated_f0 [] [⟨#[100, 97]⟩]) implevaluated_e0 rcD 0 [] = .brk (rcC (rcI l st 0)) := by
    have h1 : rcI l st 0 = [] := by simp [rcI, rcR]
    have h2 : forL (implevaluated_f0 [] [⟨#[100, 97]⟩]) implevaluated_e0 rcD 0 [] = .brk (rcC []) := by kernel_rfl
    rw [h1]; exact h2
  have hS : ((implStrata rcD)).2 = true := by rw [rc_strata]
  obtain ⟨_, h2⟩ := ev_start (L := ((implStrata rcD)).1) (on := onD rcD [⟨#[100, 97]⟩]) (fs := (rcS l st 6).2.1) (g := startG [] [⟨#[100, 97]⟩]) (f := implevaluated_f0 [] [⟨#[100, 97]⟩]) (e := implevaluated_e0) (d := rcD) (fun k a s => by
    unfold implevaluated_f0 startG
    cases slicesContains_string [⟨#[100, 97]⟩] a.1 <;> rfl) (fun j _ hj => by unfold onD at hj; unfold startG; rw [hj]; rfl)
  have e0 : (rcD.map fun a => ((a.1, startG [] [⟨#[100, 97]⟩] a) : ResultD)) = rcC (rcI l st 0) := by
    have h1 : rcI l st 0 = [] := by simp [rcI, rcR]
    have h2 : (rcD.map fun a => ((a.1, startG [] [⟨#[100, 97]⟩] a) : ResultD)) = rcC [] := by kernel_rfl
    rw [h1]; exact h2
  rw [e0] at h2
  have hsome := evaluated_w (k1 := 0) (p := 0) hS h2
  have hlen : List.length rcD * List.length (rcS l st 6).2.1 + 2 = 8 := by simp [rcD, rcS]
  rw [hlen] at hsome
  obtain ⟨p', hp⟩ := rc_whl hl 8 0 0 true _ (Nat.le_refl _) (by simp) (whl_some hsome)
  unfold implDirContents implEvaluate implevaluated
  rw [hn, rc_strata, hv]
  simp only [Bool.not_true, Bool.or_false, cond_false]
  rw [h0]
  simp only [Out.on]
  rw [rc_max]
  show implResultIDs (Out.on (forN (implevaluated_f1 (rcS l st 6) rcD [⟨#[100, 97]⟩]) implevaluated_e1 1 0 (rcC (rcI l st 0), 0)) _).1 _ = _
  simp only [forN, implevaluated_f1, hlen, hp, Out.on, implevaluated_e1]
  kernel_rfl
/-! ### the paths -/
def attr1 (f : FileD) : Bool := (((specGetAttr f ⟨#[97]⟩).1 == (specIntValue 1).1) && (((specGetAttr f ⟨#[97]⟩).2.1 == (specIntValue 1).2.1) && ((((specGetAttr f ⟨#[97]⟩).2.2).toList == ((specIntValue 1).2.2).toList) && true)))
theorem attr1_rc (i o x : Int) (s b : Bool) : attr1 (i, o, s, x, rcA b) = b := by cases b <;> kernel_rfl
def rcW (y : StoreD) : Nat → FileD → Bool
  | 0, _ => false
  | n + 1, f => attr1 f || rcW y n (lawsfileOf y f.2.2.2.1)
theorem rc_path (y : StoreD) : ∀ (n k : Nat) (s : Bool) (f : FileD), forN (lawsFnRecursion_f2 y) lawsFnRecursion_e2 n k (s, f) = .brk (s || rcW y n f)
  | 0, k, s, f => by simp [forN, lawsFnRecursion_e2, rcW]
  | n + 1, k, s, f => by
    have h := rc_path y n (k + 1) (s || attr1 f) (lawsfileOf y f.2.2.2.1)
    rw [Bool.or_assoc] at h
    exact h
def noF : FileD := (0, 0, false, 0, [])
theorem rc_none {l : Nat → Int} {st : Int} : lawsfileOf (rcS l st 6) 0 = noF := by kernel_rfl
theorem rc_find {l : Nat → Int} {st : Int} : ∀ j : Nat, j < 6 → lawsfileOf (rcS l st 6) ((j : Int) + 1) = rcF l st j
  | 0, _ => by kernel_rfl
  | 1, _ => by kernel_rfl
  | 2, _ => by kernel_rfl
  | 3, _ => by kernel_rfl
  | 4, _ => by kernel_rfl
  | 5, _ => by kernel_rfl
  | n + 6, h => by omega
theorem rcW_none {l : Nat → Int} {st : Int} : ∀ n, rcW (rcS l st 6) n noF = false
  | 0 => rfl
  | n + 1 => by
    have h1 : attr1 noF = false := attr1_rc 0 0 0 false false
    show (attr1 noF || rcW (rcS l st 6) n (lawsfileOf (rcS l st 6) 0)) = false
    rw [h1, rc_none, rcW_none n]
    rfl
theorem rcW_eq {l : Nat → Int} {st : Int} (hl : ∀ k, 0 ≤ l k ∧ l k ≤ 6) : ∀ n k, k < 6 → rcW (rcS l st 6) n (rcF l st k) = rcR l st n k
  | 0, _, _ => rfl
  | n + 1, k, hk => by
    show (attr1 (rcF l st k) || rcW (rcS l st 6) n (lawsfileOf (rcS l st 6) (l k))) = (((k : Int) == st) || (l k != 0 && rcR l st n (Int.toNat (l k - 1))))
    rw [show attr1 (rcF l st k) = ((k : Int) == st) from attr1_rc _ _ _ _ _]
    congr 1
    have h1 := (hl k).1
    have h2 := (hl k).2
    by_cases h0 : l k = 0
    · rw [h0, rc_none, rcW_none]; rfl
    · have e : l k = ((Int.toNat (l k - 1) : Nat) : Int) + 1 := by omega
      have hne : (l k != 0) = true := by simpa using h0
      rw [hne, Bool.true_and, ← rcW_eq hl n _ (show Int.toNat (l k - 1) < 6 by omega)]
      congr 1
      rw [← rc_find _ (show Int.toNat (l k - 1) < 6 by omega), ← e]
/-! ### the law -/
def rcL (code : List UInt8) (k : Nat) : Int := Int.tmod (nth (specDrawPlaces code) k) 7
theorem rcL_bd (code : List UInt8) (k : Nat) : 0 ≤ rcL code k ∧ rcL code k ≤ 6 := by
  have h : 0 ≤ nth (specDrawPlaces code) k := by
    by_cases hk : k < (specDrawPlaces code).length
    · exact (places_bd code _ (List.mem_of_getElem? (nth_get hk))).1
    · have : nth (specDrawPlaces code) k = 0 := by simp [nth, List.getD, List.getElem?_eq_none (Nat.le_of_not_lt hk)]
      rw [this]; exact Int.le_refl 0
  have h1 := Int.tmod_nonneg 7 h
  have h2 := Int.tmod_lt_of_pos (nth (specDrawPlaces code) k) (show (0 : Int) < 7 by decide)
  unfold rcL
  omega
theorem rc_draw (code : List UInt8) : ∀ (n k : Nat), k + n = 6 → forN (lawsFnRecursion_f0 code) lawsFnRecursion_e0 n k (rcS (rcL code) (Int.tmod (nth (specDrawPlaces code) 6) 6) k) = .brk (rcS (rcL code) (Int.tmod (nth (specDrawPlaces code) 6) 6) 6)
  | 0, k, h => by
    obtain rfl : k = 6 := by omega
    rfl
  | n + 1, k, h => by
    have hs : lawsFnRecursion_f0 code k (rcS (rcL code) (Int.tmod (nth (specDrawPlaces code) 6) 6) k) = .next (rcS (rcL code) (Int.tmod (nth (specDrawPlaces code) 6) 6) (k + 1)) := by
      have hc := rc_create (st := Int.tmod (nth (specDrawPlaces code) 6) 6) (rcL_bd code) (n := k) (by omega)
      unfold lawsFnRecursion_f0
      cases hb : (((k : Nat) : Int) == Int.tmod (nth (specDrawPlaces code) 6) 6) with
      | true =>
        rw [hb] at hc
        simp only [cond_true]
        rw [← hc]
        have : specSetAttr (0, 0, false, rcL code k, []) ⟨#[97]⟩ (specIntValue 1) = (0, 0, false, rcL code k, rcA true) := by kernel_rfl
        rw [← this]
        rfl
      | false =>
        rw [hb] at hc
        simp only [cond_false]
        rw [← hc]
        rfl
    simp only [forN, hs]
    exact rc_draw code n (k + 1) (by omega)
theorem sameInts_self (l : List Int) : lawssameInts l l = true := by
  unfold lawssameInts
  rw [forL_of_all l 0 (fun i a hi => by
    unfold lawssameInts_f0
    rw [Nat.zero_add, nth_of hi]
    simp)]
  simp [Out.on]
theorem dirContents_eq (s : StoreD) (d : List DirD) (n : ByteArray) : specDirContents s d n = implDirContents s d n := by
  unfold specDirContents implDirContents
  rw [evaluate_eq]
  rfl
theorem lawsFnRecursion_true (code : List UInt8) : lawsFnRecursion code = true := by
  unfold lawsFnRecursion
  cases lawsbig code with
  | true => rfl
  | false =>
    simp only [cond_false]
    have hd := rc_draw code 6 0 rfl
    have h0 : forN (lawsFnRecursion_f0 code) lawsFnRecursion_e0 (Int.toNat (6 : Int)) 0 (specNewStore specDefaultSchema) = .brk (rcS (rcL code) (Int.tmod (nth (specDrawPlaces code) 6) 6) 6) := hd
    rw [h0]
    have hl := rcL_bd code
    generalize rcL code = l at hl
    generalize Int.tmod (nth (specDrawPlaces code) 6) 6 = st
    show (bif (!(lawssameInts (implDirContents (rcS l st 6) rcD ⟨#[100, 97]⟩) (specDirContents (rcS l st 6) rcD ⟨#[100, 97]⟩))) then false else (Out.on (forL (lawsFnRecursion_f1 (rcS l st 6)) lawsFnRecursion_e1 (rcS l st 6).2.1 0 ()) (fun _ => true))) = true
    rw [dirContents_eq, sameInts_self]
    rw [forL_of_all (l := (rcS l st 6).2.1) (k := 0) (fun i a hi => by
      have hi6 : i < 6 := by
        have := (List.getElem?_eq_some_iff.1 hi).1
        simpa [rcS] using this
      have ha : a = rcF l st i := by
        have h2 : ((List.range 6).map (rcF l st))[i]? = some a := hi
        rw [List.getElem?_map, List.getElem?_range hi6] at h2
        exact (Option.some.inj h2).symm
      subst ha
      show (Out.on (forN (lawsFnRecursion_f2 (rcS l st 6)) lawsFnRecursion_e2 8 0 (false, rcF l st i)) (fun y2 => (bif (!((implContainsID (implDirContents (rcS l st 6) rcD ⟨#[100, 97]⟩) (rcF l st i).1) == y2)) then (.ret false) else (.next ())))) = .next ()
      rw [rc_path, rcW_eq hl 8 i hi6, rc_contents hl]
      have e : implContainsID (rcI l st 8) (rcF l st i).1 = rcR l st 8 i := by
        rw [Bool.eq_iff_iff, cid_iff]
        unfold rcI
        simp only [List.mem_map, List.mem_filter, List.mem_range]
        constructor
        · rintro ⟨j, ⟨_, hj⟩, e⟩
          have e : (j : Int) + 1 = (i : Int) + 1 := e
          rw [show i = j by omega]; exact hj
        · intro h
          exact ⟨i, ⟨hi6, h⟩, rfl⟩
      rw [e]
      simp [Out.on])]
    rfl
end Go.Proofs.YtcnkkobgogmakaaGreat
namespace Go.Proofs.YtcnkkobgogmakaaGreat
open Go.RowKit
open GoD (rd own)
theorem bigRecursion (w : World) (v : Value) (a : List UInt8) (h : rd w [v] a) (hbig : ¬ a.length ≤ 1048576) : Calls Tryz.prog 3 #[v] w (Ret w (.bool true)) := by
  obtain ⟨oa, cap, rfl⟩ := slice_of_rd h
  have hln := len_of_rd h
  clear h
  have hbi : 1048576 < (a.length : Int) := by omega
  go_enter Tryz.func3, Tryz.ntmps3
  go_wp2_with (first | (go_at_call 8; go_in))
  go_ret
  exact ⟨rfl, by go_grown⟩
theorem lawRecursion (w : World) (v : Value) (a : List UInt8) (h : rd w [v] a) : Calls Tryz.prog 3 #[v] w (Ret w (.bool true)) := by
  by_cases hbig : a.length ≤ 1048576
  · haveI : Good Tryz.prog w := Good.none (by kernel_rfl) w
    have hc := (lawsFnRecursion_a a).run (.cons (arg_sli h ⟨by omega, fun _ _ => trivial⟩) .nil)
    rw [lawsFnRecursion_true] at hc
    exact hc.mono fun _ _ h => ret_bool h
  · exact bigRecursion w v a h hbig
end Go.Proofs.YtcnkkobgogmakaaGreat
