/- Texts of this proof, put together by a program: Eva, Evb, Eua, Eub, Enp, In, Fj, Ena, Enb, Enc, End, Vla, Vlb, Lw, Sz. -/
import Derived.Test.YtnhmnfmhnepjmaaGreatDoorP5
import Derived.KernelRfl
import Derived.Test.YtnhmnfmhnepjmaaGreatDoorProg
import Derived.Outline
import Derived.Laws.IdiomStrings
import Derived.Lib.ItoaNum
import Derived.Lib.ConvBytes
import Derived.Lib.SlBytesRow
import Derived.Lib.SmallJoins
set_option linter.unusedVariables false
set_option linter.unusedSimpArgs false
namespace Go.Proofs.YtnhmnfmhnepjmaaGreatDoor
open Go.RowKit
open GoE (enc wide)
def implDirNames_f0 (_ : Nat) (a0 : DirD) (s0 : (List ByteArray)) : Rd ((List ByteArray)) ((List ByteArray)) ((List ByteArray)) := (.next (s0 ++ [a0.1]))
def implDirNames_e0 (_ : Nat) (s0 : (List ByteArray)) : (List ByteArray) := s0
def implDirNames (d : (List DirD)) : (List ByteArray) := (Out.on (forL implDirNames_f0 implDirNames_e0 d 0 []) (fun y0 => y0))
theorem implDirNames_a (d : (List DirD)) : ACalls Tryz.prog 73 [.h d] (.o 0 (implDirNames d)) := by
 refine acalls_of (tt := tt) Qb Tryz.func73 (fn := Tryz.f73) rfl (by unfold FnOk; kernel_rfl) (Nat.le_of_ble_eq_true rfl) fun w0 F0 hG => ?_
 refine Qa ?_
 refine rk Qb [(2, .e 0)] [] [] [] [] (o0) ?_
 refine Qa ?_
 refine rk Qb [(3, .one (.slc (.own true 384) 1 []))] [] [] [] [] (o0) ?_
 refine Qa ?_
 refine Qa ?_
 refine rk Qb [(7, .h d), (8, .i (d.length : Int)), (9, .i 0)] [0] [] [] [(1, .val (.i (d.length : Int)))] (o1 (Qf (av_len d))) ?_
 refine wdT 7 0 .sh d (fun hw1 => ?_)
 have hl2 : List.length d ≤ 1073741824 := wide_len (hw1)
 refine blk (fun (k0 : Nat) (s0 : (List ByteArray)) => [(3, .o 147201 s0), (9, .i ((k0 : Nat) : Int))]) [3, 9] (fun k0 s0 => []) [] (fun (y0 : (List ByteArray)) => [(3, .o 147351 y0)]) [3, 7, 8, 9] (fun y0 => []) [] (fun (k0 : Nat) (s0 : (List ByteArray)) => (forL implDirNames_f0 implDirNames_e0 d 0 []) = forL implDirNames_f0 implDirNames_e0 (List.drop k0 d) k0 s0 ∧ List.length s0 ≤ k0) (fun (y0 : (List ByteArray)) => (forL implDirNames_f0 implDirNames_e0 d 0 []) = .brk y0) d.length [] (weak_sf [(384, 147201)] (by kernel_rfl)) ⟨rfl, (by simp)⟩ (fun k0 s0 hk0 hI0 => ?_) (fun k0 s0 hk0 hI0 => ?_) (fun y0 hD0 => ?_)
 ·
  have hA0_0 := hI0.2
  obtain ⟨a0, hx0⟩ := get_some (l := d) (i := k0) hk0
  refine Qa ?_
  refine rk Qb [(10, .b true)] [] [] [] [(0, .val (.b true))] (o1 (Qf (Qe (decide_eq_true (p := ((k0 : Nat) : Int) < (d.length : Int)) (by omega))))) ?_
  refine Qa ?_
  refine ckT ?_
  refine Qg ?_
  refine Qa ?_
  refine awp_block ?_
  refine Qa ?_
  refine rk Qb [(5, .p 5 0)] [10] [(5, [.s a0.1, .h a0.2])] [] [(0, .row [.s a0.1, .h a0.2])] (o1 (ob_elem (el_of (i := ((k0 : Nat) : Int)) (by omega) rfl hx0))) ?_
  refine wdT 3 0 (.own true 147201) s0 (fun hw3 => ?_)
  have hl4 : List.length s0 ≤ 1073741824 := wide_len (hw3)
  refine rk Qb [(3, .one (.slc (.own true 1088) 1 ((eL s0) ++ [[.s a0.1]])))] [3, 5] [] [5] [] (o1 (ob_len (len_of (eL_length s0) (eL_length [a0.1]) (by first | omega | (simp; omega) | simp)))) ?_
  refine eqn [(3, .o 1088 (s0 ++ [a0.1]))] [3] [] [] (by rw [show ((eL s0) ++ [[.s a0.1]]) = (eL (s0 ++ [a0.1])) from app_eL (rfl) (rfl)]; first | done | kernel_rfl) ?_
  refine rk Qb [(9, .i ((k0 + 1 : Nat) : Int))] [9] [] [] [(0, .val (.i ((k0 + 1 : Nat) : Int)))] (o1 (Qf (av_i (wrap_succ k0 (by omega))))) ?_
  exact Exists.intro (s0 ++ [a0.1]) (And.intro (weak_sf [(1088, 147201)] (by kernel_rfl)) ⟨forL_next hx0 (rfl) hI0.1, by first | omega | (simp; omega) | simp⟩)
 ·
  have hA0_0 := hI0.2
  refine Qa ?_
  refine rk Qb [(10, .b false)] [] [] [] [(0, .val (.b false))] (o1 (Qf (Qe (decide_eq_false (p := ((k0 : Nat) : Int) < (d.length : Int)) (by omega))))) ?_
  refine Qa ?_
  refine ckF ?_
  refine awp_exit ?_
  exact Exists.intro s0 (And.intro (weak_sf [(147201, 147351)] (by kernel_rfl)) (forL_end hk0 (rfl) hI0.1))
 ·
  refine Qa ?_
  refine rk Qb [(2, .o 147351 y0)] [2, 3] [] [] [] (o0) ?_
  refine Qh ?_
  exact pret [] (congrArg (fun z => (.o 0 z : AV)) (show implDirNames d = y0 from on_b hD0 (rfl)).symm)
def slicesIndex_string_f0 (v : ByteArray) (k0 : Nat) (a0 : ByteArray) (_ : Unit) : Rd (Int) (Unit) (Unit) := (bif (v.toList == a0.toList) then (.ret ((k0 : Nat) : Int)) else (.next ()))
def slicesIndex_string_e0 (_ : Nat) (_ : Unit) : Unit := ()
def slicesIndex_string (s_ : (List ByteArray)) (v : ByteArray) : Int := (Out.on (forL (slicesIndex_string_f0 v) slicesIndex_string_e0 s_ 0 ()) (fun _ => -1))
theorem slicesIndex_string_a (s_ : (List ByteArray)) (v : ByteArray) : ACalls Tryz.prog 108 [.h s_, .s v] (.i (slicesIndex_string s_ v)) := by
 refine acalls_of (tt := tt) Qb Tryz.func108 (fn := Tryz.f108) rfl (by unfold FnOk; kernel_rfl) (Nat.le_of_ble_eq_true rfl) fun w0 F0 hG => ?_
 refine Qa ?_
 refine rk Qb [(4, .i 0)] [] [] [] [] (o0) ?_
 refine Qa ?_
 refine Qa ?_
 refine rk Qb [(7, .i (s_.length : Int)), (8, .i 0)] [] [] [] [(1, .val (.i (s_.length : Int)))] (o1 (Qf (av_len s_))) ?_
 refine wdT 0 0 .sh s_ (fun hw1 => ?_)
 have hl2 : List.length s_ ≤ 1073741824 := wide_len (hw1)
 refine blk (fun (k0 : Nat) (s0 : Unit) => [(8, .i ((k0 : Nat) : Int))]) [8] (fun k0 s0 => []) [] (fun (y0 : Unit) => []) [0, 1, 7, 8] (fun y0 => []) [] (fun (k0 : Nat) (s0 : Unit) => (forL (slicesIndex_string_f0 v) slicesIndex_string_e0 s_ 0 ()) = forL (slicesIndex_string_f0 v) slicesIndex_string_e0 (List.drop k0 s_) k0 s0) (fun (y0 : Unit) => (forL (slicesIndex_string_f0 v) slicesIndex_string_e0 s_ 0 ()) = .brk y0) s_.length () (Qc (by kernel_rfl)) rfl (fun k0 s0 hk0 hI0 => ?_) (fun k0 s0 hk0 hI0 => ?_) (fun y0 hD0 => ?_)
 ·
  obtain ⟨a0, hx0⟩ := get_some (l := s_) (i := k0) hk0
  refine Qa ?_
  refine rk Qb [(9, .b true)] [] [] [] [(0, .val (.b true))] (o1 (Qf (Qe (decide_eq_true (p := ((k0 : Nat) : Int) < (s_.length : Int)) (by omega))))) ?_
  refine Qa ?_
  refine ckT ?_
  refine Qg ?_
  refine Qa ?_
  refine awp_block ?_
  refine Qa ?_
  refine rk Qb [(5, .i ((k0 : Nat) : Int))] [9] [] [] [] (o0) ?_
  refine Qa ?_
  refine rk Qb [(16, .b (v.toList == a0.toList))] [] [] [] [(3, .row [.s a0])] (o1 (ob_elem (el_of (i := ((k0 : Nat) : Int)) (by omega) rfl hx0))) ?_
  refine ck (v.toList == a0.toList) (fun h3 => ?_) (fun h3 => ?_)
  ·
   refine Qa ?_
   refine rk Qb [(4, .i ((k0 : Nat) : Int))] [4, 5, 16] [] [] [] (o0) ?_
   refine Qh ?_
   have hr4 : (forL (slicesIndex_string_f0 v) slicesIndex_string_e0 s_ 0 ()) = .ret ((k0 : Nat) : Int) := forL_ret hx0 (bif_t h3 (rfl)) hI0
   exact pret [] (congrArg (fun z => (.i z : AV)) (show slicesIndex_string s_ v = ((k0 : Nat) : Int) from on_r hr4).symm)
  ·
   refine Qg ?_
   refine rk Qb [(8, .i ((k0 + 1 : Nat) : Int))] [5, 8, 16] [] [] [(0, .val (.i ((k0 + 1 : Nat) : Int)))] (o1 (Qf (av_i (wrap_succ k0 (by omega))))) ?_
   exact Exists.intro () (And.intro (Qc (by kernel_rfl)) (forL_next hx0 (bif_f h3 (rfl)) hI0))
 ·
  refine Qa ?_
  refine rk Qb [(9, .b false)] [] [] [] [(0, .val (.b false))] (o1 (Qf (Qe (decide_eq_false (p := ((k0 : Nat) : Int) < (s_.length : Int)) (by omega))))) ?_
  refine Qa ?_
  refine ckF ?_
  refine awp_exit ?_
  exact Exists.intro () (And.intro (Qc (by kernel_rfl)) (forL_end hk0 (rfl) hI0))
 ·
  refine Qa ?_
  refine rk Qb [(4, .i (-1))] [4] [] [] [] (o0) ?_
  refine Qh ?_
  exact pret [] (congrArg (fun z => (.i z : AV)) (show slicesIndex_string s_ v = -1 from on_b hD0 (rfl)).symm)
def slicesContains_string (s_ : (List ByteArray)) (v : ByteArray) : Bool := decide ((slicesIndex_string s_ v) ≥ (0 : Int))
theorem slicesContains_string_a (s_ : (List ByteArray)) (v : ByteArray) : ACalls Tryz.prog 80 [.h s_, .s v] (.b (slicesContains_string s_ v)) := by
 refine acalls_of (tt := tt) Qb Tryz.func80 (fn := Tryz.f80) rfl (by unfold FnOk; kernel_rfl) (Nat.le_of_ble_eq_true rfl) fun w0 F0 hG => ?_
 refine Qa ?_
 refine rk Qb [(4, .b false)] [] [] [] [] (o0) ?_
 refine Qa ?_
 refine rk Qb [(4, .b (decide ((slicesIndex_string s_ v) ≥ (0 : Int))))] [0, 1, 4] [] [] [(2, .val (.i (slicesIndex_string s_ v)))] (o1 (Qd (slicesIndex_string_a s_ v))) ?_
 refine Qh ?_
 exact pret [] (congrArg (fun z => (.b z : AV)) (show slicesContains_string s_ v = decide ((slicesIndex_string s_ v) ≥ (0 : Int)) from rfl).symm)
def slicesMax_int_f0 (x : (List Int)) (k0 : Nat) (s0 : Int) : Rd (Int) (Int) (Int) := (.next (max s0 (nth x (k0 + 1))))
def slicesMax_int_e0 (_ : Nat) (s0 : Int) : Int := s0
def slicesMax_int (x : (List Int)) : Int := (Out.on (forN (slicesMax_int_f0 x) slicesMax_int_e0 (x.length - 1) 0 (nth x 0)) (fun y0 => y0))
theorem slicesMax_int_a (x : (List Int)) (hp : 0 < x.length) : ACalls Tryz.prog 126 [.h x] (.i (slicesMax_int x)) := by
 refine acalls_of (tt := tt) Qb Tryz.func126 (fn := Tryz.f126) rfl (by unfold FnOk; kernel_rfl) (Nat.le_of_ble_eq_true rfl) fun w0 F0 hG => ?_
 refine Qa ?_
 refine rk Qb [(2, .i 0)] [] [] [] [] (o0) ?_
 refine Qa ?_
 refine Qa ?_
 refine rk Qb [(7, .b false)] [] [] [] [(1, .val (.i (x.length : Int))), (2, .val (.b false))] (o2 (Qf (av_len x)) (o1 (Qf (show .b (decide ((x.length : Int) < (1 : Int))) = .b false from Qe (decide_eq_false (by omega)))))) ?_
 refine ckF ?_
 refine Qg ?_
 refine Qa ?_
 refine wdT 0 0 .sh x (fun hw2 => ?_)
 have hl3 : List.length x ≤ 1073741824 := wide_len (hw2)
 have hx1 : x[0]? = some (nth x 0) := nth_get (by omega)
 refine rk Qb [(3, .i (nth x 0))] [7] [] [] [(1, .row [.i (nth x 0)])] (o1 (ob_elem (el_of (i := 0) (by omega) rfl hx1))) ?_
 refine Qa ?_
 refine Qa ?_
 refine rk Qb [(4, .i 1)] [] [] [] [] (o0) ?_
 refine blk (fun (k0 : Nat) (s0 : Int) => [(3, .i s0), (4, .i ((k0 + 1 : Nat) : Int))]) [3, 4] (fun k0 s0 => []) [] (fun (y0 : Int) => [(3, .i y0)]) [0, 3, 4] (fun y0 => []) [] (fun (k0 : Nat) (s0 : Int) => (forN (slicesMax_int_f0 x) slicesMax_int_e0 (x.length - 1) 0 (nth x 0)) = forN (slicesMax_int_f0 x) slicesMax_int_e0 ((x.length - 1) - k0) k0 s0) (fun (y0 : Int) => (forN (slicesMax_int_f0 x) slicesMax_int_e0 (x.length - 1) 0 (nth x 0)) = .brk y0) (x.length - 1) (nth x 0) (Qc (by kernel_rfl)) rfl (fun k0 s0 hk0 hI0 => ?_) (fun k0 s0 hk0 hI0 => ?_) (fun y0 hD0 => ?_)
 ·
  refine Qa ?_
  refine Qa ?_
  refine rk Qb [(15, .b true)] [] [] [] [(2, .val (.i (x.length : Int))), (3, .val (.b true))] (o2 (Qf (av_len x)) (o1 (Qf (Qe (decide_eq_true (p := ((k0 + 1 : Nat) : Int) < (x.length : Int)) (by omega)))))) ?_
  refine ckT ?_
  refine Qg ?_
  refine Qa ?_
  refine awp_block ?_
  have hx4 : x[(k0 + 1)]? = some (nth x (k0 + 1)) := nth_get (by omega)
  refine rk Qb [(3, .i (max s0 (nth x (k0 + 1))))] [3, 15] [] [] [(3, .row [.i (nth x (k0 + 1))])] (o1 (ob_elem (el_of (i := ((k0 + 1 : Nat) : Int)) (by omega) rfl hx4))) ?_
  refine rk Qb [(4, .i ((k0 + 2 : Nat) : Int))] [4] [] [] [(1, .val (.i ((k0 + 2 : Nat) : Int)))] (o1 (Qf (show .i (IntKind.i64.wrap (((k0 + 1 : Nat) : Int) + 1)) = .i ((k0 + 2 : Nat) : Int) from av_i ((IntWalk.i64_in _ (by omega)).trans (by omega))))) ?_
  exact Exists.intro (max s0 (nth x (k0 + 1))) (And.intro (Qc (by kernel_rfl)) (forN_next hk0 (rfl) hI0))
 ·
  refine Qa ?_
  refine Qa ?_
  refine rk Qb [(15, .b false)] [] [] [] [(2, .val (.i (x.length : Int))), (3, .val (.b false))] (o2 (Qf (av_len x)) (o1 (Qf (Qe (decide_eq_false (p := ((k0 + 1 : Nat) : Int) < (x.length : Int)) (by omega)))))) ?_
  refine ckF ?_
  refine awp_exit ?_
  exact Exists.intro s0 (And.intro (Qc (by kernel_rfl)) (forN_end hk0 (rfl) hI0))
 ·
  refine Qa ?_
  refine rk Qb [(2, .i y0)] [2, 3] [] [] [] (o0) ?_
  refine Qh ?_
  exact pret [] (congrArg (fun z => (.i z : AV)) (show slicesMax_int x = y0 from on_b hD0 (rfl)).symm)
def implMaxStratum (d : (List DirD)) : Int := (bif ((!(((Qi d)).2)) || (((((Qi d)).1).length : Int) == (0 : Int))) then -1 else (slicesMax_int (((Qi d)).1)))
theorem implMaxStratum_a (d : (List DirD)) : ACalls Tryz.prog 101 [.h d] (.i (implMaxStratum d)) := by
 refine acalls_of (tt := tt) Qb Tryz.func101 (fn := Tryz.f101) rfl (by unfold FnOk; kernel_rfl) (Nat.le_of_ble_eq_true rfl) fun w0 F0 hG => ?_
 refine Qa ?_
 refine rk Qb [(2, .i 0)] [] [] [] [] (o0) ?_
 refine Qa ?_
 refine rk Qb [(3, .o 448 (((Qi d)).1)), (4, .b (((Qi d)).2))] [0] [] [] [(1, .val (.tup [(false, [.o 0 (((Qi d)).1)]), (false, [.b (((Qi d)).2)])]))] (o1 (Qd (implStrata_a d))) ?_
 refine Qa ?_
 refine Qa ?_
 refine jn [(16, .b ((!(((Qi d)).2)) || (((((Qi d)).1).length : Int) == (0 : Int))))] [4] [] [] (!(((Qi d)).2)) (fun h1 => ?_) (fun h1 => ?_) ?_
 ·
  have h1n : (((Qi d)).2) = false := bnot_t h1
  refine rk Qb [(16, .b true)] [4] [] [] [(0, .val (.b false)), (1, .val (.b true))] (o2 (Qf (Qe h1n)) (o1 (Qf (show .b (!false) = .b true from rfl)))) ?_
  exact ⟨rfl, Qc (by rw [h1]; first | done | kernel_rfl)⟩
 ·
  have h1n : (((Qi d)).2) = true := bnot_f h1
  refine rk Qb [(16, .b (((((Qi d)).1).length : Int) == (0 : Int)))] [4] [] [] [(0, .val (.b true)), (1, .val (.b false)), (4, .val (.i ((((Qi d)).1).length : Int)))] (o2 (Qf (Qe h1n)) (o2 (Qf (show .b (!true) = .b false from rfl)) (o1 (Qf (av_len (((Qi d)).1)))))) ?_
  exact ⟨rfl, Qc (by rw [h1]; first | done | kernel_rfl)⟩
 refine ck ((!(((Qi d)).2)) || (((((Qi d)).1).length : Int) == (0 : Int))) (fun h2 => ?_) (fun h2 => ?_)
 ·
  refine Qa ?_
  refine rk Qb [(2, .i (-1))] [2, 16] [] [] [] (o0) ?_
  refine Qh ?_
  exact pret [] (congrArg (fun z => (.i z : AV)) (show implMaxStratum d = -1 from bif_t h2 (rfl)).symm)
 ·
  have h2l : ((!(((Qi d)).2))) = false := or_l h2
  have h2ln : (((Qi d)).2) = true := bnot_f h2l
  have h2r : ((((((Qi d)).1).length : Int) == (0 : Int))) = false := or_r h2
  have h2rd := ne_of_beq h2r
  refine Qg ?_
  refine Qa ?_
  refine rk Qb [(2, .i (slicesMax_int (((Qi d)).1)))] [2, 3, 16] [] [] [(1, .val (.i (slicesMax_int (((Qi d)).1))))] (o1 (Qd (slicesMax_int_a (((Qi d)).1) (by first | omega | (simp_all; omega))))) ?_
  refine Qh ?_
  exact pret [] (congrArg (fun z => (.i z : AV)) (show implMaxStratum d = (slicesMax_int (((Qi d)).1)) from bif_f h2 (rfl)).symm)
def slicesEqual_int_f0 (s2_ : (List Int)) (k0 : Nat) (a0 : Int) (_ : Unit) : Rd (Bool) (Unit) (Unit) := (bif (a0 != (nth s2_ k0)) then (.ret false) else (.next ()))
def slicesEqual_int_e0 (_ : Nat) (_ : Unit) : Unit := ()
def slicesEqual_int (s1_ : (List Int)) (s2_ : (List Int)) : Bool := (bif ((s1_.length : Int) != (s2_.length : Int)) then false else (Out.on (forL (slicesEqual_int_f0 s2_) slicesEqual_int_e0 s1_ 0 ()) (fun _ => true)))
theorem slicesEqual_int_a (s1_ : (List Int)) (s2_ : (List Int)) : ACalls Tryz.prog 103 [.h s1_, .h s2_] (.b (slicesEqual_int s1_ s2_)) := by
 refine acalls_of (tt := tt) Qb Tryz.func103 (fn := Tryz.f103) rfl (by unfold FnOk; kernel_rfl) (Nat.le_of_ble_eq_true rfl) fun w0 F0 hG => ?_
 refine Qa ?_
 refine rk Qb [(4, .b false)] [] [] [] [] (o0) ?_
 refine Qa ?_
 refine Qa ?_
 refine rk Qb [(10, .b ((s1_.length : Int) != (s2_.length : Int)))] [] [] [] [(1, .val (.i (s1_.length : Int))), (3, .val (.i (s2_.length : Int)))] (o2 (Qf (av_len s1_)) (o1 (Qf (av_len s2_)))) ?_
 refine ck ((s1_.length : Int) != (s2_.length : Int)) (fun h1 => ?_) (fun h1 => ?_)
 ·
  refine Qa ?_
  refine rk Qb [] [10] [] [] [] (o0) ?_
  refine Qh ?_
  exact pret [] (congrArg (fun z => (.b z : AV)) (show slicesEqual_int s1_ s2_ = false from bif_t h1 (rfl)).symm)
 ·
  have h1d := eq_of_bne h1
  refine Qg ?_
  refine Qa ?_
  refine Qa ?_
  refine rk Qb [(12, .i (s1_.length : Int)), (13, .i 0)] [10] [] [] [(1, .val (.i (s1_.length : Int)))] (o1 (Qf (av_len s1_))) ?_
  refine wdT 0 0 .sh s1_ (fun hw2 => ?_)
  have hl3 : List.length s1_ ≤ 1073741824 := wide_len (hw2)
  refine blk (fun (k0 : Nat) (s0 : Unit) => [(13, .i ((k0 : Nat) : Int))]) [13] (fun k0 s0 => []) [] (fun (y0 : Unit) => []) [0, 1, 12, 13] (fun y0 => []) [] (fun (k0 : Nat) (s0 : Unit) => (forL (slicesEqual_int_f0 s2_) slicesEqual_int_e0 s1_ 0 ()) = forL (slicesEqual_int_f0 s2_) slicesEqual_int_e0 (List.drop k0 s1_) k0 s0) (fun (y0 : Unit) => (forL (slicesEqual_int_f0 s2_) slicesEqual_int_e0 s1_ 0 ()) = .brk y0) s1_.length () (Qc (by kernel_rfl)) rfl (fun k0 s0 hk0 hI0 => ?_) (fun k0 s0 hk0 hI0 => ?_) (fun y0 hD0 => ?_)
  ·
   obtain ⟨a0, hx0⟩ := get_some (l := s1_) (i := k0) hk0
   refine Qa ?_
   refine rk Qb [(14, .b true)] [] [] [] [(0, .val (.b true))] (o1 (Qf (Qe (decide_eq_true (p := ((k0 : Nat) : Int) < (s1_.length : Int)) (by omega))))) ?_
   refine Qa ?_
   refine ckT ?_
   refine Qg ?_
   refine Qa ?_
   refine awp_block ?_
   refine Qa ?_
   refine rk Qb [(5, .i ((k0 : Nat) : Int))] [14] [] [] [] (o0) ?_
   refine Qa ?_
   refine wdT 1 0 .sh s2_ (fun hw5 => ?_)
   have hl6 : List.length s2_ ≤ 1073741824 := wide_len (hw5)
   have hx4 : s2_[k0]? = some (nth s2_ k0) := nth_get (by omega)
   refine rd' Qb tt_mx [(24, .b (a0 != (nth s2_ k0)))] [5] [] [] [(2, .row [.i a0]), (6, .row [.i (nth s2_ k0)])] (o2 (ob_elem (el_of (i := ((k0 : Nat) : Int)) (by omega) rfl hx0)) (o1 (ob_elem (el_of (i := ((k0 : Nat) : Int)) (by omega) rfl hx4)))) ?_
   refine ck (a0 != (nth s2_ k0)) (fun h7 => ?_) (fun h7 => ?_)
   ·
    refine Qa ?_
    refine rk Qb [] [24] [] [] [] (o0) ?_
    refine Qh ?_
    have hr8 : (forL (slicesEqual_int_f0 s2_) slicesEqual_int_e0 s1_ 0 ()) = .ret false := forL_ret hx0 (bif_t h7 (rfl)) hI0
    exact pret [] (congrArg (fun z => (.b z : AV)) (show slicesEqual_int s1_ s2_ = false from bif_f h1 (on_r hr8)).symm)
   ·
    have h7d := eq_of_bne h7
    refine Qg ?_
    refine rk Qb [(13, .i ((k0 + 1 : Nat) : Int))] [13, 24] [] [] [(0, .val (.i ((k0 + 1 : Nat) : Int)))] (o1 (Qf (av_i (wrap_succ k0 (by omega))))) ?_
    exact Exists.intro () (And.intro (Qc (by kernel_rfl)) (forL_next hx0 (bif_f h7 (rfl)) hI0))
  ·
   refine Qa ?_
   refine rk Qb [(14, .b false)] [] [] [] [(0, .val (.b false))] (o1 (Qf (Qe (decide_eq_false (p := ((k0 : Nat) : Int) < (s1_.length : Int)) (by omega))))) ?_
   refine Qa ?_
   refine ckF ?_
   refine awp_exit ?_
   exact Exists.intro () (And.intro (Qc (by kernel_rfl)) (forL_end hk0 (rfl) hI0))
  ·
   refine Qa ?_
   refine rk Qb [(4, .b true)] [4] [] [] [] (o0) ?_
   refine Qh ?_
   exact pret [] (congrArg (fun z => (.b z : AV)) (show slicesEqual_int s1_ s2_ = true from bif_f h1 (on_b hD0 (rfl))).symm)
def implevaluated_f0 (r : (List Qj)) (names : (List ByteArray)) (_ : Nat) (a0 : DirD) (s0 : (List Qj)) : Rd ((List Qj) × Int × Bool) ((List Qj)) ((List Qj)) := (bif (!(slicesContains_string names a0.1)) then (.next (s0 ++ [(a0.1, (implResultIDs r a0.1))])) else (.next (s0 ++ [((a0.1, []) : Qj)])))
def implevaluated_e0 (_ : Nat) (s0 : (List Qj)) : (List Qj) := s0
def implevaluated_f3 (s_ : StoreD) (d : (List DirD)) (names : (List ByteArray)) (k1 : Nat) (k3 : Nat) (a3 : DirD) (s3 : (List Qj) × Bool) : Rd (Rd (Rd ((List Qj) × Int × Bool) ((List Qj) × Int) ((List Qj) × Int)) ((List Qj) × Int × Bool) ((List Qj) × Int)) ((List Qj) × Bool) ((List Qj) × Bool) := (bif (((nth (((Qi d)).1) k3) != ((k1 : Nat) : Int)) || (!(slicesContains_string names a3.1))) then (.next (s3.1, s3.2)) else (bif (!(slicesEqual_int (implSelectFiles s_ a3.2 s3.1) ((nth s3.1 k3).2))) then (.next (List.set s3.1 k3 ((nth s3.1 k3).1, (implSelectFiles s_ a3.2 s3.1)), true)) else (.next (s3.1, s3.2))))
def implevaluated_e3 (_ : Nat) (s3 : (List Qj) × Bool) : (List Qj) × Bool := (s3.1, s3.2)
def implevaluated_f2 (s_ : StoreD) (d : (List DirD)) (names : (List ByteArray)) (k1 : Nat) (s2 : (List Qj) × Int × Bool) : Rd (Rd ((List Qj) × Int × Bool) ((List Qj) × Int) ((List Qj) × Int)) ((List Qj) × Int × Bool) ((List Qj) × Int) := (bif s2.2.2 then (Out.on (forL (implevaluated_f3 s_ d names k1) implevaluated_e3 d 0 (s2.1, false)) (fun y3 => (.next (y3.1, IntKind.i64.wrap (s2.2.1 + 1), y3.2)))) else (.brk (s2.1, s2.2.1)))
def implevaluated_f1 (s_ : StoreD) (d : (List DirD)) (names : (List ByteArray)) (k1 : Nat) (s1 : (List Qj) × Int) : Rd ((List Qj) × Int × Bool) ((List Qj) × Int) ((List Qj) × Int) := (Out.on (whlD (implevaluated_f2 s_ d names k1) (List.length d * List.length s_.2.1 + 2) (s1.1, s1.2, true)) (fun y2 => (.next (y2.1, y2.2))))
def implevaluated_e1 (_ : Nat) (s1 : (List Qj) × Int) : (List Qj) × Int := (s1.1, s1.2)
def implevaluated (s_ : StoreD) (d : (List DirD)) (r : (List Qj)) (names : (List ByteArray)) : (List Qj) × Int × Bool := (bif ((!(((Qi d)).2)) || (!(implIsValidStore s_))) then ([], 0, false) else (Out.on (forL (implevaluated_f0 r names) implevaluated_e0 d 0 []) (fun y0 => (Out.on (forN (implevaluated_f1 s_ d names) implevaluated_e1 (Int.toNat ((implMaxStratum d) + 1)) 0 (y0, 0)) (fun y1 => (y1.1, y1.2, true))))))
theorem max_go {B : Int} {x : List Int} (hx : ∀ a, a ∈ x → a ≤ B) (hB : 0 ≤ B) : ∀ (n k : Nat) (s : Int), s ≤ B → ∃ t, forN (slicesMax_int_f0 x) slicesMax_int_e0 n k s = .brk t ∧ t ≤ B
 | 0, k, s, h => ⟨s, rfl, h⟩
 | n + 1, k, s, h => by
  obtain ⟨t, h1, h2⟩ := max_go hx hB n (k + 1) (max s (nth x (k + 1))) (by
   by_cases hk : k + 1 < x.length
   · have := hx _ (nth_mem hk); omega
   · rw [nth_out (by omega)]; omega)
  exact ⟨t, by simp only [forN, slicesMax_int_f0]; exact h1, h2⟩
theorem strata_factsI {d : List DirD} (h : ((Qi d)).2 = true) : List.length ((Qi d)).1 = List.length d ∧ List.length d ≤ 5 ∧ implMaxStratum d ≤ 5 := by
 obtain ⟨h1, h2, h3⟩ := strata_small h
 refine ⟨h1, h2, ?_⟩
 unfold implMaxStratum
 rw [h]
 simp only [Bool.not_true, Bool.false_or]
 cases hl : (((((Qi d)).1).length : Int) == (0 : Int)) with
 | true => simp only [cond_true]; omega
 | false =>
  simp only [cond_false]
  have hp : 0 < (((Qi d)).1).length := by have := ne_of_beq hl; omega
  unfold slicesMax_int
  obtain ⟨t, e, ht⟩ := max_go (B := 5) (x := ((Qi d)).1) (fun a ha => (h3 a ha).2) (by omega) ((((Qi d)).1).length - 1) 0 (nth ((Qi d)).1 0) (h3 _ (nth_mem hp)).2
  rw [e]; exact ht
theorem eqI_dec (a b : List Int) : slicesEqual_int a b = decide (a = b) := ints_dec a b
def onD (d : List DirD) (names : List ByteArray) (j : Nat) : Bool := slicesContains_string names (nth d j).1
theorem evaluated_step (s_ : StoreD) (d : List DirD) (names : List ByteArray) (k1 : Nat) : StepE s_ d (Qi d).1 (onD d names) (k1 : Int) (implevaluated_f3 s_ d names k1) := by
 intro k a o c hk
 have ha : nth d k = a := nth_of hk
 unfold implevaluated_f3 actD onD
 rw [ha, eqI_dec]
 simp only [bne]
 cases (nth (Qi d).1 k == (k1 : Int)) <;> cases slicesContains_string names a.1 <;> rfl
section
variable {s_ : StoreD} {d : List DirD} {names : List ByteArray} {k1 : Nat} {o : List Qj} {p : Int}
theorem evaluated_run (hS : ((Qi d)).2 = true) (h : EvS d ((Qi d)).1 (onD d names) s_.2.1 (k1 : Int) o) : ∃ o' p', whl (implevaluated_f2 s_ d names k1) (List.length d * List.length s_.2.1 + 2) (o, p, true) = some (.brk (o', p')) ∧ EvS d ((Qi d)).1 (onD d names) s_.2.1 ((k1 : Int) + 1) o' :=
 ev_run (f := implevaluated_f3 s_ d names k1) (e := implevaluated_e3) (evaluated_step s_ d names k1) (fun _ _ => rfl) (fun _ => rfl) (Prod.ext rfl hS) h p
theorem evaluated_w (hS : ((Qi d)).2 = true) (h : EvS d ((Qi d)).1 (onD d names) s_.2.1 (((k1 : Nat)) : Int) o) : (whl (implevaluated_f2 s_ d names k1) (List.length d * List.length s_.2.1 + 2) (o, p, true)).isSome = true := by
 obtain ⟨o', p', h1, _⟩ := evaluated_run (p := p) hS h
 rw [h1]; rfl
theorem evaluated_next {y : List Qj × Int} (hS : ((Qi d)).2 = true) (h : EvS d ((Qi d)).1 (onD d names) s_.2.1 (((k1 : Nat)) : Int) o) (hy : whlD (implevaluated_f2 s_ d names k1) (List.length d * List.length s_.2.1 + 2) (o, p, true) = .brk y) : EvS d ((Qi d)).1 (onD d names) s_.2.1 ((((k1 + 1) : Nat)) : Int) y.1 := by
 obtain ⟨o', p', h1, h2⟩ := evaluated_run (p := p) hS h
 unfold whlD at hy
 rw [h1] at hy
 have e : (o', p') = y := by simpa using hy
 rw [← e, Int.natCast_add]; exact h2
def startG (r : List Qj) (names : List ByteArray) (a : DirD) : List Int := bif (!(slicesContains_string names a.1)) then (implResultIDs r a.1) else []
theorem evaluated_start {r : List Qj} (hy : forL (implevaluated_f0 r names) implevaluated_e0 d 0 [] = .brk o) : EvS d ((Qi d)).1 (onD d names) s_.2.1 (((0 : Nat)) : Int) o := by
 obtain ⟨h1, h2⟩ := ev_start (L := ((Qi d)).1) (on := onD d names) (fs := s_.2.1) (g := startG r names) (f := implevaluated_f0 r names) (e := implevaluated_e0) (d := d) (fun k a s => by
  unfold implevaluated_f0 startG
  cases slicesContains_string names a.1 <;> rfl) (fun j _ hj => by unfold onD at hj; unfold startG; rw [hj]; rfl)
 rw [h1] at hy
 have e : (d.map fun a => ((a.1, startG r names a) : Qj)) = o := Out.brk.inj hy
 rw [← e]; exact h2
end
theorem implevaluated_a (s_ : StoreD) (d : (List DirD)) (r : (List Qj)) (names : (List ByteArray)) : ACalls Tryz.prog 72 [.a [.h s_.1, .h s_.2.1, .i s_.2.2], .h d, .h r, .h names] (.tup [(false, [.o 0 (((implevaluated s_ d r names)).1)]), (false, [.i (((implevaluated s_ d r names)).2.1)]), (false, [.b (((implevaluated s_ d r names)).2.2)])]) := by
 refine acalls_of (tt := tt) Qb Tryz.func72 (fn := Tryz.f72) rfl (by unfold FnOk; kernel_rfl) (Nat.le_of_ble_eq_true rfl) fun w0 F0 hG => ?_
 refine Qa ?_
 refine rk Qb [(4, .p 4 0), (8, .e 0), (9, .i 0), (10, .b false)] [0] [(4, [.h s_.1, .h s_.2.1, .i s_.2.2])] [] [] (o0) ?_
 refine Qa ?_
 refine rk Qb [(11, .o 1600 (((Qi d)).1)), (12, .b (((Qi d)).2))] [] [] [] [(1, .val (.tup [(false, [.o 0 (((Qi d)).1)]), (false, [.b (((Qi d)).2)])]))] (o1 (Qd (implStrata_a d))) ?_
 refine Qa ?_
 refine Qa ?_
 refine jn [(34, .b ((!(((Qi d)).2)) || (!(implIsValidStore s_))))] [12] [] [] (!(((Qi d)).2)) (fun h1 => ?_) (fun h1 => ?_) ?_
 ·
  have h1n : (((Qi d)).2) = false := bnot_t h1
  refine rk Qb [(34, .b true)] [12] [] [] [(0, .val (.b false)), (1, .val (.b true))] (o2 (Qf (Qe h1n)) (o1 (Qf (show .b (!false) = .b true from rfl)))) ?_
  exact ⟨rfl, Qc (by rw [h1]; first | done | kernel_rfl)⟩
 ·
  have h1n : (((Qi d)).2) = true := bnot_f h1
  have h1nsf := strata_factsI h1n
  refine rk Qb [(34, .b (!(implIsValidStore s_)))] [12] [] [] [(0, .val (.b true)), (1, .val (.b false)), (4, .val (.b (implIsValidStore s_)))] (o2 (Qf (Qe h1n)) (o2 (Qf (show .b (!true) = .b false from rfl)) (o1 (Qd (implIsValidStore_a s_))))) ?_
  exact ⟨rfl, Qc (by rw [h1]; first | done | kernel_rfl)⟩
 refine ck ((!(((Qi d)).2)) || (!(implIsValidStore s_))) (fun h2 => ?_) (fun h2 => ?_)
 ·
  refine Qa ?_
  refine rk Qb [] [34] [] [] [] (o0) ?_
  refine opn [(false, 8, 0, true, 384000, 2)] ?_
  refine Qh ?_
  exact pret [] (congrArg (fun z => (.tup [(false, [.o 0 z.1]), (false, [.i z.2.1]), (false, [.b z.2.2])] : AV)) (show implevaluated s_ d r names = ([], 0, false) from bif_t h2 (rfl)).symm)
 ·
  have h2l : ((!(((Qi d)).2))) = false := or_l h2
  have h2ln : (((Qi d)).2) = true := bnot_f h2l
  have h2lnsf := strata_factsI h2ln
  have h2r : ((!(implIsValidStore s_))) = false := or_r h2
  have h2rn : (implIsValidStore s_) = true := bnot_f h2r
  refine Qg ?_
  refine Qa ?_
  refine rk Qb [(13, .one (.slc (.own true 2240) 2 []))] [34] [] [] [] (o0) ?_
  refine Qa ?_
  refine Qa ?_
  refine rk Qb [(36, .h d), (37, .i (d.length : Int)), (38, .i 0)] [] [] [] [(1, .val (.i (d.length : Int)))] (o1 (Qf (av_len d))) ?_
  refine wdT 1 0 .sh d (fun hw3 => ?_)
  have hl4 : List.length d ≤ 1073741824 := wide_len (hw3)
  refine blk (fun (k0 : Nat) (s0 : (List Qj)) => [(13, .o 147208 s0), (38, .i ((k0 : Nat) : Int))]) [13, 38] (fun k0 s0 => []) [] (fun (y0 : (List Qj)) => [(13, .o 147358 y0)]) [2, 13, 36, 37, 38] (fun y0 => []) [] (fun (k0 : Nat) (s0 : (List Qj)) => (forL (implevaluated_f0 r names) implevaluated_e0 d 0 []) = forL (implevaluated_f0 r names) implevaluated_e0 (List.drop k0 d) k0 s0 ∧ List.length s0 ≤ k0) (fun (y0 : (List Qj)) => (forL (implevaluated_f0 r names) implevaluated_e0 d 0 []) = .brk y0) d.length [] (weak_sf [(2240, 147208)] (by kernel_rfl)) ⟨rfl, (by simp)⟩ (fun k0 s0 hk0 hI0 => ?_) (fun k0 s0 hk0 hI0 => ?_) (fun y0 hD0 => ?_)
  ·
   have hA0_0 := hI0.2
   obtain ⟨a0, hx0⟩ := get_some (l := d) (i := k0) hk0
   refine Qa ?_
   refine rk Qb [(39, .b true)] [] [] [] [(0, .val (.b true))] (o1 (Qf (Qe (decide_eq_true (p := ((k0 : Nat) : Int) < (d.length : Int)) (by omega))))) ?_
   refine Qa ?_
   refine ckT ?_
   refine Qg ?_
   refine Qa ?_
   refine awp_block ?_
   refine Qa ?_
   refine rk Qb [(15, .p 15 0)] [39] [(15, [.s a0.1, .h a0.2])] [] [(0, .row [.s a0.1, .h a0.2])] (o1 (ob_elem (el_of (i := ((k0 : Nat) : Int)) (by omega) rfl hx0))) ?_
   refine Qa ?_
   refine rk Qb [(16, .p 16 0)] [] [(16, [.s a0.1, .e 1])] [] [] (o0) ?_
   refine Qa ?_
   refine Qa ?_
   refine rk Qb [(49, .b (!(slicesContains_string names a0.1)))] [] [] [] [(3, .val (.b (slicesContains_string names a0.1)))] (o1 (Qd (slicesContains_string_a names a0.1))) ?_
   refine ck (!(slicesContains_string names a0.1)) (fun h5 => ?_) (fun h5 => ?_)
   ·
    have h5n : (slicesContains_string names a0.1) = false := bnot_t h5
    refine rk Qb [] [15, 49] [(16, [.s a0.1, .o 3392 (implResultIDs r a0.1)])] [15, 16] [(3, .val (.o 0 (implResultIDs r a0.1)))] (o1 (Qd (implResultIDs_a r a0.1))) ?_
    refine wdT 13 0 (.own true 147208) s0 (fun hw6 => ?_)
    have hl7 : List.length s0 ≤ 1073741824 := wide_len (hw6)
    refine rk Qb [(13, .one (.slc (.own true 3712) 2 ((eL s0) ++ [[.s a0.1, .h (implResultIDs r a0.1)]])))] [13, 16] [] [16] [] (o1 (ob_len (len_of (eL_length s0) (eL_length [(a0.1, (implResultIDs r a0.1))]) (by first | omega | (simp; omega) | simp)))) ?_
    refine eqn [(13, .o 3712 (s0 ++ [(a0.1, (implResultIDs r a0.1))]))] [13] [] [] (by rw [show ((eL s0) ++ [[.s a0.1, .h (implResultIDs r a0.1)]]) = (eL (s0 ++ [(a0.1, (implResultIDs r a0.1))])) from app_eL (rfl) (rfl)]; first | done | kernel_rfl) ?_
    refine rk Qb [(38, .i ((k0 + 1 : Nat) : Int))] [38] [] [] [(0, .val (.i ((k0 + 1 : Nat) : Int)))] (o1 (Qf (av_i (wrap_succ k0 (by omega))))) ?_
    exact Exists.intro (s0 ++ [(a0.1, (implResultIDs r a0.1))]) (And.intro (weak_sf [(3712, 147208)] (by kernel_rfl)) ⟨forL_next hx0 (bif_t h5 (rfl)) hI0.1, by first | omega | (simp; omega) | simp⟩)
   ·
    have h5n : (slicesContains_string names a0.1) = true := bnot_f h5
    refine Qg ?_
    refine wdT 13 0 (.own true 147208) s0 (fun hw8 => ?_)
    have hl9 : List.length s0 ≤ 1073741824 := wide_len (hw8)
    refine rk Qb [(13, .one (.slc (.own true 3712) 2 ((eL s0) ++ [[.s a0.1, .slc 1 []]])))] [13, 15, 16, 49] [] [15, 16] [] (o1 (ob_len (len_of (eL_length s0) (eL_length [((a0.1, []) : Qj)]) (by first | omega | (simp; omega) | simp)))) ?_
    refine eqn [(13, .o 3712 (s0 ++ [((a0.1, []) : Qj)]))] [13] [] [] (by rw [show ((eL s0) ++ [[.s a0.1, .slc 1 []]]) = (eL (s0 ++ [((a0.1, []) : Qj)])) from app_eL (rfl) (rfl)]; first | done | kernel_rfl) ?_
    refine rk Qb [(38, .i ((k0 + 1 : Nat) : Int))] [38] [] [] [(0, .val (.i ((k0 + 1 : Nat) : Int)))] (o1 (Qf (av_i (wrap_succ k0 (by omega))))) ?_
    exact Exists.intro (s0 ++ [((a0.1, []) : Qj)]) (And.intro (weak_sf [(3712, 147208)] (by kernel_rfl)) ⟨forL_next hx0 (bif_f h5 (rfl)) hI0.1, by first | omega | (simp; omega) | simp⟩)
  ·
   have hA0_0 := hI0.2
   refine Qa ?_
   refine rk Qb [(39, .b false)] [] [] [] [(0, .val (.b false))] (o1 (Qf (Qe (decide_eq_false (p := ((k0 : Nat) : Int) < (d.length : Int)) (by omega))))) ?_
   refine Qa ?_
   refine ckF ?_
   refine awp_exit ?_
   exact Exists.intro s0 (And.intro (weak_sf [(147208, 147358)] (by kernel_rfl)) (forL_end hk0 (rfl) hI0.1))
  ·
   refine Qa ?_
   refine rk Qb [(17, .i 0)] [] [] [] [] (o0) ?_
   refine Qa ?_
   refine Qa ?_
   refine rk Qb [(18, .i 0)] [] [] [] [] (o0) ?_
   refine blk (fun (k1 : Nat) (s1 : (List Qj) × Int) => [(13, .o 147358 s1.1), (17, .i s1.2), (18, .i ((k1 : Nat) : Int))]) [13, 17, 18] (fun k1 s1 => []) [] (fun (y1 : (List Qj) × Int) => [(13, .o 147358 y1.1), (17, .i y1.2)]) [1, 3, 4, 11, 13, 17, 18] (fun y1 => []) [4] (fun (k1 : Nat) (s1 : (List Qj) × Int) => (forN (implevaluated_f1 s_ d names) implevaluated_e1 (Int.toNat ((implMaxStratum d) + 1)) 0 (y0, 0)) = forN (implevaluated_f1 s_ d names) implevaluated_e1 ((Int.toNat ((implMaxStratum d) + 1)) - k1) k1 s1 ∧ EvS d ((Qi d)).1 (onD d names) s_.2.1 (((k1 : Nat)) : Int) s1.1 ∧ List.length s1.1 = List.length d) (fun (y1 : (List Qj) × Int) => (forN (implevaluated_f1 s_ d names) implevaluated_e1 (Int.toNat ((implMaxStratum d) + 1)) 0 (y0, 0)) = .brk y1) (Int.toNat ((implMaxStratum d) + 1)) (y0, 0) (Qc (by kernel_rfl)) ⟨rfl, (by first | exact evaluated_start hD0 | exact evaluated_start hD0.1 | exact evS_len (fs := s_.2.1) (evaluated_start hD0) | exact evS_len (fs := s_.2.1) (evaluated_start hD0.1)), (by first | exact evaluated_start hD0 | exact evaluated_start hD0.1 | exact evS_len (fs := s_.2.1) (evaluated_start hD0) | exact evS_len (fs := s_.2.1) (evaluated_start hD0.1))⟩ (fun k1 s1 hk1 hI1 => ?_) (fun k1 s1 hk1 hI1 => ?_) (fun y1 hD1 => ?_)
   ·
    have hA1_0 := hI1.2.1
    have hA1_1 := hI1.2.2
    refine Qa ?_
    refine Qa ?_
    refine rk Qb [(63, .b true)] [] [] [] [(2, .val (.i (implMaxStratum d))), (3, .val (.b true))] (o2 (Qd (implMaxStratum_a d)) (o1 (Qf (Qe (decide_eq_true (p := ((k1 : Nat) : Int) ≤ (implMaxStratum d)) (by omega)))))) ?_
    refine ckT ?_
    refine Qg ?_
    refine Qa ?_
    refine awp_block ?_
    refine Qa ?_
    refine rk Qb [(19, .b true)] [63] [] [] [] (o0) ?_
    refine blw (fun (s2 : (List Qj) × Int × Bool) => [(13, .o 147358 s2.1), (17, .i s2.2.1), (19, .b s2.2.2)]) [13, 17, 19] (fun s2 => []) [] (fun (y2 : (List Qj) × Int) => [(13, .o 147358 y2.1), (17, .i y2.2)]) [13, 17, 19] (fun y2 => []) [] (fun (k2 : Nat) (s2 : (List Qj) × Int × Bool) => whl (implevaluated_f2 s_ d names k1) k2 s2 = some (whlD (implevaluated_f2 s_ d names k1) (List.length d * List.length s_.2.1 + 2) (s1.1, s1.2, true)) ∧ List.length s2.1 = List.length d) (fun (y2 : (List Qj) × Int) => (whlD (implevaluated_f2 s_ d names k1) (List.length d * List.length s_.2.1 + 2) (s1.1, s1.2, true)) = .brk y2) (List.length d * List.length s_.2.1 + 2) (s1.1, s1.2, true) (Qc (by kernel_rfl)) ⟨whl_some (evaluated_w (by assumption) (by assumption)), (by assumption)⟩ (fun _ h => whl_zero h.1) (fun k2 s2 hI2 => ?_) (fun y2 hD2 => ?_)
    ·
     have hA2_0 := hI2.2
     refine Qa ?_
     refine Qa ?_
     refine rk Qb [(66, .b s2.2.2)] [] [] [] [] (o0) ?_
     refine ck s2.2.2 (fun h10 => ?_) (fun h10 => ?_)
     ·
      refine Qg ?_
      refine awp_block ?_
      refine Qa ?_
      refine rk Qb [(19, .b false)] [19, 66] [] [] [] (o0) ?_
      refine Qa ?_
      refine rk Qb [(17, .i (IntKind.i64.wrap (s2.2.1 + 1)))] [17] [] [] [] (o0) ?_
      refine Qa ?_
      refine rk Qb [(69, .h d), (70, .i (d.length : Int)), (71, .i 0)] [] [] [] [(1, .val (.i (d.length : Int)))] (o1 (Qf (av_len d))) ?_
      refine blk (fun (k3 : Nat) (s3 : (List Qj) × Bool) => [(13, .o 147358 s3.1), (19, .b s3.2), (71, .i ((k3 : Nat) : Int))]) [13, 19, 71] (fun k3 s3 => []) [] (fun (y3 : (List Qj) × Bool) => [(13, .o 147358 y3.1), (19, .b y3.2)]) [13, 19, 69, 70, 71] (fun y3 => []) [] (fun (k3 : Nat) (s3 : (List Qj) × Bool) => (forL (implevaluated_f3 s_ d names k1) implevaluated_e3 d 0 (s2.1, false)) = forL (implevaluated_f3 s_ d names k1) implevaluated_e3 (List.drop k3 d) k3 s3 ∧ List.length s3.1 = List.length s2.1) (fun (y3 : (List Qj) × Bool) => (forL (implevaluated_f3 s_ d names k1) implevaluated_e3 d 0 (s2.1, false)) = .brk y3 ∧ List.length y3.1 = List.length s2.1) d.length (s2.1, false) (Qc (by kernel_rfl)) ⟨rfl, (by simp)⟩ (fun k3 s3 hk3 hI3 => ?_) (fun k3 s3 hk3 hI3 => ?_) (fun y3 hD3 => ?_)
      ·
       have hA3_0 := hI3.2
       obtain ⟨a3, hx3⟩ := get_some (l := d) (i := k3) hk3
       refine Qa ?_
       refine rk Qb [(72, .b true)] [] [] [] [(0, .val (.b true))] (o1 (Qf (Qe (decide_eq_true (p := ((k3 : Nat) : Int) < (d.length : Int)) (by omega))))) ?_
       refine Qa ?_
       refine ckT ?_
       refine Qg ?_
       refine Qa ?_
       refine awp_block ?_
       refine Qa ?_
       refine rk Qb [(20, .i ((k3 : Nat) : Int)), (21, .p 21 0)] [72] [(21, [.s a3.1, .h a3.2])] [] [(1, .row [.s a3.1, .h a3.2])] (o1 (ob_elem (el_of (i := ((k3 : Nat) : Int)) (by omega) rfl hx3))) ?_
       refine Qa ?_
       refine Qa ?_
       refine jn [(88, .b (((nth (((Qi d)).1) k3) != ((k1 : Nat) : Int)) || (!(slicesContains_string names a3.1))))] [] [] [] ((nth (((Qi d)).1) k3) != ((k1 : Nat) : Int)) (fun h11 => ?_) (fun h11 => ?_) ?_
       ·
        have h11d := ne_of_bne h11
        refine wdT 11 0 (.own true 1600) (((Qi d)).1) (fun hw13 => ?_)
        have hl14 : List.length (((Qi d)).1) ≤ 1073741824 := wide_len (hw13)
        have hx12 : (((Qi d)).1)[k3]? = some (nth (((Qi d)).1) k3) := nth_get (by omega)
        refine rk Qb [(88, .b true)] [] [] [] [(2, .rowE [.i (nth (((Qi d)).1) k3)]), (5, .val (.b true))] (o2 (ob_elem (el_of (i := ((k3 : Nat) : Int)) (by omega) rfl hx12)) (o1 (Qf (Qe h11)))) ?_
        exact ⟨rfl, Qc (by rw [h11]; first | done | kernel_rfl)⟩
       ·
        have h11d := eq_of_bne h11
        refine wdT 11 0 (.own true 1600) (((Qi d)).1) (fun hw16 => ?_)
        have hl17 : List.length (((Qi d)).1) ≤ 1073741824 := wide_len (hw16)
        have hx15 : (((Qi d)).1)[k3]? = some (nth (((Qi d)).1) k3) := nth_get (by omega)
        refine rk Qb [(88, .b (!(slicesContains_string names a3.1)))] [] [] [] [(2, .rowE [.i (nth (((Qi d)).1) k3)]), (5, .val (.b false)), (10, .val (.b (slicesContains_string names a3.1)))] (o2 (ob_elem (el_of (i := ((k3 : Nat) : Int)) (by omega) rfl hx15)) (o2 (Qf (Qe h11)) (o1 (Qd (slicesContains_string_a names a3.1))))) ?_
        exact ⟨rfl, Qc (by rw [h11]; first | done | kernel_rfl)⟩
       refine ck (((nth (((Qi d)).1) k3) != ((k1 : Nat) : Int)) || (!(slicesContains_string names a3.1))) (fun h18 => ?_) (fun h18 => ?_)
       ·
        refine awp_exit ?_
        refine rk Qb [(71, .i ((k3 + 1 : Nat) : Int))] [20, 21, 71, 88] [] [21] [(0, .val (.i ((k3 + 1 : Nat) : Int)))] (o1 (Qf (av_i (wrap_succ k3 (by omega))))) ?_
        exact Exists.intro (s3.1, s3.2) (And.intro (Qc (by kernel_rfl)) ⟨forL_next hx3 (bif_t h18 (rfl)) hI3.1, (by first | omega | (simp only [List.length_set]; omega))⟩)
       ·
        have h18l : (((nth (((Qi d)).1) k3) != ((k1 : Nat) : Int))) = false := or_l h18
        have h18ld := eq_of_bne h18l
        have h18r : ((!(slicesContains_string names a3.1))) = false := or_r h18
        have h18rn : (slicesContains_string names a3.1) = true := bnot_f h18r
        refine Qg ?_
        refine Qa ?_
        refine rk Qb [(22, .o 5952 (implSelectFiles s_ a3.2 s3.1))] [21, 88] [] [21] [(4, .val (.o 0 (implSelectFiles s_ a3.2 s3.1)))] (o1 (Qd (implSelectFiles_a s_ a3.2 s3.1))) ?_
        refine Qa ?_
        refine wdT 13 0 (.own true 147358) s3.1 (fun hw20 => ?_)
        have hl21 : List.length s3.1 ≤ 1073741824 := wide_len (hw20)
        have hx19 : s3.1[k3]? = some (nth s3.1 k3) := nth_get (by omega)
        refine rk Qb [(101, .b (!(slicesEqual_int (implSelectFiles s_ a3.2 s3.1) ((nth s3.1 k3).2))))] [] [] [] [(3, .rowE [.s ((nth s3.1 k3).1), .h ((nth s3.1 k3).2)]), (6, .val (.b (slicesEqual_int (implSelectFiles s_ a3.2 s3.1) ((nth s3.1 k3).2))))] (o2 (ob_elem (el_of (i := ((k3 : Nat) : Int)) (by omega) rfl hx19)) (o1 (Qd (slicesEqual_int_a (implSelectFiles s_ a3.2 s3.1) ((nth s3.1 k3).2))))) ?_
        refine ck (!(slicesEqual_int (implSelectFiles s_ a3.2 s3.1) ((nth s3.1 k3).2))) (fun h22 => ?_) (fun h22 => ?_)
        ·
         have h22n : (slicesEqual_int (implSelectFiles s_ a3.2 s3.1) ((nth s3.1 k3).2)) = false := bnot_t h22
         refine Qa ?_
         refine rk Qb [(13, .one (.slc (.own true 147358) 2 (setRow (eL s3.1) k3 1 [.h (implSelectFiles s_ a3.2 s3.1)])))] [13, 20, 22, 101] [] [] [(3, .rowE [.s ((nth s3.1 k3).1), .h ((nth s3.1 k3).2)])] (o1 (ob_elem (el_of (i := ((k3 : Nat) : Int)) (by omega) rfl hx19))) ?_
         refine eqn [(13, .o 147358 (List.set s3.1 k3 ((nth s3.1 k3).1, (implSelectFiles s_ a3.2 s3.1))))] [13] [] [] (by rw [setRow_eL (y := ((nth s3.1 k3).1, (implSelectFiles s_ a3.2 s3.1))) hx19 rfl]; first | done | kernel_rfl) ?_
         refine rk Qb [(19, .b true)] [19] [] [] [] (o0) ?_
         refine rk Qb [(71, .i ((k3 + 1 : Nat) : Int))] [71] [] [] [(0, .val (.i ((k3 + 1 : Nat) : Int)))] (o1 (Qf (av_i (wrap_succ k3 (by omega))))) ?_
         exact Exists.intro (List.set s3.1 k3 ((nth s3.1 k3).1, (implSelectFiles s_ a3.2 s3.1)), true) (And.intro (Qc (by kernel_rfl)) ⟨forL_next hx3 (bif_f h18 (bif_t h22 (rfl))) hI3.1, (by first | omega | (simp only [List.length_set]; omega))⟩)
        ·
         have h22n : (slicesEqual_int (implSelectFiles s_ a3.2 s3.1) ((nth s3.1 k3).2)) = true := bnot_f h22
         refine Qg ?_
         refine rk Qb [(71, .i ((k3 + 1 : Nat) : Int))] [20, 22, 71, 101] [] [] [(0, .val (.i ((k3 + 1 : Nat) : Int)))] (o1 (Qf (av_i (wrap_succ k3 (by omega))))) ?_
         exact Exists.intro (s3.1, s3.2) (And.intro (Qc (by kernel_rfl)) ⟨forL_next hx3 (bif_f h18 (bif_f h22 (rfl))) hI3.1, (by first | omega | (simp only [List.length_set]; omega))⟩)
      ·
       have hA3_0 := hI3.2
       refine Qa ?_
       refine rk Qb [(72, .b false)] [] [] [] [(0, .val (.b false))] (o1 (Qf (Qe (decide_eq_false (p := ((k3 : Nat) : Int) < (d.length : Int)) (by omega))))) ?_
       refine Qa ?_
       refine ckF ?_
       refine awp_exit ?_
       exact Exists.intro (s3.1, s3.2) (And.intro (Qc (by kernel_rfl)) ⟨forL_end hk3 (rfl) hI3.1, by first | omega | (simp only [List.length_set]; omega)⟩)
      ·
       have hD3_0 := hD3.2
       exact Exists.intro (y3.1, IntKind.i64.wrap (s2.2.1 + 1), y3.2) (And.intro (Qc (by kernel_rfl)) ⟨whl_next (bif_t h10 (on_b hD3.1 (rfl))) hI2.1, (by first | omega | (simp only [List.length_set]; omega))⟩)
     ·
      refine awp_exit ?_
      exact Exists.intro (s2.1, s2.2.1) (And.intro (Qc (by kernel_rfl)) (whl_brk (bif_f h10 (rfl)) hI2.1))
    ·
     refine rk Qb [(18, .i ((k1 + 1 : Nat) : Int))] [18] [] [] [(1, .val (.i ((k1 + 1 : Nat) : Int)))] (o1 (Qf (av_i (wrap_succ k1 (by omega))))) ?_
     exact Exists.intro (y2.1, y2.2) (And.intro (Qc (by kernel_rfl)) ⟨forN_next hk1 (on_b hD2 (rfl)) hI1.1, (by first | exact evaluated_next (by assumption) (by assumption) (by assumption) | exact evS_len (fs := s_.2.1) (evaluated_next (by assumption) (by assumption) (by assumption))), (by first | exact evaluated_next (by assumption) (by assumption) (by assumption) | exact evS_len (fs := s_.2.1) (evaluated_next (by assumption) (by assumption) (by assumption)))⟩)
   ·
    have hA1_0 := hI1.2.1
    have hA1_1 := hI1.2.2
    refine Qa ?_
    refine Qa ?_
    refine rk Qb [(63, .b false)] [] [] [] [(2, .val (.i (implMaxStratum d))), (3, .val (.b false))] (o2 (Qd (implMaxStratum_a d)) (o1 (Qf (Qe (decide_eq_false (p := ((k1 : Nat) : Int) ≤ (implMaxStratum d)) (by omega)))))) ?_
    refine ckF ?_
    refine awp_exit ?_
    exact Exists.intro (s1.1, s1.2) (And.intro (Qc (by kernel_rfl)) (forN_end hk1 (rfl) hI1.1))
   ·
    refine Qa ?_
    refine rk Qb [(8, .o 147358 y1.1), (9, .i y1.2), (10, .b true)] [8, 9, 10, 13, 17] [] [] [] (o0) ?_
    refine Qh ?_
    exact pret [] (congrArg (fun z => (.tup [(false, [.o 0 z.1]), (false, [.i z.2.1]), (false, [.b z.2.2])] : AV)) (show implevaluated s_ d r names = (y1.1, y1.2, true) from bif_f h2 (on_b hD0 (on_b hD1 (rfl)))).symm)
def implEvaluate (s_ : StoreD) (d : (List DirD)) : (List Qj) × Bool := (((implevaluated s_ d [] (implDirNames d))).1, ((implevaluated s_ d [] (implDirNames d))).2.2)
theorem implEvaluate_a (s_ : StoreD) (d : (List DirD)) : ACalls Tryz.prog 48 [.a [.h s_.1, .h s_.2.1, .i s_.2.2], .h d] (.tup [(false, [.o 0 (((implEvaluate s_ d)).1)]), (false, [.b (((implEvaluate s_ d)).2)])]) := by
 refine acalls_of (tt := tt) Qb Tryz.func48 (fn := Tryz.f48) rfl (by unfold FnOk; kernel_rfl) (Nat.le_of_ble_eq_true rfl) fun w0 F0 hG => ?_
 refine Qa ?_
 refine rk Qb [(2, .p 2 0), (4, .e 0), (5, .b false)] [0] [(2, [.h s_.1, .h s_.2.1, .i s_.2.2])] [] [] (o0) ?_
 refine Qa ?_
 refine rd' Qb tt_mx [(6, .o 896 (((implevaluated s_ d [] (implDirNames d))).1)), (8, .b (((implevaluated s_ d [] (implDirNames d))).2.2))] [1, 2] [] [2] [(3, .val (.o 0 (implDirNames d))), (4, .val (.tup [(false, [.o 0 (((implevaluated s_ d [] (implDirNames d))).1)]), (false, [.i (((implevaluated s_ d [] (implDirNames d))).2.1)]), (false, [.b (((implevaluated s_ d [] (implDirNames d))).2.2)])]))] (o2 (Qd (implDirNames_a d)) (o1 (Qd (acalls_args (.cons (ArgLe.rfl _) ( .cons (ArgLe.rfl _) ( .cons (ArgLe.nil 2) ( .cons (ArgLe.rfl _) (.nil))))) (implevaluated_a s_ d [] (implDirNames d)))))) ?_
 refine Qa ?_
 refine rk Qb [(4, .o 896 (((implevaluated s_ d [] (implDirNames d))).1)), (5, .b (((implevaluated s_ d [] (implDirNames d))).2.2))] [4, 5, 6, 8] [] [] [] (o0) ?_
 refine Qh ?_
 exact pret [] (congrArg (fun z => (.tup [(false, [.o 0 z.1]), (false, [.b z.2])] : AV)) (show implEvaluate s_ d = (((implevaluated s_ d [] (implDirNames d))).1, ((implevaluated s_ d [] (implDirNames d))).2.2) from rfl).symm)
def specMaxStratum_f0 (_ : Nat) (a0 : Int) (s0 : Int) : Rd (Int) (Int) (Int) := (bif decide (a0 > s0) then (.next a0) else (.next s0))
def specMaxStratum_e0 (_ : Nat) (s0 : Int) : Int := s0
def specMaxStratum (d : (List DirD)) : Int := (Out.on (forL specMaxStratum_f0 specMaxStratum_e0 (((specStrata d)).1) 0 (-1)) (fun y0 => y0))
theorem specMaxStratum_a (d : (List DirD)) : ACalls Tryz.prog 90 [.h d] (.i (specMaxStratum d)) := by
 refine acalls_of (tt := tt) Qb Tryz.func90 (fn := Tryz.f90) rfl (by unfold FnOk; kernel_rfl) (Nat.le_of_ble_eq_true rfl) fun w0 F0 hG => ?_
 refine Qa ?_
 refine rk Qb [(2, .i 0)] [] [] [] [] (o0) ?_
 refine Qa ?_
 refine rk Qb [(3, .o 576 (((specStrata d)).1))] [0] [] [] [(1, .val (.tup [(false, [.o 0 (((specStrata d)).1)]), (false, [.b (((specStrata d)).2)])]))] (o1 (Qd (specStrata_a d))) ?_
 refine Qa ?_
 refine rk Qb [(5, .i (-1))] [] [] [] [] (o0) ?_
 refine Qa ?_
 refine Qa ?_
 refine rk Qb [(6, .i 0)] [] [] [] [] (o0) ?_
 refine wdT 3 0 (.own true 576) (((specStrata d)).1) (fun hw1 => ?_)
 have hl2 : List.length (((specStrata d)).1) ≤ 1073741824 := wide_len (hw1)
 refine blk (fun (k0 : Nat) (s0 : Int) => [(5, .i s0), (6, .i ((k0 : Nat) : Int))]) [5, 6] (fun k0 s0 => []) [] (fun (y0 : Int) => [(5, .i y0)]) [3, 5, 6] (fun y0 => []) [] (fun (k0 : Nat) (s0 : Int) => (forL specMaxStratum_f0 specMaxStratum_e0 (((specStrata d)).1) 0 (-1)) = forL specMaxStratum_f0 specMaxStratum_e0 (List.drop k0 (((specStrata d)).1)) k0 s0) (fun (y0 : Int) => (forL specMaxStratum_f0 specMaxStratum_e0 (((specStrata d)).1) 0 (-1)) = .brk y0) ((((specStrata d)).1).length) (-1) (Qc (by kernel_rfl)) rfl (fun k0 s0 hk0 hI0 => ?_) (fun k0 s0 hk0 hI0 => ?_) (fun y0 hD0 => ?_)
 ·
  obtain ⟨a0, hx0⟩ := get_some (l := ((specStrata d)).1) (i := k0) hk0
  refine Qa ?_
  refine Qa ?_
  refine rk Qb [(15, .b true)] [] [] [] [(2, .val (.i ((((specStrata d)).1).length : Int))), (3, .val (.b true))] (o2 (Qf (av_len (((specStrata d)).1))) (o1 (Qf (Qe (decide_eq_true (p := ((k0 : Nat) : Int) < ((((specStrata d)).1).length : Int)) (by omega)))))) ?_
  refine ckT ?_
  refine Qg ?_
  refine Qa ?_
  refine awp_block ?_
  refine Qa ?_
  refine rk Qb [(23, .b (decide (a0 > s0)))] [15] [] [] [(2, .rowE [.i a0])] (o1 (ob_elem (el_of (i := ((k0 : Nat) : Int)) (by omega) rfl hx0))) ?_
  refine ck (decide (a0 > s0)) (fun h3 => ?_) (fun h3 => ?_)
  ·
   have h3d := of_decide_eq_true h3
   refine rk Qb [(5, .i a0)] [5, 23] [] [] [(2, .rowE [.i a0])] (o1 (ob_elem (el_of (i := ((k0 : Nat) : Int)) (by omega) rfl hx0))) ?_
   refine rk Qb [(6, .i ((k0 + 1 : Nat) : Int))] [6] [] [] [(1, .val (.i ((k0 + 1 : Nat) : Int)))] (o1 (Qf (av_i (wrap_succ k0 (by omega))))) ?_
   exact Exists.intro a0 (And.intro (Qc (by kernel_rfl)) (forL_next hx0 (bif_t h3 (rfl)) hI0))
  ·
   have h3d := of_decide_eq_false h3
   refine Qg ?_
   refine rk Qb [(6, .i ((k0 + 1 : Nat) : Int))] [6, 23] [] [] [(1, .val (.i ((k0 + 1 : Nat) : Int)))] (o1 (Qf (av_i (wrap_succ k0 (by omega))))) ?_
   exact Exists.intro s0 (And.intro (Qc (by kernel_rfl)) (forL_next hx0 (bif_f h3 (rfl)) hI0))
 ·
  refine Qa ?_
  refine Qa ?_
  refine rk Qb [(15, .b false)] [] [] [] [(2, .val (.i ((((specStrata d)).1).length : Int))), (3, .val (.b false))] (o2 (Qf (av_len (((specStrata d)).1))) (o1 (Qf (Qe (decide_eq_false (p := ((k0 : Nat) : Int) < ((((specStrata d)).1).length : Int)) (by omega)))))) ?_
  refine ckF ?_
  refine awp_exit ?_
  exact Exists.intro s0 (And.intro (Qc (by kernel_rfl)) (forL_end hk0 (rfl) hI0))
 ·
  refine Qa ?_
  refine rk Qb [(2, .i y0)] [2, 5] [] [] [] (o0) ?_
  refine Qh ?_
  exact pret [] (congrArg (fun z => (.i z : AV)) (show specMaxStratum d = y0 from on_b hD0 (rfl)).symm)
def specl15Run_f0 (_ : Nat) (a0 : DirD) (s0 : (List Qj)) : Rd ((List Qj) × Int × Bool) ((List Qj)) ((List Qj)) := (.next (s0 ++ [((a0.1, []) : Qj)]))
def specl15Run_e0 (_ : Nat) (s0 : (List Qj)) : (List Qj) := s0
def specl15Run_f3 (s_ : StoreD) (d : (List DirD)) (k1 : Nat) (k3 : Nat) (a3 : DirD) (s3 : (List Qj) × Bool) : Rd (Rd (Rd ((List Qj) × Int × Bool) ((List Qj) × Int) ((List Qj) × Int)) ((List Qj) × Int × Bool) ((List Qj) × Int)) ((List Qj) × Bool) ((List Qj) × Bool) := (bif ((nth (((specStrata d)).1) k3) != ((k1 : Nat) : Int)) then (.next (s3.1, s3.2)) else (bif (!(specl07Ints (specSelectFiles s_ a3.2 s3.1) ((nth s3.1 k3).2))) then (.next (List.set s3.1 k3 ((nth s3.1 k3).1, (specSelectFiles s_ a3.2 s3.1)), true)) else (.next (s3.1, s3.2))))
def specl15Run_e3 (_ : Nat) (s3 : (List Qj) × Bool) : (List Qj) × Bool := (s3.1, s3.2)
def specl15Run_f2 (s_ : StoreD) (d : (List DirD)) (k1 : Nat) (s2 : (List Qj) × Int × Bool) : Rd (Rd ((List Qj) × Int × Bool) ((List Qj) × Int) ((List Qj) × Int)) ((List Qj) × Int × Bool) ((List Qj) × Int) := (bif s2.2.2 then (Out.on (forL (specl15Run_f3 s_ d k1) specl15Run_e3 d 0 (s2.1, false)) (fun y3 => (.next (y3.1, IntKind.i64.wrap (s2.2.1 + 1), y3.2)))) else (.brk (s2.1, s2.2.1)))
def specl15Run_f1 (s_ : StoreD) (d : (List DirD)) (k1 : Nat) (s1 : (List Qj) × Int) : Rd ((List Qj) × Int × Bool) ((List Qj) × Int) ((List Qj) × Int) := (Out.on (whlD (specl15Run_f2 s_ d k1) (List.length d * List.length s_.2.1 + 2) (s1.1, s1.2, true)) (fun y2 => (.next (y2.1, y2.2))))
def specl15Run_e1 (_ : Nat) (s1 : (List Qj) × Int) : (List Qj) × Int := (s1.1, s1.2)
def specl15Run (s_ : StoreD) (d : (List DirD)) : (List Qj) × Int × Bool := (bif ((!(((specStrata d)).2)) || (!(specIsValidStore s_))) then ([], 0, false) else (Out.on (forL specl15Run_f0 specl15Run_e0 d 0 []) (fun y0 => (Out.on (forN (specl15Run_f1 s_ d) specl15Run_e1 (Int.toNat ((specMaxStratum d) + 1)) 0 (y0, 0)) (fun y1 => (y1.1, y1.2, true))))))
theorem maxS_go {B : Int} : ∀ (x : List Int) (k : Nat) (s : Int), (∀ a, a ∈ x → a ≤ B) → s ≤ B → ∃ t, forL specMaxStratum_f0 specMaxStratum_e0 x k s = .brk t ∧ t ≤ B
 | [], k, s, _, h => ⟨s, rfl, h⟩
 | a :: x, k, s, hx, h => by
  simp only [forL, specMaxStratum_f0]
  cases hc : decide (a > s) with
  | true => exact maxS_go x (k + 1) a (fun b hb => hx b (List.mem_cons_of_mem _ hb)) (hx a (List.mem_cons_self ..))
  | false => exact maxS_go x (k + 1) s (fun b hb => hx b (List.mem_cons_of_mem _ hb)) h
theorem strata_factsS {d : List DirD} (h : ((specStrata d)).2 = true) : List.length ((specStrata d)).1 = List.length d ∧ List.length d ≤ 5 ∧ specMaxStratum d ≤ 5 := by
 have h' := h
 rw [strata_alike] at h'
 obtain ⟨h1, h2, h3⟩ := strata_small h'
 unfold specMaxStratum
 rw [strata_alike]
 obtain ⟨t, e, ht⟩ := maxS_go (B := 5) ((Qi d)).1 0 (-1) (fun a ha => (h3 a ha).2) (by omega)
 refine ⟨h1, h2, ?_⟩
 rw [e]; exact ht
theorem l15Run_step (s_ : StoreD) (d : List DirD) (k1 : Nat) : StepE s_ d (Qi d).1 (fun _ => true) (k1 : Int) (specl15Run_f3 s_ d k1) := by
 intro k a o c hk
 unfold specl15Run_f3 actD
 rw [ints_dec, strata_alike, ← select_eq]
 simp only [bne]
 cases (nth (Qi d).1 k == (k1 : Int)) <;> rfl
section
variable {s_ : StoreD} {d : List DirD} {k1 : Nat} {o : List Qj} {p : Int}
theorem l15Run_run (hS : ((specStrata d)).2 = true) (h : EvS d ((specStrata d)).1 (fun _ => true) s_.2.1 (k1 : Int) o) : ∃ o' p', whl (specl15Run_f2 s_ d k1) (List.length d * List.length s_.2.1 + 2) (o, p, true) = some (.brk (o', p')) ∧ EvS d ((specStrata d)).1 (fun _ => true) s_.2.1 ((k1 : Int) + 1) o' := by
 rw [strata_alike] at hS h ⊢
 exact ev_run (f := specl15Run_f3 s_ d k1) (e := specl15Run_e3) (l15Run_step s_ d k1) (fun _ _ => rfl) (fun _ => rfl) (Prod.ext rfl hS) h p
theorem l15Run_w (hS : ((specStrata d)).2 = true) (h : EvS d ((specStrata d)).1 (fun _ => true) s_.2.1 (((k1 : Nat)) : Int) o) : (whl (specl15Run_f2 s_ d k1) (List.length d * List.length s_.2.1 + 2) (o, p, true)).isSome = true := by
 obtain ⟨o', p', h1, _⟩ := l15Run_run (p := p) hS h
 rw [h1]; rfl
theorem l15Run_next {y : List Qj × Int} (hS : ((specStrata d)).2 = true) (h : EvS d ((specStrata d)).1 (fun _ => true) s_.2.1 (((k1 : Nat)) : Int) o) (hy : whlD (specl15Run_f2 s_ d k1) (List.length d * List.length s_.2.1 + 2) (o, p, true) = .brk y) : EvS d ((specStrata d)).1 (fun _ => true) s_.2.1 ((((k1 + 1) : Nat)) : Int) y.1 := by
 obtain ⟨o', p', h1, h2⟩ := l15Run_run (p := p) hS h
 unfold whlD at hy
 rw [h1] at hy
 have e : (o', p') = y := by simpa using hy
 rw [← e, Int.natCast_add]; exact h2
theorem l15Run_start (hy : forL specl15Run_f0 specl15Run_e0 d 0 [] = .brk o) : EvS d ((specStrata d)).1 (fun _ => true) s_.2.1 (((0 : Nat)) : Int) o := by
 obtain ⟨h1, h2⟩ := ev_start (L := ((specStrata d)).1) (on := fun _ => true) (fs := s_.2.1) (g := fun _ => []) (f := specl15Run_f0) (e := specl15Run_e0) (d := d) (fun k a s => rfl) (fun j _ hj => rfl)
 rw [h1] at hy
 have e : (d.map fun a => ((a.1, ([] : List Int)) : Qj)) = o := Out.brk.inj hy
 rw [← e]; exact h2
end
theorem specl15Run_a (s_ : StoreD) (d : (List DirD)) : ACalls Tryz.prog 60 [.a [.h s_.1, .h s_.2.1, .i s_.2.2], .h d] (.tup [(false, [.o 0 (((specl15Run s_ d)).1)]), (false, [.i (((specl15Run s_ d)).2.1)]), (false, [.b (((specl15Run s_ d)).2.2)])]) := by
 refine acalls_of (tt := tt) Qb Tryz.func60 (fn := Tryz.f60) rfl (by unfold FnOk; kernel_rfl) (Nat.le_of_ble_eq_true rfl) fun w0 F0 hG => ?_
 refine Qa ?_
 refine rk Qb [(2, .p 2 0), (4, .e 0), (5, .i 0), (6, .b false)] [0] [(2, [.h s_.1, .h s_.2.1, .i s_.2.2])] [] [] (o0) ?_
 refine Qa ?_
 refine rk Qb [(7, .o 1152 (((specStrata d)).1)), (8, .b (((specStrata d)).2))] [] [] [] [(1, .val (.tup [(false, [.o 0 (((specStrata d)).1)]), (false, [.b (((specStrata d)).2)])]))] (o1 (Qd (specStrata_a d))) ?_
 refine Qa ?_
 refine Qa ?_
 refine jn [(27, .b ((!(((specStrata d)).2)) || (!(specIsValidStore s_))))] [8] [] [] (!(((specStrata d)).2)) (fun h1 => ?_) (fun h1 => ?_) ?_
 ·
  have h1n : (((specStrata d)).2) = false := bnot_t h1
  refine rk Qb [(27, .b true)] [8] [] [] [(0, .val (.b false)), (1, .val (.b true))] (o2 (Qf (Qe h1n)) (o1 (Qf (show .b (!false) = .b true from rfl)))) ?_
  exact ⟨rfl, Qc (by rw [h1]; first | done | kernel_rfl)⟩
 ·
  have h1n : (((specStrata d)).2) = true := bnot_f h1
  have h1nsf := strata_factsS h1n
  refine rk Qb [(27, .b (!(specIsValidStore s_)))] [8] [] [] [(0, .val (.b true)), (1, .val (.b false)), (4, .val (.b (specIsValidStore s_)))] (o2 (Qf (Qe h1n)) (o2 (Qf (show .b (!true) = .b false from rfl)) (o1 (Qd (specIsValidStore_a s_))))) ?_
  exact ⟨rfl, Qc (by rw [h1]; first | done | kernel_rfl)⟩
 refine ck ((!(((specStrata d)).2)) || (!(specIsValidStore s_))) (fun h2 => ?_) (fun h2 => ?_)
 ·
  refine Qa ?_
  refine rk Qb [(4, .one (.slc (.own true 1792) 2 []))] [4, 27] [] [] [] (o0) ?_
  refine Qh ?_
  exact pret [] (congrArg (fun z => (.tup [(false, [.o 0 z.1]), (false, [.i z.2.1]), (false, [.b z.2.2])] : AV)) (show specl15Run s_ d = ([], 0, false) from bif_t h2 (rfl)).symm)
 ·
  have h2l : ((!(((specStrata d)).2))) = false := or_l h2
  have h2ln : (((specStrata d)).2) = true := bnot_f h2l
  have h2lnsf := strata_factsS h2ln
  have h2r : ((!(specIsValidStore s_))) = false := or_r h2
  have h2rn : (specIsValidStore s_) = true := bnot_f h2r
  refine Qg ?_
  refine Qa ?_
  refine rk Qb [(9, .one (.slc (.own true 1856) 2 []))] [27] [] [] [] (o0) ?_
  refine Qa ?_
  refine Qa ?_
  refine rk Qb [(10, .i 0)] [] [] [] [] (o0) ?_
  refine wdT 1 0 .sh d (fun hw3 => ?_)
  have hl4 : List.length d ≤ 1073741824 := wide_len (hw3)
  refine blk (fun (k0 : Nat) (s0 : (List Qj)) => [(9, .o 147206 s0), (10, .i ((k0 : Nat) : Int))]) [9, 10] (fun k0 s0 => []) [] (fun (y0 : (List Qj)) => [(9, .o 147356 y0)]) [9, 10] (fun y0 => []) [] (fun (k0 : Nat) (s0 : (List Qj)) => (forL specl15Run_f0 specl15Run_e0 d 0 []) = forL specl15Run_f0 specl15Run_e0 (List.drop k0 d) k0 s0 ∧ List.length s0 ≤ k0) (fun (y0 : (List Qj)) => (forL specl15Run_f0 specl15Run_e0 d 0 []) = .brk y0) d.length [] (weak_sf [(1856, 147206)] (by kernel_rfl)) ⟨rfl, (by simp)⟩ (fun k0 s0 hk0 hI0 => ?_) (fun k0 s0 hk0 hI0 => ?_) (fun y0 hD0 => ?_)
  ·
   have hA0_0 := hI0.2
   obtain ⟨a0, hx0⟩ := get_some (l := d) (i := k0) hk0
   refine Qa ?_
   refine Qa ?_
   refine rk Qb [(33, .b true)] [] [] [] [(2, .val (.i (d.length : Int))), (3, .val (.b true))] (o2 (Qf (av_len d)) (o1 (Qf (Qe (decide_eq_true (p := ((k0 : Nat) : Int) < (d.length : Int)) (by omega)))))) ?_
   refine ckT ?_
   refine Qg ?_
   refine Qa ?_
   refine awp_block ?_
   refine wdT 9 0 (.own true 147206) s0 (fun hw5 => ?_)
   have hl6 : List.length s0 ≤ 1073741824 := wide_len (hw5)
   refine rk Qb [(9, .one (.slc (.own true 2880) 2 ((eL s0) ++ [[.s a0.1, .slc 1 []]])))] [9, 33] [] [] [(3, .row [.s a0.1, .h a0.2])] (o2 (ob_elem (el_of (i := ((k0 : Nat) : Int)) (by omega) rfl hx0)) (o1 (ob_len (len_of (eL_length s0) (eL_length [((a0.1, []) : Qj)]) (by first | omega | (simp; omega) | simp))))) ?_
   refine eqn [(9, .o 2880 (s0 ++ [((a0.1, []) : Qj)]))] [9] [] [] (by rw [show ((eL s0) ++ [[.s a0.1, .slc 1 []]]) = (eL (s0 ++ [((a0.1, []) : Qj)])) from app_eL (rfl) (rfl)]; first | done | kernel_rfl) ?_
   refine rk Qb [(10, .i ((k0 + 1 : Nat) : Int))] [10] [] [] [(1, .val (.i ((k0 + 1 : Nat) : Int)))] (o1 (Qf (av_i (wrap_succ k0 (by omega))))) ?_
   exact Exists.intro (s0 ++ [((a0.1, []) : Qj)]) (And.intro (weak_sf [(2880, 147206)] (by kernel_rfl)) ⟨forL_next hx0 (rfl) hI0.1, by first | omega | (simp; omega) | simp⟩)
  ·
   have hA0_0 := hI0.2
   refine Qa ?_
   refine Qa ?_
   refine rk Qb [(33, .b false)] [] [] [] [(2, .val (.i (d.length : Int))), (3, .val (.b false))] (o2 (Qf (av_len d)) (o1 (Qf (Qe (decide_eq_false (p := ((k0 : Nat) : Int) < (d.length : Int)) (by omega)))))) ?_
   refine ckF ?_
   refine awp_exit ?_
   exact Exists.intro s0 (And.intro (weak_sf [(147206, 147356)] (by kernel_rfl)) (forL_end hk0 (rfl) hI0.1))
  ·
   refine Qa ?_
   refine rk Qb [(11, .i 0)] [] [] [] [] (o0) ?_
   refine Qa ?_
   refine Qa ?_
   refine rk Qb [(12, .i 0)] [] [] [] [] (o0) ?_
   refine blk (fun (k1 : Nat) (s1 : (List Qj) × Int) => [(9, .o 147356 s1.1), (11, .i s1.2), (12, .i ((k1 : Nat) : Int))]) [9, 11, 12] (fun k1 s1 => []) [] (fun (y1 : (List Qj) × Int) => [(9, .o 147356 y1.1), (11, .i y1.2)]) [1, 2, 7, 9, 11, 12] (fun y1 => []) [2] (fun (k1 : Nat) (s1 : (List Qj) × Int) => (forN (specl15Run_f1 s_ d) specl15Run_e1 (Int.toNat ((specMaxStratum d) + 1)) 0 (y0, 0)) = forN (specl15Run_f1 s_ d) specl15Run_e1 ((Int.toNat ((specMaxStratum d) + 1)) - k1) k1 s1 ∧ EvS d ((specStrata d)).1 (fun _ => true) s_.2.1 (((k1 : Nat)) : Int) s1.1 ∧ List.length s1.1 = List.length d) (fun (y1 : (List Qj) × Int) => (forN (specl15Run_f1 s_ d) specl15Run_e1 (Int.toNat ((specMaxStratum d) + 1)) 0 (y0, 0)) = .brk y1) (Int.toNat ((specMaxStratum d) + 1)) (y0, 0) (Qc (by kernel_rfl)) ⟨rfl, (by first | exact l15Run_start hD0 | exact l15Run_start hD0.1 | exact evS_len (fs := s_.2.1) (l15Run_start hD0) | exact evS_len (fs := s_.2.1) (l15Run_start hD0.1)), (by first | exact l15Run_start hD0 | exact l15Run_start hD0.1 | exact evS_len (fs := s_.2.1) (l15Run_start hD0) | exact evS_len (fs := s_.2.1) (l15Run_start hD0.1))⟩ (fun k1 s1 hk1 hI1 => ?_) (fun k1 s1 hk1 hI1 => ?_) (fun y1 hD1 => ?_)
   ·
    have hA1_0 := hI1.2.1
    have hA1_1 := hI1.2.2
    refine Qa ?_
    refine Qa ?_
    refine rk Qb [(49, .b true)] [] [] [] [(2, .val (.i (specMaxStratum d))), (3, .val (.b true))] (o2 (Qd (specMaxStratum_a d)) (o1 (Qf (Qe (decide_eq_true (p := ((k1 : Nat) : Int) ≤ (specMaxStratum d)) (by omega)))))) ?_
    refine ckT ?_
    refine Qg ?_
    refine Qa ?_
    refine awp_block ?_
    refine Qa ?_
    refine rk Qb [(13, .b true)] [49] [] [] [] (o0) ?_
    refine blw (fun (s2 : (List Qj) × Int × Bool) => [(9, .o 147356 s2.1), (11, .i s2.2.1), (13, .b s2.2.2)]) [9, 11, 13] (fun s2 => []) [] (fun (y2 : (List Qj) × Int) => [(9, .o 147356 y2.1), (11, .i y2.2)]) [9, 11, 13] (fun y2 => []) [] (fun (k2 : Nat) (s2 : (List Qj) × Int × Bool) => whl (specl15Run_f2 s_ d k1) k2 s2 = some (whlD (specl15Run_f2 s_ d k1) (List.length d * List.length s_.2.1 + 2) (s1.1, s1.2, true)) ∧ List.length s2.1 = List.length d) (fun (y2 : (List Qj) × Int) => (whlD (specl15Run_f2 s_ d k1) (List.length d * List.length s_.2.1 + 2) (s1.1, s1.2, true)) = .brk y2) (List.length d * List.length s_.2.1 + 2) (s1.1, s1.2, true) (Qc (by kernel_rfl)) ⟨whl_some (l15Run_w (by assumption) (by assumption)), (by assumption)⟩ (fun _ h => whl_zero h.1) (fun k2 s2 hI2 => ?_) (fun y2 hD2 => ?_)
    ·
     have hA2_0 := hI2.2
     refine Qa ?_
     refine Qa ?_
     refine rk Qb [(52, .b s2.2.2)] [] [] [] [] (o0) ?_
     refine ck s2.2.2 (fun h7 => ?_) (fun h7 => ?_)
     ·
      refine Qg ?_
      refine awp_block ?_
      refine Qa ?_
      refine rk Qb [(13, .b false)] [13, 52] [] [] [] (o0) ?_
      refine Qa ?_
      refine rk Qb [(11, .i (IntKind.i64.wrap (s2.2.1 + 1)))] [11] [] [] [] (o0) ?_
      refine Qa ?_
      refine rk Qb [(14, .i 0)] [] [] [] [] (o0) ?_
      refine blk (fun (k3 : Nat) (s3 : (List Qj) × Bool) => [(9, .o 147356 s3.1), (13, .b s3.2), (14, .i ((k3 : Nat) : Int))]) [9, 13, 14] (fun k3 s3 => []) [] (fun (y3 : (List Qj) × Bool) => [(9, .o 147356 y3.1), (13, .b y3.2)]) [9, 13, 14] (fun y3 => []) [] (fun (k3 : Nat) (s3 : (List Qj) × Bool) => (forL (specl15Run_f3 s_ d k1) specl15Run_e3 d 0 (s2.1, false)) = forL (specl15Run_f3 s_ d k1) specl15Run_e3 (List.drop k3 d) k3 s3 ∧ List.length s3.1 = List.length s2.1) (fun (y3 : (List Qj) × Bool) => (forL (specl15Run_f3 s_ d k1) specl15Run_e3 d 0 (s2.1, false)) = .brk y3 ∧ List.length y3.1 = List.length s2.1) d.length (s2.1, false) (Qc (by kernel_rfl)) ⟨rfl, (by simp)⟩ (fun k3 s3 hk3 hI3 => ?_) (fun k3 s3 hk3 hI3 => ?_) (fun y3 hD3 => ?_)
      ·
       have hA3_0 := hI3.2
       obtain ⟨a3, hx3⟩ := get_some (l := d) (i := k3) hk3
       refine Qa ?_
       refine Qa ?_
       refine rk Qb [(58, .b true)] [] [] [] [(2, .val (.i (d.length : Int))), (3, .val (.b true))] (o2 (Qf (av_len d)) (o1 (Qf (Qe (decide_eq_true (p := ((k3 : Nat) : Int) < (d.length : Int)) (by omega)))))) ?_
       refine ckT ?_
       refine Qg ?_
       refine Qa ?_
       refine awp_block ?_
       refine Qa ?_
       refine Qa ?_
       refine wdT 7 0 (.own true 1152) (((specStrata d)).1) (fun hw9 => ?_)
       have hl10 : List.length (((specStrata d)).1) ≤ 1073741824 := wide_len (hw9)
       have hx8 : (((specStrata d)).1)[k3]? = some (nth (((specStrata d)).1) k3) := nth_get (by omega)
       refine rk Qb [(66, .b ((nth (((specStrata d)).1) k3) != ((k1 : Nat) : Int)))] [58] [] [] [(2, .rowE [.i (nth (((specStrata d)).1) k3)])] (o1 (ob_elem (el_of (i := ((k3 : Nat) : Int)) (by omega) rfl hx8))) ?_
       refine ck ((nth (((specStrata d)).1) k3) != ((k1 : Nat) : Int)) (fun h11 => ?_) (fun h11 => ?_)
       ·
        have h11d := ne_of_bne h11
        refine awp_exit ?_
        refine rk Qb [(14, .i ((k3 + 1 : Nat) : Int))] [14, 66] [] [] [(1, .val (.i ((k3 + 1 : Nat) : Int)))] (o1 (Qf (av_i (wrap_succ k3 (by omega))))) ?_
        exact Exists.intro (s3.1, s3.2) (And.intro (Qc (by kernel_rfl)) ⟨forL_next hx3 (bif_t h11 (rfl)) hI3.1, (by first | omega | (simp only [List.length_set]; omega))⟩)
       ·
        have h11d := eq_of_bne h11
        refine Qg ?_
        refine Qa ?_
        refine rd' Qb tt_mx [(15, .o 4736 (specSelectFiles s_ a3.2 s3.1))] [66] [] [] [(3, .row [.s a3.1, .h a3.2]), (7, .val (.o 0 (specSelectFiles s_ a3.2 s3.1)))] (o2 (ob_elem (el_of (i := ((k3 : Nat) : Int)) (by omega) rfl hx3)) (o1 (Qd (specSelectFiles_a s_ a3.2 s3.1)))) ?_
        refine Qa ?_
        refine wdT 9 0 (.own true 147356) s3.1 (fun hw13 => ?_)
        have hl14 : List.length s3.1 ≤ 1073741824 := wide_len (hw13)
        have hx12 : s3.1[k3]? = some (nth s3.1 k3) := nth_get (by omega)
        refine rk Qb [(82, .b (!(specl07Ints (specSelectFiles s_ a3.2 s3.1) ((nth s3.1 k3).2))))] [] [] [] [(3, .rowE [.s ((nth s3.1 k3).1), .h ((nth s3.1 k3).2)]), (6, .val (.b (specl07Ints (specSelectFiles s_ a3.2 s3.1) ((nth s3.1 k3).2))))] (o2 (ob_elem (el_of (i := ((k3 : Nat) : Int)) (by omega) rfl hx12)) (o1 (Qd (specl07Ints_a (specSelectFiles s_ a3.2 s3.1) ((nth s3.1 k3).2))))) ?_
        refine ck (!(specl07Ints (specSelectFiles s_ a3.2 s3.1) ((nth s3.1 k3).2))) (fun h15 => ?_) (fun h15 => ?_)
        ·
         have h15n : (specl07Ints (specSelectFiles s_ a3.2 s3.1) ((nth s3.1 k3).2)) = false := bnot_t h15
         refine Qa ?_
         refine rk Qb [(9, .one (.slc (.own true 147356) 2 (setRow (eL s3.1) k3 1 [.h (specSelectFiles s_ a3.2 s3.1)])))] [9, 15, 82] [] [] [(3, .rowE [.s ((nth s3.1 k3).1), .h ((nth s3.1 k3).2)])] (o1 (ob_elem (el_of (i := ((k3 : Nat) : Int)) (by omega) rfl hx12))) ?_
         refine eqn [(9, .o 147356 (List.set s3.1 k3 ((nth s3.1 k3).1, (specSelectFiles s_ a3.2 s3.1))))] [9] [] [] (by rw [setRow_eL (y := ((nth s3.1 k3).1, (specSelectFiles s_ a3.2 s3.1))) hx12 rfl]; first | done | kernel_rfl) ?_
         refine rk Qb [(13, .b true)] [13] [] [] [] (o0) ?_
         refine rk Qb [(14, .i ((k3 + 1 : Nat) : Int))] [14] [] [] [(1, .val (.i ((k3 + 1 : Nat) : Int)))] (o1 (Qf (av_i (wrap_succ k3 (by omega))))) ?_
         exact Exists.intro (List.set s3.1 k3 ((nth s3.1 k3).1, (specSelectFiles s_ a3.2 s3.1)), true) (And.intro (Qc (by kernel_rfl)) ⟨forL_next hx3 (bif_f h11 (bif_t h15 (rfl))) hI3.1, (by first | omega | (simp only [List.length_set]; omega))⟩)
        ·
         have h15n : (specl07Ints (specSelectFiles s_ a3.2 s3.1) ((nth s3.1 k3).2)) = true := bnot_f h15
         refine Qg ?_
         refine rk Qb [(14, .i ((k3 + 1 : Nat) : Int))] [14, 15, 82] [] [] [(1, .val (.i ((k3 + 1 : Nat) : Int)))] (o1 (Qf (av_i (wrap_succ k3 (by omega))))) ?_
         exact Exists.intro (s3.1, s3.2) (And.intro (Qc (by kernel_rfl)) ⟨forL_next hx3 (bif_f h11 (bif_f h15 (rfl))) hI3.1, (by first | omega | (simp only [List.length_set]; omega))⟩)
      ·
       have hA3_0 := hI3.2
       refine Qa ?_
       refine Qa ?_
       refine rk Qb [(58, .b false)] [] [] [] [(2, .val (.i (d.length : Int))), (3, .val (.b false))] (o2 (Qf (av_len d)) (o1 (Qf (Qe (decide_eq_false (p := ((k3 : Nat) : Int) < (d.length : Int)) (by omega)))))) ?_
       refine ckF ?_
       refine awp_exit ?_
       exact Exists.intro (s3.1, s3.2) (And.intro (Qc (by kernel_rfl)) ⟨forL_end hk3 (rfl) hI3.1, by first | omega | (simp only [List.length_set]; omega)⟩)
      ·
       have hD3_0 := hD3.2
       exact Exists.intro (y3.1, IntKind.i64.wrap (s2.2.1 + 1), y3.2) (And.intro (Qc (by kernel_rfl)) ⟨whl_next (bif_t h7 (on_b hD3.1 (rfl))) hI2.1, (by first | omega | (simp only [List.length_set]; omega))⟩)
     ·
      refine awp_exit ?_
      exact Exists.intro (s2.1, s2.2.1) (And.intro (Qc (by kernel_rfl)) (whl_brk (bif_f h7 (rfl)) hI2.1))
    ·
     refine rk Qb [(12, .i ((k1 + 1 : Nat) : Int))] [12] [] [] [(1, .val (.i ((k1 + 1 : Nat) : Int)))] (o1 (Qf (av_i (wrap_succ k1 (by omega))))) ?_
     exact Exists.intro (y2.1, y2.2) (And.intro (Qc (by kernel_rfl)) ⟨forN_next hk1 (on_b hD2 (rfl)) hI1.1, (by first | exact l15Run_next (by assumption) (by assumption) (by assumption) | exact evS_len (fs := s_.2.1) (l15Run_next (by assumption) (by assumption) (by assumption))), (by first | exact l15Run_next (by assumption) (by assumption) (by assumption) | exact evS_len (fs := s_.2.1) (l15Run_next (by assumption) (by assumption) (by assumption)))⟩)
   ·
    have hA1_0 := hI1.2.1
    have hA1_1 := hI1.2.2
    refine Qa ?_
    refine Qa ?_
    refine rk Qb [(49, .b false)] [] [] [] [(2, .val (.i (specMaxStratum d))), (3, .val (.b false))] (o2 (Qd (specMaxStratum_a d)) (o1 (Qf (Qe (decide_eq_false (p := ((k1 : Nat) : Int) ≤ (specMaxStratum d)) (by omega)))))) ?_
    refine ckF ?_
    refine awp_exit ?_
    exact Exists.intro (s1.1, s1.2) (And.intro (Qc (by kernel_rfl)) (forN_end hk1 (rfl) hI1.1))
   ·
    refine Qa ?_
    refine rk Qb [(4, .o 147356 y1.1), (5, .i y1.2), (6, .b true)] [4, 5, 6, 9, 11] [] [] [] (o0) ?_
    refine Qh ?_
    exact pret [] (congrArg (fun z => (.tup [(false, [.o 0 z.1]), (false, [.i z.2.1]), (false, [.b z.2.2])] : AV)) (show specl15Run s_ d = (y1.1, y1.2, true) from bif_f h2 (on_b hD0 (on_b hD1 (rfl)))).symm)
def specEvaluate (s_ : StoreD) (d : (List DirD)) : (List Qj) × Bool := (((specl15Run s_ d)).1, ((specl15Run s_ d)).2.2)
theorem specEvaluate_a (s_ : StoreD) (d : (List DirD)) : ACalls Tryz.prog 39 [.a [.h s_.1, .h s_.2.1, .i s_.2.2], .h d] (.tup [(false, [.o 0 (((specEvaluate s_ d)).1)]), (false, [.b (((specEvaluate s_ d)).2)])]) := by
 refine acalls_of (tt := tt) Qb Tryz.func39 (fn := Tryz.f39) rfl (by unfold FnOk; kernel_rfl) (Nat.le_of_ble_eq_true rfl) fun w0 F0 hG => ?_
 refine Qa ?_
 refine rk Qb [(2, .p 2 0), (4, .e 0), (5, .b false)] [0] [(2, [.h s_.1, .h s_.2.1, .i s_.2.2])] [] [] (o0) ?_
 refine Qa ?_
 refine rk Qb [(6, .o 768 (((specl15Run s_ d)).1)), (8, .b (((specl15Run s_ d)).2.2))] [1, 2] [] [2] [(2, .val (.tup [(false, [.o 0 (((specl15Run s_ d)).1)]), (false, [.i (((specl15Run s_ d)).2.1)]), (false, [.b (((specl15Run s_ d)).2.2)])]))] (o1 (Qd (specl15Run_a s_ d))) ?_
 refine Qa ?_
 refine rk Qb [(4, .o 768 (((specl15Run s_ d)).1)), (5, .b (((specl15Run s_ d)).2.2))] [4, 5, 6, 8] [] [] [] (o0) ?_
 refine Qh ?_
 exact pret [] (congrArg (fun z => (.tup [(false, [.o 0 z.1]), (false, [.b z.2])] : AV)) (show specEvaluate s_ d = (((specl15Run s_ d)).1, ((specl15Run s_ d)).2.2) from rfl).symm)
end Go.Proofs.YtnhmnfmhnepjmaaGreatDoor
namespace Go.Proofs.YtnhmnfmhnepjmaaGreatDoor
open Go.RowKit
theorem contains_iff (v : ByteArray) (l : List ByteArray) : slicesContains_string l v = true ↔ v ∈ l := by
  unfold slicesContains_string slicesIndex_string
  have key : ∀ (l : List ByteArray) (k : Nat), (0 : Int) ≤ ((forL (slicesIndex_string_f0 v) slicesIndex_string_e0 l k ()).on fun _ => -1) ↔ v ∈ l := by
    intro l
    induction l with
    | nil => intro k; simp [forL, Out.on]
    | cons a l ih =>
      intro k
      simp only [forL, slicesIndex_string_f0]
      have hab : (v.toList == a.toList) = decide (v = a) := toList_inj
      cases hc : (v.toList == a.toList) with
      | true =>
        obtain rfl : v = a := by rw [hc] at hab; exact of_decide_eq_true hab.symm
        simp [Out.on]
      | false =>
        have h : v ≠ a := by rw [hc] at hab; exact of_decide_eq_false hab.symm
        simp only [cond_false]
        refine (ih (k + 1)).trans ?_
        simp [h]
  exact decide_eq_true_iff.trans (key l 0)
theorem dirNames_eq (d : List DirD) : implDirNames d = d.map (·.1) := by
  unfold implDirNames
  rw [forL_map (f := implDirNames_f0) (g := fun a : DirD => a.1) (fun _ _ _ => rfl)]
  simp [Out.on, implDirNames_e0]
theorem contains_dir {d : List DirD} {i : Nat} {a : DirD} (h : d[i]? = some a) : slicesContains_string (implDirNames d) a.1 = true := by
  rw [contains_iff, dirNames_eq]
  exact List.mem_map.2 ⟨a, List.mem_of_getElem? h, rfl⟩
/-! ### the greatest stratum -/
theorem max_fold (x : List Int) : ∀ (n k : Nat) (s : Int), k + 1 + n = x.length → forN (slicesMax_int_f0 x) slicesMax_int_e0 n k s = .brk ((x.drop (k + 1)).foldl max s)
  | 0, k, s, h => by rw [List.drop_eq_nil_of_le (by omega)]; rfl
  | n + 1, k, s, h => by
    have hg : x[k + 1]? = some (nth x (k + 1)) := nth_get (by omega)
    rw [drop_at hg]
    simp only [forN, slicesMax_int_f0, List.foldl_cons]
    exact max_fold x n (k + 1) _ (by omega)
theorem maxS_fold : ∀ (x : List Int) (k : Nat) (s : Int), forL specMaxStratum_f0 specMaxStratum_e0 x k s = .brk (x.foldl max s)
  | [], k, s => rfl
  | a :: x, k, s => by
    simp only [forL, specMaxStratum_f0, List.foldl_cons]
    by_cases h : a > s
    · rw [decide_eq_true h, cond_true, show max s a = a by omega]; exact maxS_fold x (k + 1) a
    · rw [decide_eq_false h, cond_false, show max s a = s by omega]; exact maxS_fold x (k + 1) s
theorem maxStratum_eq (d : List DirD) : specMaxStratum d = implMaxStratum d := by
  unfold specMaxStratum implMaxStratum
  rw [strata_alike, maxS_fold]
  simp only [Out.on]
  cases hs : (Qi d).2 with
  | false =>
    have : (Qi d).1 = [] := by
      unfold Qi at hs ⊢
      cases hv : implIsValidDirs d with
      | false => rfl
      | true =>
        rw [hv] at hs
        simp only [Bool.not_true, cond_false] at hs ⊢
        have h5 := vdirs_len hv
        have hw := whl_climb (d := d) (f := implStrata_f1 d) (e := implStrata_e1) (F := implStrata_f0 d) (fun _ _ _ => rfl) (fun _ _ => rfl) (fun _ => rfl) (by omega) (d.length * d.length + 3) (List.replicate d.length 0) true (zeroL_ok _).1 (zeroL_ok _).2
        have hsome : (climb (edgesD d) d.length d.length (d.length * d.length + 3) (true, List.replicate d.length 0)).isSome = true := by
          have := implStrata_w d h5
          rw [Int.toNat_natCast, hw, Option.isSome_map] at this
          exact this
        obtain ⟨r, hr⟩ := Option.isSome_iff_exists.1 hsome
        unfold whlD at hs ⊢
        rw [Int.toNat_natCast, hw, hr] at hs ⊢
        cases r with
        | none => rfl
        | some M => simp [endD, Out.on] at hs
    rw [this]; rfl
  | true =>
    obtain ⟨h1, h2, h3⟩ := strata_small hs
    simp only [Bool.not_true, Bool.false_or]
    generalize (Qi d).1 = x at h3
    cases x with
    | nil => rfl
    | cons a x =>
      have h0 := (h3 a (List.mem_cons_self ..)).1
      have e : ((((a :: x).length : Nat) : Int) == (0 : Int)) = false := by
        rw [beq_eq_false_iff_ne, List.length_cons]; omega
      rw [e, cond_false]
      unfold slicesMax_int
      rw [max_fold _ _ _ _ (by simp; omega)]
      simp only [Out.on, List.foldl_cons, Nat.zero_add, List.drop_succ_cons, List.drop_zero]
      have e2 : nth (a :: x) 0 = a := rfl
      rw [show max (-1) a = a by omega, e2]
/-! ### the evaluation -/
theorem l15_f3 (s : StoreD) (d : List DirD) (k1 k : Nat) (a : DirD) (t : List Qj × Bool) (h : d[k]? = some a) : specl15Run_f3 s d k1 k a t = implevaluated_f3 s d (implDirNames d) k1 k a t := by
  unfold specl15Run_f3 implevaluated_f3
  rw [contains_dir h, strata_alike, ← select_eq, ints_dec, eqI_dec]
  simp
theorem l15_f2 (s : StoreD) (d : List DirD) (k1 : Nat) : specl15Run_f2 s d k1 = implevaluated_f2 s d (implDirNames d) k1 := by
  funext t
  unfold specl15Run_f2 implevaluated_f2
  rw [forL_congr (f := specl15Run_f3 s d k1) (g := implevaluated_f3 s d (implDirNames d) k1) (e := specl15Run_e3) (e' := implevaluated_e3) (fun _ _ => rfl) d 0 _ (fun i a t h => by rw [Nat.zero_add]; exact l15_f3 s d k1 i a t h)]
theorem l15_eq (s : StoreD) (d : List DirD) : specl15Run s d = implevaluated s d [] (implDirNames d) := by
  unfold specl15Run implevaluated
  rw [strata_alike, store_eq, maxStratum_eq]
  rw [forL_congr (f := specl15Run_f0) (g := implevaluated_f0 [] (implDirNames d)) (e := specl15Run_e0) (e' := implevaluated_e0) (fun _ _ => rfl) d 0 _ (fun i a t h => by unfold specl15Run_f0 implevaluated_f0; rw [contains_dir h]; rfl)]
  congr 1
  congr 1
  funext y
  rw [show specl15Run_f1 s d = implevaluated_f1 s d (implDirNames d) from by funext k t; unfold specl15Run_f1 implevaluated_f1; rw [l15_f2]]
  rfl
theorem evaluate_eq (s : StoreD) (d : List DirD) : specEvaluate s d = implEvaluate s d := by
  unfold specEvaluate implEvaluate
  rw [l15_eq]
theorem evaluated_ok {s : StoreD} {d : List DirD} {names : List ByteArray} {r : List Qj} (h : (implevaluated s d r names).2.2 = true) : List.length d ≤ 5 ∧ implIsValidStore s = true ∧ (implevaluated s d r names).1.map (·.1) = d.map (·.1) ∧ ∀ j, j < d.length → onD d names j = true → ∃ p : FileD → Bool, (nth (implevaluated s d r names).1 j).2 = sel s.2.1 (fun f => f.1) p := by
  unfold implevaluated at h ⊢
  cases hc : ((!(((Qi d)).2)) || (!(implIsValidStore s))) with
  | true => rw [hc] at h; simp at h
  | false =>
    have hs : ((Qi d)).2 = true := bnot_f (or_l hc)
    have hv : implIsValidStore s = true := bnot_f (or_r hc)
    simp only [cond_false]
    obtain ⟨h1, h2⟩ := ev_start (L := ((Qi d)).1) (on := onD d names) (fs := s.2.1) (g := startG r names) (f := implevaluated_f0 r names) (e := implevaluated_e0) (d := d) (fun k a s => by
      unfold implevaluated_f0 startG
      cases slicesContains_string names a.1 <;> rfl) (fun j _ hj => by unfold onD at hj; unfold startG; rw [hj]; rfl)
    rw [h1]
    have key : ∀ (n k : Nat) (o : List Qj) (p : Int), EvS d ((Qi d)).1 (onD d names) s.2.1 (((k : Nat)) : Int) o → ∃ o' p', forN (implevaluated_f1 s d names) implevaluated_e1 n k (o, p) = .brk (o', p') ∧ EvS d ((Qi d)).1 (onD d names) s.2.1 (((k + n : Nat)) : Int) o' := by
      intro n
      induction n with
      | zero => intro k o p ho; exact ⟨o, p, rfl, ho⟩
      | succ n ih =>
        intro k o p ho
        obtain ⟨o1, p1, g1, g2⟩ := evaluated_run (p := p) hs ho
        obtain ⟨o2, p2, g3, g4⟩ := ih (k + 1) o1 p1 (by rw [Int.natCast_add]; exact g2)
        refine ⟨o2, p2, ?_, by rw [show k + (n + 1) = k + 1 + n by omega]; exact g4⟩
        simp only [forN]
        unfold implevaluated_f1 whlD
        rw [g1]
        exact g3
    obtain ⟨o, p, g1, g2⟩ := key (Int.toNat (implMaxStratum d + 1)) 0 _ 0 h2
    simp only [Out.on, implevaluated_e0]
    rw [g1]
    exact ⟨(strata_small hs).2.1, hv, g2.names, fun j hj hon => g2.some_ j hj hon⟩
theorem evaluate_ok {s : StoreD} {d : List DirD} (h : (implEvaluate s d).2 = true) : List.length d ≤ 5 ∧ implIsValidStore s = true ∧ (implEvaluate s d).1.map (·.1) = d.map (·.1) ∧ ∀ x, x ∈ (implEvaluate s d).1 → ∃ p : FileD → Bool, x.2 = sel s.2.1 (fun f => f.1) p := by
  unfold implEvaluate at h ⊢
  obtain ⟨h1, h2, h3, h4⟩ := evaluated_ok h
  refine ⟨h1, h2, h3, fun x hx => ?_⟩
  obtain ⟨i, hi⟩ := List.getElem?_of_mem hx
  have hlen : (implevaluated s d [] (implDirNames d)).1.length = d.length := by have := congrArg List.length h3; simpa using this
  have hi' : i < (implevaluated s d [] (implDirNames d)).1.length := (List.getElem?_eq_some_iff.1 hi).1
  have hil : i < d.length := by omega
  have := h4 i hil (by unfold onD; exact contains_dir (nth_get hil))
  rw [nth_of hi] at this
  exact this
theorem evaluate_no {s : StoreD} {d : List DirD} (h : (implEvaluate s d).2 = false) : (implEvaluate s d).1 = [] := by
  unfold implEvaluate at h ⊢
  unfold implevaluated at h ⊢
  cases hc : ((!(((Qi d)).2)) || (!(implIsValidStore s))) with
  | true => rfl
  | false =>
    exfalso
    have hs : ((Qi d)).2 = true := bnot_f (or_l hc)
    rw [hc] at h
    simp only [cond_false] at h
    obtain ⟨h1, h2⟩ := ev_start (L := ((Qi d)).1) (on := onD d (implDirNames d)) (fs := s.2.1) (g := startG [] (implDirNames d)) (f := implevaluated_f0 [] (implDirNames d)) (e := implevaluated_e0) (d := d) (fun k a s => by
      unfold implevaluated_f0 startG
      cases slicesContains_string (implDirNames d) a.1 <;> rfl) (fun j _ hj => by unfold onD at hj; unfold startG; rw [hj]; rfl)
    rw [h1] at h
    have key : ∀ (n k : Nat) (o : List Qj) (p : Int), EvS d ((Qi d)).1 (onD d (implDirNames d)) s.2.1 (((k : Nat)) : Int) o → ∃ y, forN (implevaluated_f1 s d (implDirNames d)) implevaluated_e1 n k (o, p) = .brk y := by
      intro n
      induction n with
      | zero => intro k o p ho; exact ⟨_, rfl⟩
      | succ n ih =>
        intro k o p ho
        obtain ⟨o1, p1, g1, g2⟩ := evaluated_run (p := p) hs ho
        obtain ⟨y, g3⟩ := ih (k + 1) o1 p1 (by rw [Int.natCast_add]; exact g2)
        refine ⟨y, ?_⟩
        simp only [forN]
        unfold implevaluated_f1 whlD
        rw [g1]
        exact g3
    obtain ⟨y, g1⟩ := key (Int.toNat (implMaxStratum d + 1)) 0 _ 0 h2
    simp only [Out.on, implevaluated_e0] at h
    rw [g1] at h
    cases h
open GoE (enc wide)
def implCanRead (f : FileD) (user : Int) : Bool := ((implisUser user) && ((f.2.1 == user) || f.2.2.1))
theorem implCanRead_a (f : FileD) (user : Int) : ACalls Tryz.prog 75 [.a [.i f.1, .i f.2.1, .b f.2.2.1, .i f.2.2.2.1, .h f.2.2.2.2], .i user] (.b (implCanRead f user)) := by
 refine acalls_of (tt := tt) Qb Tryz.func75 (fn := Tryz.f75) rfl (by unfold FnOk; kernel_rfl) (Nat.le_of_ble_eq_true rfl) fun w0 F0 hG => ?_
 refine Qa ?_
 refine rk Qb [(2, .p 2 0), (4, .b false)] [0] [(2, [.i f.1, .i f.2.1, .b f.2.2.1, .i f.2.2.2.1, .h f.2.2.2.2])] [] [] (o0) ?_
 refine Qa ?_
 refine jn [(4, .b ((implisUser user) && ((f.2.1 == user) || f.2.2.1)))] [1, 2, 4] [] [2] (implisUser user) (fun h1 => ?_) (fun h1 => ?_) ?_
 ·
  refine awp_split (f.2.1 == user) (fun h2 => ?_) (fun h2 => ?_)
  ·
   refine rk Qb [(4, .b true)] [1, 2, 4] [] [2] [(1, .val (.b true)), (6, .val (.b true))] (o2 (Qd (cb h1 (implisUser_a user))) (o1 (Qf (Qe h2)))) ?_
   exact ⟨rfl, Qc (by rw [h1, h2]; first | done | kernel_rfl)⟩
  ·
   refine rk Qb [(4, .b f.2.2.1)] [1, 2, 4] [] [2] [(1, .val (.b true)), (6, .val (.b false))] (o2 (Qd (cb h1 (implisUser_a user))) (o1 (Qf (Qe h2)))) ?_
   exact ⟨rfl, Qc (by rw [h1, h2]; first | done | kernel_rfl)⟩
 ·
  refine rk Qb [] [1, 2] [] [2] [(1, .val (.b false))] (o1 (Qd (cb h1 (implisUser_a user)))) ?_
  exact ⟨rfl, Qc (by rw [h1]; first | done | kernel_rfl)⟩
 refine Qh ?_
 exact pret [] (congrArg (fun z => (.b z : AV)) (show implCanRead f user = ((implisUser user) && ((f.2.1 == user) || f.2.2.1)) from rfl).symm)
def implcopyFile (f : FileD) : FileD := f
theorem implcopyFile_a (f : FileD) : ACalls Tryz.prog 76 [.a [.i f.1, .i f.2.1, .b f.2.2.1, .i f.2.2.2.1, .h f.2.2.2.2]] (.a [.i ((implcopyFile f).1), .i ((implcopyFile f).2.1), .b ((implcopyFile f).2.2.1), .i ((implcopyFile f).2.2.2.1), .o 0 ((implcopyFile f).2.2.2.2)]) := by
 refine acalls_of (tt := tt) Qb Tryz.func76 (fn := Tryz.f76) rfl (by unfold FnOk; kernel_rfl) (Nat.le_of_ble_eq_true rfl) fun w0 F0 hG => ?_
 refine Qa ?_
 refine rk Qb [(1, .p 1 0), (2, .p 2 0)] [0] [(1, [.i f.1, .i f.2.1, .b f.2.2.1, .i f.2.2.2.1, .h f.2.2.2.2]), (2, [.i 0, .i 0, .b false, .i 0, .e 4])] [] [] (o0) ?_
 refine Qa ?_
 refine rk Qb [] [] [(1, [.i f.1, .i f.2.1, .b f.2.2.1, .i f.2.2.2.1, .o 320 f.2.2.2.2])] [1] [(2, .val (.o 0 f.2.2.2.2))] (o1 (Qd (cloneAttr_a f.2.2.2.2))) ?_
 refine Qa ?_
 refine rk Qb [] [1] [(2, [.i f.1, .i f.2.1, .b f.2.2.1, .i f.2.2.2.1, .o 320 f.2.2.2.2])] [1, 2] [] (o0) ?_
 refine Qh ?_
 exact pret [] (congrArg (fun z => (.a [.i z.1, .i z.2.1, .b z.2.2.1, .i z.2.2.2.1, .o 0 z.2.2.2.2] : AV)) (show implcopyFile f = f from rfl).symm)
def implfileAt_1 (f : FileD) (q0 : Int) : Bool := (f.1 == q0)
theorem implfileAt_1_a (f : FileD) (q0 : Int) : ACalls Tryz.prog 106 [.a [.i f.1, .i f.2.1, .b f.2.2.1, .i f.2.2.2.1, .h f.2.2.2.2], .one (.rptr .sh [.i q0])] (.b (implfileAt_1 f q0)) := by
 refine acalls_of (tt := tt) Qb Tryz.func106 (fn := Tryz.f106) rfl (by unfold FnOk; kernel_rfl) (Nat.le_of_ble_eq_true rfl) fun w0 F0 hG => ?_
 refine Qa ?_
 refine rk Qb [(2, .p 2 0), (3, .b false)] [0] [(2, [.i f.1, .i f.2.1, .b f.2.2.1, .i f.2.2.2.1, .h f.2.2.2.2])] [] [] (o0) ?_
 refine Qa ?_
 refine rk Qb [(3, .b (f.1 == q0))] [1, 2, 3] [] [2] [] (o0) ?_
 refine Qh ?_
 exact pret [] (congrArg (fun z => (.b z : AV)) (show implfileAt_1 f q0 = (f.1 == q0) from rfl).symm)
def slicesIndexFunc_File_implfileAt_1_f0 (c0 : Int) (k0 : Nat) (a0 : FileD) (_ : Unit) : Rd (Int) (Unit) (Unit) := (bif (implfileAt_1 a0 c0) then (.ret ((k0 : Nat) : Int)) else (.next ()))
def slicesIndexFunc_File_implfileAt_1_e0 (_ : Nat) (_ : Unit) : Unit := ()
def slicesIndexFunc_File_implfileAt_1 (s_ : (List FileD)) (c0 : Int) : Int := (Out.on (forL (slicesIndexFunc_File_implfileAt_1_f0 c0) slicesIndexFunc_File_implfileAt_1_e0 s_ 0 ()) (fun _ => -1))
theorem slicesIndexFunc_File_implfileAt_1_a (s_ : (List FileD)) (c0 : Int) : ACalls Tryz.prog 105 [.h s_, .one (.fnr 106 [[.i c0]])] (.i (slicesIndexFunc_File_implfileAt_1 s_ c0)) := by
 refine acalls_of (tt := tt) Qb Tryz.func105 (fn := Tryz.f105) rfl (by unfold FnOk; kernel_rfl) (Nat.le_of_ble_eq_true rfl) fun w0 F0 hG => ?_
 refine Qa ?_
 refine rk Qb [(4, .i 0)] [] [] [] [] (o0) ?_
 refine Qa ?_
 refine Qa ?_
 refine rk Qb [(7, .i (s_.length : Int)), (8, .i 0)] [] [] [] [(1, .val (.i (s_.length : Int)))] (o1 (Qf (av_len s_))) ?_
 refine wdT 0 0 .sh s_ (fun hw1 => ?_)
 have hl2 : List.length s_ ≤ 1073741824 := wide_len (hw1)
 refine blk (fun (k0 : Nat) (s0 : Unit) => [(8, .i ((k0 : Nat) : Int))]) [8] (fun k0 s0 => []) [] (fun (y0 : Unit) => []) [0, 1, 7, 8] (fun y0 => []) [] (fun (k0 : Nat) (s0 : Unit) => (forL (slicesIndexFunc_File_implfileAt_1_f0 c0) slicesIndexFunc_File_implfileAt_1_e0 s_ 0 ()) = forL (slicesIndexFunc_File_implfileAt_1_f0 c0) slicesIndexFunc_File_implfileAt_1_e0 (List.drop k0 s_) k0 s0) (fun (y0 : Unit) => (forL (slicesIndexFunc_File_implfileAt_1_f0 c0) slicesIndexFunc_File_implfileAt_1_e0 s_ 0 ()) = .brk y0) s_.length () (Qc (by kernel_rfl)) rfl (fun k0 s0 hk0 hI0 => ?_) (fun k0 s0 hk0 hI0 => ?_) (fun y0 hD0 => ?_)
 ·
  obtain ⟨a0, hx0⟩ := get_some (l := s_) (i := k0) hk0
  refine Qa ?_
  refine rk Qb [(9, .b true)] [] [] [] [(0, .val (.b true))] (o1 (Qf (Qe (decide_eq_true (p := ((k0 : Nat) : Int) < (s_.length : Int)) (by omega))))) ?_
  refine Qa ?_
  refine ckT ?_
  refine Qg ?_
  refine Qa ?_
  refine awp_block ?_
  refine Qa ?_
  refine rk Qb [(5, .i ((k0 : Nat) : Int))] [9] [] [] [] (o0) ?_
  refine Qa ?_
  refine rk Qb [(16, .b (implfileAt_1 a0 c0))] [] [] [] [(3, .row [.i a0.1, .i a0.2.1, .b a0.2.2.1, .i a0.2.2.2.1, .h a0.2.2.2.2]), (5, .val (.b (implfileAt_1 a0 c0)))] (o2 (ob_elem (el_of (i := ((k0 : Nat) : Int)) (by omega) rfl hx0)) (o1 (Qd (implfileAt_1_a a0 c0)))) ?_
  refine ck (implfileAt_1 a0 c0) (fun h3 => ?_) (fun h3 => ?_)
  ·
   refine Qa ?_
   refine rk Qb [(4, .i ((k0 : Nat) : Int))] [4, 5, 16] [] [] [] (o0) ?_
   refine Qh ?_
   have hr4 : (forL (slicesIndexFunc_File_implfileAt_1_f0 c0) slicesIndexFunc_File_implfileAt_1_e0 s_ 0 ()) = .ret ((k0 : Nat) : Int) := forL_ret hx0 (bif_t h3 (rfl)) hI0
   exact pret [] (congrArg (fun z => (.i z : AV)) (show slicesIndexFunc_File_implfileAt_1 s_ c0 = ((k0 : Nat) : Int) from on_r hr4).symm)
  ·
   refine Qg ?_
   refine rk Qb [(8, .i ((k0 + 1 : Nat) : Int))] [5, 8, 16] [] [] [(0, .val (.i ((k0 + 1 : Nat) : Int)))] (o1 (Qf (av_i (wrap_succ k0 (by omega))))) ?_
   exact Exists.intro () (And.intro (Qc (by kernel_rfl)) (forL_next hx0 (bif_f h3 (rfl)) hI0))
 ·
  refine Qa ?_
  refine rk Qb [(9, .b false)] [] [] [] [(0, .val (.b false))] (o1 (Qf (Qe (decide_eq_false (p := ((k0 : Nat) : Int) < (s_.length : Int)) (by omega))))) ?_
  refine Qa ?_
  refine ckF ?_
  refine awp_exit ?_
  exact Exists.intro () (And.intro (Qc (by kernel_rfl)) (forL_end hk0 (rfl) hI0))
 ·
  refine Qa ?_
  refine rk Qb [(4, .i (-1))] [4] [] [] [] (o0) ?_
  refine Qh ?_
  exact pret [] (congrArg (fun z => (.i z : AV)) (show slicesIndexFunc_File_implfileAt_1 s_ c0 = -1 from on_b hD0 (rfl)).symm)
def implfileAt (s_ : StoreD) (id : Int) : Int := (slicesIndexFunc_File_implfileAt_1 s_.2.1 id)
theorem implfileAt_a (s_ : StoreD) (id : Int) : ACalls Tryz.prog 77 [.a [.h s_.1, .h s_.2.1, .i s_.2.2], .i id] (.i (implfileAt s_ id)) := by
 refine acalls_of (tt := tt) Qb Tryz.func77 (fn := Tryz.f77) rfl (by unfold FnOk; kernel_rfl) (Nat.le_of_ble_eq_true rfl) fun w0 F0 hG => ?_
 refine Qa ?_
 refine rk Qb [(2, .p 2 0), (3, .p 3 0), (4, .i 0)] [0, 1] [(2, [.h s_.1, .h s_.2.1, .i s_.2.2]), (3, [.i id])] [] [] (o0) ?_
 refine Qa ?_
 refine rk Qb [(4, .i (slicesIndexFunc_File_implfileAt_1 s_.2.1 id))] [2, 3, 4] [] [2, 3] [(3, .val (.i (slicesIndexFunc_File_implfileAt_1 s_.2.1 id)))] (o1 (Qd (slicesIndexFunc_File_implfileAt_1_a s_.2.1 id))) ?_
 refine Qh ?_
 exact pret [] (congrArg (fun z => (.i z : AV)) (show implfileAt s_ id = (slicesIndexFunc_File_implfileAt_1 s_.2.1 id) from rfl).symm)
def implVisibleStore_f0 (user : Int) (_ : Nat) (a0 : FileD) (s0 : (List FileD)) : Rd (StoreD) ((List FileD)) ((List FileD)) := (bif (implCanRead a0 user) then (.next (s0 ++ [(implcopyFile a0)])) else (.next s0))
def implVisibleStore_e0 (_ : Nat) (s0 : (List FileD)) : (List FileD) := s0
def implVisibleStore_f1 (s_ : StoreD) (k1 : Nat) (_ : FileD) (s1 : (List FileD)) : Rd (StoreD) ((List FileD)) ((List FileD)) := (bif decide ((implfileAt (s_.1, s1, s_.2.2) ((nth s1 k1).2.2.2.1)) < (0 : Int)) then (.next (List.set s1 k1 ((nth s1 k1).1, (nth s1 k1).2.1, (nth s1 k1).2.2.1, 0, (nth s1 k1).2.2.2.2))) else (.next s1))
def implVisibleStore_e1 (_ : Nat) (s1 : (List FileD)) : (List FileD) := s1
def implVisibleStore (s_ : StoreD) (user : Int) : StoreD := (Out.on (forL (implVisibleStore_f0 user) implVisibleStore_e0 s_.2.1 0 []) (fun y0 => (Out.on (forL (implVisibleStore_f1 s_) implVisibleStore_e1 y0 0 y0) (fun y1 => (s_.1, y1, s_.2.2)))))
theorem implVisibleStore_a (s_ : StoreD) (user : Int) : ACalls Tryz.prog 49 [.a [.h s_.1, .h s_.2.1, .i s_.2.2], .i user] (.a [.o 0 ((implVisibleStore s_ user).1), .o 1 ((implVisibleStore s_ user).2.1), .i ((implVisibleStore s_ user).2.2)]) := by
 refine acalls_of (tt := tt) Qb Tryz.func49 (fn := Tryz.f49) rfl (by unfold FnOk; kernel_rfl) (Nat.le_of_ble_eq_true rfl) fun w0 F0 hG => ?_
 refine Qa ?_
 refine rk Qb [(2, .p 2 0), (4, .p 4 0)] [0] [(2, [.h s_.1, .h s_.2.1, .i s_.2.2]), (4, [.e 2, .e 5, .i 0])] [] [] (o0) ?_
 refine Qa ?_
 refine rd' Qb tt_mx [(5, .p 5 0)] [] [(5, [.o 768 s_.1, .e 5, .i s_.2.2])] [] [(2, .val (.o 0 s_.1))] (o1 (Qd (cloneField_a s_.1))) ?_
 refine Qa ?_
 refine Qa ?_
 refine rk Qb [(17, .h s_.2.1), (18, .i (s_.2.1.length : Int)), (19, .i 0)] [2] [] [2] [(2, .val (.i (s_.2.1.length : Int)))] (o1 (Qf (av_len s_.2.1))) ?_
 refine wdT 17 0 .sh s_.2.1 (fun hw1 => ?_)
 have hl2 : List.length s_.2.1 ≤ 1073741824 := wide_len (hw1)
 refine blk (fun (k0 : Nat) (s0 : (List FileD)) => [(19, .i ((k0 : Nat) : Int))]) [19] (fun k0 s0 => [(5, [.o 768 s_.1, .o 147210 s0, .i s_.2.2])]) [5] (fun (y0 : (List FileD)) => []) [1, 17, 18, 19] (fun y0 => [(5, [.o 768 s_.1, .o 147360 y0, .i s_.2.2])]) [5] (fun (k0 : Nat) (s0 : (List FileD)) => (forL (implVisibleStore_f0 user) implVisibleStore_e0 s_.2.1 0 []) = forL (implVisibleStore_f0 user) implVisibleStore_e0 (List.drop k0 s_.2.1) k0 s0 ∧ List.length s0 ≤ k0) (fun (y0 : (List FileD)) => (forL (implVisibleStore_f0 user) implVisibleStore_e0 s_.2.1 0 []) = .brk y0) s_.2.1.length [] (weak_gf [(true, 5, 1, true, 320008, 5)] [] [] [(320008, 147210)] (by kernel_rfl)) ⟨rfl, (by simp)⟩ (fun k0 s0 hk0 hI0 => ?_) (fun k0 s0 hk0 hI0 => ?_) (fun y0 hD0 => ?_)
 ·
  have hA0_0 := hI0.2
  obtain ⟨a0, hx0⟩ := get_some (l := s_.2.1) (i := k0) hk0
  refine Qa ?_
  refine rk Qb [(20, .b true)] [] [] [] [(0, .val (.b true))] (o1 (Qf (Qe (decide_eq_true (p := ((k0 : Nat) : Int) < (s_.2.1.length : Int)) (by omega))))) ?_
  refine Qa ?_
  refine ckT ?_
  refine Qg ?_
  refine Qa ?_
  refine awp_block ?_
  refine Qa ?_
  refine rk Qb [(7, .p 7 0)] [20] [(7, [.i a0.1, .i a0.2.1, .b a0.2.2.1, .i a0.2.2.2.1, .h a0.2.2.2.2])] [] [(0, .row [.i a0.1, .i a0.2.1, .b a0.2.2.1, .i a0.2.2.2.1, .h a0.2.2.2.2])] (o1 (ob_elem (el_of (i := ((k0 : Nat) : Int)) (by omega) rfl hx0))) ?_
  refine Qa ?_
  refine rk Qb [(25, .b (implCanRead a0 user))] [] [] [] [(2, .val (.b (implCanRead a0 user)))] (o1 (Qd (implCanRead_a a0 user))) ?_
  refine ck (implCanRead a0 user) (fun h3 => ?_) (fun h3 => ?_)
  ·
   refine wdB 5 1 (.own true 147210) s0 (fun hw4 => ?_)
   have hl5 : List.length s0 ≤ 1073741824 := wide_len (hw4)
   refine rd' Qb tt_mx [] [7, 25] [(5, [.o 768 s_.1, .slc (.own true 1984) 5 ((eL s0) ++ [[.i ((implcopyFile a0).1), .i ((implcopyFile a0).2.1), .b ((implcopyFile a0).2.2.1), .i ((implcopyFile a0).2.2.2.1), .h ((implcopyFile a0).2.2.2.2)]]), .i s_.2.2])] [5, 7] [(3, .val (.a [.i ((implcopyFile a0).1), .i ((implcopyFile a0).2.1), .b ((implcopyFile a0).2.2.1), .i ((implcopyFile a0).2.2.2.1), .o 0 ((implcopyFile a0).2.2.2.2)]))] (o2 (Qd (implcopyFile_a a0)) (o1 (ob_len (len_of (eL_length s0) (eL_length [(implcopyFile a0)]) (by first | omega | (simp; omega) | simp))))) ?_
   refine eqn [] [] [(5, [.o 768 s_.1, .o 1984 (s0 ++ [(implcopyFile a0)]), .i s_.2.2])] [5] (by rw [show ((eL s0) ++ [[.i ((implcopyFile a0).1), .i ((implcopyFile a0).2.1), .b ((implcopyFile a0).2.2.1), .i ((implcopyFile a0).2.2.2.1), .h ((implcopyFile a0).2.2.2.2)]]) = (eL (s0 ++ [(implcopyFile a0)])) from app_eL (rfl) (rfl)]; first | done | kernel_rfl) ?_
   refine rk Qb [(19, .i ((k0 + 1 : Nat) : Int))] [19] [] [] [(0, .val (.i ((k0 + 1 : Nat) : Int)))] (o1 (Qf (av_i (wrap_succ k0 (by omega))))) ?_
   exact Exists.intro (s0 ++ [(implcopyFile a0)]) (And.intro (weak_sf [(1984, 147210)] (by kernel_rfl)) ⟨forL_next hx0 (bif_t h3 (rfl)) hI0.1, by first | omega | (simp; omega) | simp⟩)
  ·
   refine Qg ?_
   refine rk Qb [(19, .i ((k0 + 1 : Nat) : Int))] [7, 19, 25] [] [7] [(0, .val (.i ((k0 + 1 : Nat) : Int)))] (o1 (Qf (av_i (wrap_succ k0 (by omega))))) ?_
   exact Exists.intro s0 (And.intro (Qc (by kernel_rfl)) ⟨forL_next hx0 (bif_f h3 (rfl)) hI0.1, by first | omega | (simp; omega) | simp⟩)
 ·
  have hA0_0 := hI0.2
  refine Qa ?_
  refine rk Qb [(20, .b false)] [] [] [] [(0, .val (.b false))] (o1 (Qf (Qe (decide_eq_false (p := ((k0 : Nat) : Int) < (s_.2.1.length : Int)) (by omega))))) ?_
  refine Qa ?_
  refine ckF ?_
  refine awp_exit ?_
  exact Exists.intro s0 (And.intro (weak_sf [(147210, 147360)] (by kernel_rfl)) (forL_end hk0 (rfl) hI0.1))
 ·
  refine Qa ?_
  refine Qa ?_
  refine rk Qb [(35, .o 147360 y0), (36, .i (y0.length : Int)), (37, .i 0)] [] [] [] [(2, .val (.i (y0.length : Int)))] (o1 (Qf (av_len y0))) ?_
  refine wdT 35 0 (.own true 147360) y0 (fun hw6 => ?_)
  have hl7 : List.length y0 ≤ 1073741824 := wide_len (hw6)
  refine blk (fun (k1 : Nat) (s1 : (List FileD)) => [(35, .o 147360 s1), (37, .i ((k1 : Nat) : Int))]) [35, 37] (fun k1 s1 => [(5, [.o 768 s_.1, .o 147360 s1, .i s_.2.2])]) [5] (fun (y1 : (List FileD)) => []) [35, 36, 37] (fun y1 => [(5, [.o 768 s_.1, .o 147360 y1, .i s_.2.2])]) [5] (fun (k1 : Nat) (s1 : (List FileD)) => (forL (implVisibleStore_f1 s_) implVisibleStore_e1 y0 0 y0) = forL (implVisibleStore_f1 s_) implVisibleStore_e1 (List.drop k1 y0) k1 s1 ∧ List.length s1 = List.length y0) (fun (y1 : (List FileD)) => (forL (implVisibleStore_f1 s_) implVisibleStore_e1 y0 0 y0) = .brk y1) y0.length y0 (Qc (by kernel_rfl)) ⟨rfl, (by simp)⟩ (fun k1 s1 hk1 hI1 => ?_) (fun k1 s1 hk1 hI1 => ?_) (fun y1 hD1 => ?_)
  ·
   have hA1_0 := hI1.2
   obtain ⟨a1, hx1⟩ := get_some (l := y0) (i := k1) hk1
   refine Qa ?_
   refine rk Qb [(38, .b true)] [] [] [] [(0, .val (.b true))] (o1 (Qf (Qe (decide_eq_true (p := ((k1 : Nat) : Int) < (y0.length : Int)) (by omega))))) ?_
   refine Qa ?_
   refine ckT ?_
   refine Qg ?_
   refine Qa ?_
   refine awp_block ?_
   refine Qa ?_
   refine wdT 35 0 (.own true 147360) s1 (fun hw9 => ?_)
   have hl10 : List.length s1 ≤ 1073741824 := wide_len (hw9)
   have hx8 : s1[k1]? = some (nth s1 k1) := nth_get (by omega)
   refine rk Qb [(8, .i ((k1 : Nat) : Int)), (9, .p 9 0)] [38] [(9, [.i ((nth s1 k1).1), .i ((nth s1 k1).2.1), .b ((nth s1 k1).2.2.1), .i ((nth s1 k1).2.2.2.1), .v 147360 ((nth s1 k1).2.2.2.2)])] [] [(1, .rowE [.i ((nth s1 k1).1), .i ((nth s1 k1).2.1), .b ((nth s1 k1).2.2.1), .i ((nth s1 k1).2.2.2.1), .h ((nth s1 k1).2.2.2.2)])] (o1 (ob_elem (el_of (i := ((k1 : Nat) : Int)) (by omega) rfl hx8))) ?_
   refine Qa ?_
   refine rk Qb [(46, .b (decide ((implfileAt (s_.1, s1, s_.2.2) ((nth s1 k1).2.2.2.1)) < (0 : Int))))] [9] [] [9] [(3, .val (.i (implfileAt (s_.1, s1, s_.2.2) ((nth s1 k1).2.2.2.1))))] (o1 (Qd (implfileAt_a (s_.1, s1, s_.2.2) ((nth s1 k1).2.2.2.1)))) ?_
   refine ck (decide ((implfileAt (s_.1, s1, s_.2.2) ((nth s1 k1).2.2.2.1)) < (0 : Int))) (fun h11 => ?_) (fun h11 => ?_)
   ·
    have h11d := of_decide_eq_true h11
    refine rk Qb [(35, .one (.slc (.own true 147360) 5 (setRow (eL s1) k1 3 [.i 0])))] [8, 35, 46] [(5, [.o 768 s_.1, .slc (.own true 147360) 5 (setRow (eL s1) k1 3 [.i 0]), .i s_.2.2])] [5] [(3, .rowE [.i ((nth s1 k1).1), .i ((nth s1 k1).2.1), .b ((nth s1 k1).2.2.1), .i ((nth s1 k1).2.2.2.1), .h ((nth s1 k1).2.2.2.2)])] (o1 (ob_elem (el_of (i := ((k1 : Nat) : Int)) (by omega) rfl hx8))) ?_
    refine eqn [(35, .o 147360 (List.set s1 k1 ((nth s1 k1).1, (nth s1 k1).2.1, (nth s1 k1).2.2.1, 0, (nth s1 k1).2.2.2.2)))] [35] [(5, [.o 768 s_.1, .o 147360 (List.set s1 k1 ((nth s1 k1).1, (nth s1 k1).2.1, (nth s1 k1).2.2.1, 0, (nth s1 k1).2.2.2.2)), .i s_.2.2])] [5] (by rw [setRow_eL (y := ((nth s1 k1).1, (nth s1 k1).2.1, (nth s1 k1).2.2.1, 0, (nth s1 k1).2.2.2.2)) hx8 rfl]; first | done | kernel_rfl) ?_
    refine rk Qb [(37, .i ((k1 + 1 : Nat) : Int))] [37] [] [] [(0, .val (.i ((k1 + 1 : Nat) : Int)))] (o1 (Qf (av_i (wrap_succ k1 (by omega))))) ?_
    exact Exists.intro (List.set s1 k1 ((nth s1 k1).1, (nth s1 k1).2.1, (nth s1 k1).2.2.1, 0, (nth s1 k1).2.2.2.2)) (And.intro (Qc (by kernel_rfl)) ⟨forL_next hx1 (bif_t h11 (rfl)) hI1.1, (by first | omega | (simp only [List.length_set]; omega))⟩)
   ·
    have h11d := of_decide_eq_false h11
    refine Qg ?_
    refine rk Qb [(37, .i ((k1 + 1 : Nat) : Int))] [8, 37, 46] [] [] [(0, .val (.i ((k1 + 1 : Nat) : Int)))] (o1 (Qf (av_i (wrap_succ k1 (by omega))))) ?_
    exact Exists.intro s1 (And.intro (Qc (by kernel_rfl)) ⟨forL_next hx1 (bif_f h11 (rfl)) hI1.1, (by first | omega | (simp only [List.length_set]; omega))⟩)
  ·
   have hA1_0 := hI1.2
   refine Qa ?_
   refine rk Qb [(38, .b false)] [] [] [] [(0, .val (.b false))] (o1 (Qf (Qe (decide_eq_false (p := ((k1 : Nat) : Int) < (y0.length : Int)) (by omega))))) ?_
   refine Qa ?_
   refine ckF ?_
   refine awp_exit ?_
   exact Exists.intro s1 (And.intro (Qc (by kernel_rfl)) (forL_end hk1 (rfl) hI1.1))
  ·
   refine Qa ?_
   refine rk Qb [] [5] [(4, [.o 768 s_.1, .o 147360 y1, .i s_.2.2])] [4, 5] [] (o0) ?_
   refine Qh ?_
   exact pret [] (congrArg (fun z => (.a [.o 0 z.1, .o 1 z.2.1, .i z.2.2] : AV)) (show implVisibleStore s_ user = (s_.1, y1, s_.2.2) from on_b hD0 (on_b hD1 (rfl))).symm)
def implEvaluateForUser (s_ : StoreD) (d : (List DirD)) (user : Int) : (List Qj) × Bool := (bif ((!(implIsValidStore s_)) || (!(implisUser user))) then ([], false) else (((implEvaluate (implVisibleStore s_ user) d)).1, ((implEvaluate (implVisibleStore s_ user) d)).2))
theorem implEvaluateForUser_a (s_ : StoreD) (d : (List DirD)) (user : Int) : ACalls Tryz.prog 25 [.a [.h s_.1, .h s_.2.1, .i s_.2.2], .h d, .i user] (.tup [(false, [.o 0 (((implEvaluateForUser s_ d user)).1)]), (false, [.b (((implEvaluateForUser s_ d user)).2)])]) := by
 refine acalls_of (tt := tt) Qb Tryz.func25 (fn := Tryz.f25) rfl (by unfold FnOk; kernel_rfl) (Nat.le_of_ble_eq_true rfl) fun w0 F0 hG => ?_
 refine Qa ?_
 refine rk Qb [(3, .p 3 0), (6, .e 0), (7, .b false)] [0] [(3, [.h s_.1, .h s_.2.1, .i s_.2.2])] [] [] (o0) ?_
 refine Qa ?_
 refine Qa ?_
 refine jn [(15, .b ((!(implIsValidStore s_)) || (!(implisUser user))))] [] [] [] (!(implIsValidStore s_)) (fun h1 => ?_) (fun h1 => ?_) ?_
 ·
  have h1n : (implIsValidStore s_) = false := bnot_t h1
  refine rk Qb [(15, .b true)] [] [] [] [(1, .val (.b false)), (2, .val (.b true))] (o2 (Qd (cb h1n (implIsValidStore_a s_))) (o1 (Qf (show .b (!false) = .b true from rfl)))) ?_
  exact ⟨rfl, Qc (by rw [h1]; first | done | kernel_rfl)⟩
 ·
  have h1n : (implIsValidStore s_) = true := bnot_f h1
  refine rk Qb [(15, .b (!(implisUser user)))] [] [] [] [(1, .val (.b true)), (2, .val (.b false)), (5, .val (.b (implisUser user)))] (o2 (Qd (cb h1n (implIsValidStore_a s_))) (o2 (Qf (show .b (!true) = .b false from rfl)) (o1 (Qd (implisUser_a user))))) ?_
  exact ⟨rfl, Qc (by rw [h1]; first | done | kernel_rfl)⟩
 refine ck ((!(implIsValidStore s_)) || (!(implisUser user))) (fun h2 => ?_) (fun h2 => ?_)
 ·
  refine Qa ?_
  refine rk Qb [] [15] [] [] [] (o0) ?_
  refine opn [(false, 6, 0, true, 384000, 2)] ?_
  refine Qh ?_
  exact pret [] (congrArg (fun z => (.tup [(false, [.o 0 z.1]), (false, [.b z.2])] : AV)) (show implEvaluateForUser s_ d user = ([], false) from bif_t h2 (rfl)).symm)
 ·
  refine Qg ?_
  refine Qa ?_
  refine rk Qb [(6, .o 1280 (((implEvaluate (implVisibleStore s_ user) d)).1)), (7, .b (((implEvaluate (implVisibleStore s_ user) d)).2))] [1, 2, 3, 6, 7, 15] [] [3] [(2, .val (.a [.o 0 ((implVisibleStore s_ user).1), .o 1 ((implVisibleStore s_ user).2.1), .i ((implVisibleStore s_ user).2.2)])), (4, .val (.tup [(false, [.o 0 (((implEvaluate (implVisibleStore s_ user) d)).1)]), (false, [.b (((implEvaluate (implVisibleStore s_ user) d)).2)])]))] (o2 (Qd (implVisibleStore_a s_ user)) (o1 (Qd (implEvaluate_a (implVisibleStore s_ user) d)))) ?_
  refine Qh ?_
  exact pret [] (congrArg (fun z => (.tup [(false, [.o 0 z.1]), (false, [.b z.2])] : AV)) (show implEvaluateForUser s_ d user = (((implEvaluate (implVisibleStore s_ user) d)).1, ((implEvaluate (implVisibleStore s_ user) d)).2) from bif_f h2 (rfl)).symm)
def implListDir (s_ : StoreD) (d : (List DirD)) (user : Int) (name : ByteArray) : (List Int) := (implResultIDs (((implEvaluateForUser s_ d user)).1) name)
theorem implListDir_a (s_ : StoreD) (d : (List DirD)) (user : Int) (name : ByteArray) : ACalls Tryz.prog 51 [.a [.h s_.1, .h s_.2.1, .i s_.2.2], .h d, .i user, .s name] (.o 0 (implListDir s_ d user name)) := by
 refine acalls_of (tt := tt) Qb Tryz.func51 (fn := Tryz.f51) rfl (by unfold FnOk; kernel_rfl) (Nat.le_of_ble_eq_true rfl) fun w0 F0 hG => ?_
 refine Qa ?_
 refine rk Qb [(4, .p 4 0), (8, .e 0)] [0] [(4, [.h s_.1, .h s_.2.1, .i s_.2.2])] [] [] (o0) ?_
 refine Qa ?_
 refine rk Qb [(9, .o 960 (((implEvaluateForUser s_ d user)).1))] [1, 2, 4] [] [4] [(3, .val (.tup [(false, [.o 0 (((implEvaluateForUser s_ d user)).1)]), (false, [.b (((implEvaluateForUser s_ d user)).2)])]))] (o1 (Qd (implEvaluateForUser_a s_ d user))) ?_
 refine Qa ?_
 refine rk Qb [(8, .o 1280 (implResultIDs (((implEvaluateForUser s_ d user)).1) name))] [3, 8, 9] [] [] [(2, .val (.o 0 (implResultIDs (((implEvaluateForUser s_ d user)).1) name)))] (o1 (Qd (implResultIDs_a (((implEvaluateForUser s_ d user)).1) name))) ?_
 refine Qh ?_
 exact pret [] (congrArg (fun z => (.o 0 z : AV)) (show implListDir s_ d user name = (implResultIDs (((implEvaluateForUser s_ d user)).1) name) from rfl).symm)
def specCanRead (f : FileD) (u : Int) : Bool := ((specl01In u 0 2) && ((f.2.1 == u) || f.2.2.1))
theorem specCanRead_a (f : FileD) (u : Int) : ACalls Tryz.prog 61 [.a [.i f.1, .i f.2.1, .b f.2.2.1, .i f.2.2.2.1, .h f.2.2.2.2], .i u] (.b (specCanRead f u)) := by
 refine acalls_of (tt := tt) Qb Tryz.func61 (fn := Tryz.f61) rfl (by unfold FnOk; kernel_rfl) (Nat.le_of_ble_eq_true rfl) fun w0 F0 hG => ?_
 refine Qa ?_
 refine rk Qb [(2, .p 2 0), (4, .b false)] [0] [(2, [.i f.1, .i f.2.1, .b f.2.2.1, .i f.2.2.2.1, .h f.2.2.2.2])] [] [] (o0) ?_
 refine Qa ?_
 refine jn [(4, .b ((specl01In u 0 2) && ((f.2.1 == u) || f.2.2.1)))] [1, 2, 4] [] [2] (specl01In u 0 2) (fun h1 => ?_) (fun h1 => ?_) ?_
 ·
  have h1w := l01In_iff.1 h1
  refine awp_split (f.2.1 == u) (fun h2 => ?_) (fun h2 => ?_)
  ·
   refine rk Qb [(4, .b true)] [1, 2, 4] [] [2] [(1, .val (.b true)), (6, .val (.b true))] (o2 (Qd (cb h1 (specl01In_a u 0 2))) (o1 (Qf (Qe h2)))) ?_
   exact ⟨rfl, Qc (by rw [h1, h2]; first | done | kernel_rfl)⟩
  ·
   refine rk Qb [(4, .b f.2.2.1)] [1, 2, 4] [] [2] [(1, .val (.b true)), (6, .val (.b false))] (o2 (Qd (cb h1 (specl01In_a u 0 2))) (o1 (Qf (Qe h2)))) ?_
   exact ⟨rfl, Qc (by rw [h1, h2]; first | done | kernel_rfl)⟩
 ·
  refine rk Qb [] [1, 2] [] [2] [(1, .val (.b false))] (o1 (Qd (cb h1 (specl01In_a u 0 2)))) ?_
  exact ⟨rfl, Qc (by rw [h1]; first | done | kernel_rfl)⟩
 refine Qh ?_
 exact pret [] (congrArg (fun z => (.b z : AV)) (show specCanRead f u = ((specl01In u 0 2) && ((f.2.1 == u) || f.2.2.1)) from rfl).symm)
def specl04Copy (f : FileD) : FileD := f
theorem specl04Copy_a (f : FileD) : ACalls Tryz.prog 62 [.a [.i f.1, .i f.2.1, .b f.2.2.1, .i f.2.2.2.1, .h f.2.2.2.2]] (.a [.i ((specl04Copy f).1), .i ((specl04Copy f).2.1), .b ((specl04Copy f).2.2.1), .i ((specl04Copy f).2.2.2.1), .o 0 ((specl04Copy f).2.2.2.2)]) := by
 refine acalls_of (tt := tt) Qb Tryz.func62 (fn := Tryz.f62) rfl (by unfold FnOk; kernel_rfl) (Nat.le_of_ble_eq_true rfl) fun w0 F0 hG => ?_
 refine Qa ?_
 refine rk Qb [(1, .p 1 0), (2, .p 2 0)] [0] [(1, [.i f.1, .i f.2.1, .b f.2.2.1, .i f.2.2.2.1, .h f.2.2.2.2]), (2, [.i 0, .i 0, .b false, .i 0, .e 4])] [] [] (o0) ?_
 refine Qa ?_
 refine wdB 1 4 .sh f.2.2.2.2 (fun hw1 => ?_)
 have hl2 : List.length f.2.2.2.2 ≤ 1073741824 := wide_len (hw1)
 refine rk Qb [] [] [(1, [.i f.1, .i f.2.1, .b f.2.2.1, .i f.2.2.2.1, .o 384 f.2.2.2.2])] [1] [(3, .flat)] (o2 (ob_len (n := (([] : List (List PV)).length + ((eL f.2.2.2.2) : List (List PV)).length)) (len_of (rfl) (eL_length f.2.2.2.2) (by first | omega | (simp; omega) | simp))) (o1 (ob_flat (flat_eL f.2.2.2.2)))) ?_
 refine Qa ?_
 refine rk Qb [] [1] [(2, [.i f.1, .i f.2.1, .b f.2.2.1, .i f.2.2.2.1, .o 384 f.2.2.2.2])] [1, 2] [] (o0) ?_
 refine Qh ?_
 exact pret [] (congrArg (fun z => (.a [.i z.1, .i z.2.1, .b z.2.2.1, .i z.2.2.2.1, .o 0 z.2.2.2.2] : AV)) (show specl04Copy f = f from rfl).symm)
def specl05Place_f0 (id : Int) (k0 : Nat) (a0 : FileD) (_ : Unit) : Rd (Int) (Unit) (Unit) := (bif (a0.1 == id) then (.ret ((k0 : Nat) : Int)) else (.next ()))
def specl05Place_e0 (_ : Nat) (_ : Unit) : Unit := ()
def specl05Place (s_ : StoreD) (id : Int) : Int := (Out.on (forL (specl05Place_f0 id) specl05Place_e0 s_.2.1 0 ()) (fun _ => -1))
theorem specl05Place_a (s_ : StoreD) (id : Int) : ACalls Tryz.prog 63 [.a [.h s_.1, .h s_.2.1, .i s_.2.2], .i id] (.i (specl05Place s_ id)) := by
 refine acalls_of (tt := tt) Qb Tryz.func63 (fn := Tryz.f63) rfl (by unfold FnOk; kernel_rfl) (Nat.le_of_ble_eq_true rfl) fun w0 F0 hG => ?_
 refine Qa ?_
 refine rk Qb [(2, .p 2 0), (4, .i 0)] [0] [(2, [.h s_.1, .h s_.2.1, .i s_.2.2])] [] [] (o0) ?_
 refine Qa ?_
 refine Qa ?_
 refine rk Qb [(5, .i 0)] [] [] [] [] (o0) ?_
 refine wdB 2 1 .sh s_.2.1 (fun hw1 => ?_)
 have hl2 : List.length s_.2.1 ≤ 1073741824 := wide_len (hw1)
 refine blk (fun (k0 : Nat) (s0 : Unit) => [(5, .i ((k0 : Nat) : Int))]) [5] (fun k0 s0 => []) [] (fun (y0 : Unit) => []) [1, 2, 5] (fun y0 => []) [2] (fun (k0 : Nat) (s0 : Unit) => (forL (specl05Place_f0 id) specl05Place_e0 s_.2.1 0 ()) = forL (specl05Place_f0 id) specl05Place_e0 (List.drop k0 s_.2.1) k0 s0) (fun (y0 : Unit) => (forL (specl05Place_f0 id) specl05Place_e0 s_.2.1 0 ()) = .brk y0) s_.2.1.length () (Qc (by kernel_rfl)) rfl (fun k0 s0 hk0 hI0 => ?_) (fun k0 s0 hk0 hI0 => ?_) (fun y0 hD0 => ?_)
 ·
  obtain ⟨a0, hx0⟩ := get_some (l := s_.2.1) (i := k0) hk0
  refine Qa ?_
  refine Qa ?_
  refine rk Qb [(10, .b true)] [] [] [] [(3, .val (.i (s_.2.1.length : Int))), (4, .val (.b true))] (o2 (Qf (av_len s_.2.1)) (o1 (Qf (Qe (decide_eq_true (p := ((k0 : Nat) : Int) < (s_.2.1.length : Int)) (by omega)))))) ?_
  refine ckT ?_
  refine Qg ?_
  refine Qa ?_
  refine awp_block ?_
  refine Qa ?_
  refine rk Qb [(20, .b (a0.1 == id))] [10] [] [] [(3, .row [.i a0.1, .i a0.2.1, .b a0.2.2.1, .i a0.2.2.2.1, .h a0.2.2.2.2])] (o1 (ob_elem (el_of (i := ((k0 : Nat) : Int)) (by omega) rfl hx0))) ?_
  refine ck (a0.1 == id) (fun h3 => ?_) (fun h3 => ?_)
  ·
   refine Qa ?_
   refine rk Qb [(4, .i ((k0 : Nat) : Int))] [4, 20] [] [] [] (o0) ?_
   refine Qh ?_
   have hr4 : (forL (specl05Place_f0 id) specl05Place_e0 s_.2.1 0 ()) = .ret ((k0 : Nat) : Int) := forL_ret hx0 (bif_t h3 (rfl)) hI0
   exact pret [] (congrArg (fun z => (.i z : AV)) (show specl05Place s_ id = ((k0 : Nat) : Int) from on_r hr4).symm)
  ·
   have h3d := ne_of_beq h3
   refine Qg ?_
   refine rk Qb [(5, .i ((k0 + 1 : Nat) : Int))] [5, 20] [] [] [(1, .val (.i ((k0 + 1 : Nat) : Int)))] (o1 (Qf (av_i (wrap_succ k0 (by omega))))) ?_
   exact Exists.intro () (And.intro (Qc (by kernel_rfl)) (forL_next hx0 (bif_f h3 (rfl)) hI0))
 ·
  refine Qa ?_
  refine Qa ?_
  refine rk Qb [(10, .b false)] [] [] [] [(3, .val (.i (s_.2.1.length : Int))), (4, .val (.b false))] (o2 (Qf (av_len s_.2.1)) (o1 (Qf (Qe (decide_eq_false (p := ((k0 : Nat) : Int) < (s_.2.1.length : Int)) (by omega)))))) ?_
  refine ckF ?_
  refine awp_exit ?_
  exact Exists.intro () (And.intro (Qc (by kernel_rfl)) (forL_end hk0 (rfl) hI0))
 ·
  refine Qa ?_
  refine rk Qb [(4, .i (-1))] [4] [] [] [] (o0) ?_
  refine Qh ?_
  exact pret [] (congrArg (fun z => (.i z : AV)) (show specl05Place s_ id = -1 from on_b hD0 (rfl)).symm)
def specVisibleStore_f0 (u : Int) (_ : Nat) (a0 : FileD) (s0 : (List FileD)) : Rd (StoreD) ((List FileD)) ((List FileD)) := (bif (specCanRead a0 u) then (.next (s0 ++ [(specl04Copy a0)])) else (.next s0))
def specVisibleStore_e0 (_ : Nat) (s0 : (List FileD)) : (List FileD) := s0
def specVisibleStore_f1 (s_ : StoreD) (k1 : Nat) (s1 : (List FileD)) : Rd (StoreD) ((List FileD)) ((List FileD)) := (bif decide ((specl05Place (s_.1, s1, s_.2.2) ((nth s1 k1).2.2.2.1)) < (0 : Int)) then (.next (List.set s1 k1 ((nth s1 k1).1, (nth s1 k1).2.1, (nth s1 k1).2.2.1, 0, (nth s1 k1).2.2.2.2))) else (.next s1))
def specVisibleStore_e1 (_ : Nat) (s1 : (List FileD)) : (List FileD) := s1
def specVisibleStore (s_ : StoreD) (u : Int) : StoreD := (Out.on (forL (specVisibleStore_f0 u) specVisibleStore_e0 s_.2.1 0 []) (fun y0 => (Out.on (forN (specVisibleStore_f1 s_) specVisibleStore_e1 (List.length y0) 0 y0) (fun y1 => (s_.1, y1, s_.2.2)))))
theorem specVisibleStore_a (s_ : StoreD) (u : Int) : ACalls Tryz.prog 40 [.a [.h s_.1, .h s_.2.1, .i s_.2.2], .i u] (.a [.o 0 ((specVisibleStore s_ u).1), .o 1 ((specVisibleStore s_ u).2.1), .i ((specVisibleStore s_ u).2.2)]) := by
 refine acalls_of (tt := tt) Qb Tryz.func40 (fn := Tryz.f40) rfl (by unfold FnOk; kernel_rfl) (Nat.le_of_ble_eq_true rfl) fun w0 F0 hG => ?_
 refine Qa ?_
 refine rk Qb [(2, .p 2 0), (4, .p 4 0)] [0] [(2, [.h s_.1, .h s_.2.1, .i s_.2.2]), (4, [.e 2, .e 5, .i 0])] [] [] (o0) ?_
 refine Qa ?_
 refine wdB 2 0 .sh s_.1 (fun hw1 => ?_)
 have hl2 : List.length s_.1 ≤ 1073741824 := wide_len (hw1)
 refine rd' Qb tt_mx [(5, .p 5 0)] [] [(5, [.o 704 s_.1, .e 5, .i s_.2.2])] [] [(3, .flat)] (o2 (ob_len (n := (([] : List (List PV)).length + ((eL s_.1) : List (List PV)).length)) (len_of (rfl) (eL_length s_.1) (by first | omega | (simp; omega) | simp))) (o1 (ob_flat (flat_eL s_.1)))) ?_
 refine Qa ?_
 refine Qa ?_
 refine rk Qb [(6, .i 0)] [] [] [] [] (o0) ?_
 refine wdB 2 1 .sh s_.2.1 (fun hw3 => ?_)
 have hl4 : List.length s_.2.1 ≤ 1073741824 := wide_len (hw3)
 refine blk (fun (k0 : Nat) (s0 : (List FileD)) => [(6, .i ((k0 : Nat) : Int))]) [6] (fun k0 s0 => [(5, [.o 704 s_.1, .o 147212 s0, .i s_.2.2])]) [5] (fun (y0 : (List FileD)) => []) [1, 2, 6] (fun y0 => [(5, [.o 704 s_.1, .o 147362 y0, .i s_.2.2])]) [2, 5] (fun (k0 : Nat) (s0 : (List FileD)) => (forL (specVisibleStore_f0 u) specVisibleStore_e0 s_.2.1 0 []) = forL (specVisibleStore_f0 u) specVisibleStore_e0 (List.drop k0 s_.2.1) k0 s0 ∧ List.length s0 ≤ k0) (fun (y0 : (List FileD)) => (forL (specVisibleStore_f0 u) specVisibleStore_e0 s_.2.1 0 []) = .brk y0) s_.2.1.length [] (weak_gf [(true, 5, 1, true, 320008, 5)] [] [] [(320008, 147212)] (by kernel_rfl)) ⟨rfl, (by simp)⟩ (fun k0 s0 hk0 hI0 => ?_) (fun k0 s0 hk0 hI0 => ?_) (fun y0 hD0 => ?_)
 ·
  have hA0_0 := hI0.2
  obtain ⟨a0, hx0⟩ := get_some (l := s_.2.1) (i := k0) hk0
  refine Qa ?_
  refine Qa ?_
  refine rk Qb [(19, .b true)] [] [] [] [(3, .val (.i (s_.2.1.length : Int))), (4, .val (.b true))] (o2 (Qf (av_len s_.2.1)) (o1 (Qf (Qe (decide_eq_true (p := ((k0 : Nat) : Int) < (s_.2.1.length : Int)) (by omega)))))) ?_
  refine ckT ?_
  refine Qg ?_
  refine Qa ?_
  refine awp_block ?_
  refine Qa ?_
  refine rk Qb [(28, .b (specCanRead a0 u))] [19] [] [] [(3, .row [.i a0.1, .i a0.2.1, .b a0.2.2.1, .i a0.2.2.2.1, .h a0.2.2.2.2]), (6, .val (.b (specCanRead a0 u)))] (o2 (ob_elem (el_of (i := ((k0 : Nat) : Int)) (by omega) rfl hx0)) (o1 (Qd (specCanRead_a a0 u)))) ?_
  refine ck (specCanRead a0 u) (fun h5 => ?_) (fun h5 => ?_)
  ·
   refine wdB 5 1 (.own true 147212) s0 (fun hw6 => ?_)
   have hl7 : List.length s0 ≤ 1073741824 := wide_len (hw6)
   refine rd' Qb tt_mx [] [28] [(5, [.o 704 s_.1, .slc (.own true 2432) 5 ((eL s0) ++ [[.i ((specl04Copy a0).1), .i ((specl04Copy a0).2.1), .b ((specl04Copy a0).2.2.1), .i ((specl04Copy a0).2.2.2.1), .h ((specl04Copy a0).2.2.2.2)]]), .i s_.2.2])] [5] [(5, .row [.i a0.1, .i a0.2.1, .b a0.2.2.1, .i a0.2.2.2.1, .h a0.2.2.2.2]), (7, .val (.a [.i ((specl04Copy a0).1), .i ((specl04Copy a0).2.1), .b ((specl04Copy a0).2.2.1), .i ((specl04Copy a0).2.2.2.1), .o 0 ((specl04Copy a0).2.2.2.2)]))] (o2 (ob_elem (el_of (i := ((k0 : Nat) : Int)) (by omega) rfl hx0)) (o2 (Qd (specl04Copy_a a0)) (o1 (ob_len (len_of (eL_length s0) (eL_length [(specl04Copy a0)]) (by first | omega | (simp; omega) | simp)))))) ?_
   refine eqn [] [] [(5, [.o 704 s_.1, .o 2432 (s0 ++ [(specl04Copy a0)]), .i s_.2.2])] [5] (by rw [show ((eL s0) ++ [[.i ((specl04Copy a0).1), .i ((specl04Copy a0).2.1), .b ((specl04Copy a0).2.2.1), .i ((specl04Copy a0).2.2.2.1), .h ((specl04Copy a0).2.2.2.2)]]) = (eL (s0 ++ [(specl04Copy a0)])) from app_eL (rfl) (rfl)]; first | done | kernel_rfl) ?_
   refine rk Qb [(6, .i ((k0 + 1 : Nat) : Int))] [6] [] [] [(1, .val (.i ((k0 + 1 : Nat) : Int)))] (o1 (Qf (av_i (wrap_succ k0 (by omega))))) ?_
   exact Exists.intro (s0 ++ [(specl04Copy a0)]) (And.intro (weak_sf [(2432, 147212)] (by kernel_rfl)) ⟨forL_next hx0 (bif_t h5 (rfl)) hI0.1, by first | omega | (simp; omega) | simp⟩)
  ·
   refine Qg ?_
   refine rk Qb [(6, .i ((k0 + 1 : Nat) : Int))] [6, 28] [] [] [(1, .val (.i ((k0 + 1 : Nat) : Int)))] (o1 (Qf (av_i (wrap_succ k0 (by omega))))) ?_
   exact Exists.intro s0 (And.intro (Qc (by kernel_rfl)) ⟨forL_next hx0 (bif_f h5 (rfl)) hI0.1, by first | omega | (simp; omega) | simp⟩)
 ·
  have hA0_0 := hI0.2
  refine Qa ?_
  refine Qa ?_
  refine rk Qb [(19, .b false)] [] [] [] [(3, .val (.i (s_.2.1.length : Int))), (4, .val (.b false))] (o2 (Qf (av_len s_.2.1)) (o1 (Qf (Qe (decide_eq_false (p := ((k0 : Nat) : Int) < (s_.2.1.length : Int)) (by omega)))))) ?_
  refine ckF ?_
  refine awp_exit ?_
  exact Exists.intro s0 (And.intro (weak_sf [(147212, 147362)] (by kernel_rfl)) (forL_end hk0 (rfl) hI0.1))
 ·
  refine Qa ?_
  refine Qa ?_
  refine rk Qb [(7, .i 0)] [] [] [] [] (o0) ?_
  refine blk (fun (k1 : Nat) (s1 : (List FileD)) => [(7, .i ((k1 : Nat) : Int))]) [7] (fun k1 s1 => [(5, [.o 704 s_.1, .o 147362 s1, .i s_.2.2])]) [5] (fun (y1 : (List FileD)) => []) [7] (fun y1 => [(5, [.o 704 s_.1, .o 147362 y1, .i s_.2.2])]) [5] (fun (k1 : Nat) (s1 : (List FileD)) => (forN (specVisibleStore_f1 s_) specVisibleStore_e1 (List.length y0) 0 y0) = forN (specVisibleStore_f1 s_) specVisibleStore_e1 ((List.length y0) - k1) k1 s1 ∧ List.length s1 = List.length y0) (fun (y1 : (List FileD)) => (forN (specVisibleStore_f1 s_) specVisibleStore_e1 (List.length y0) 0 y0) = .brk y1 ∧ List.length y1 = List.length y0) (List.length y0) y0 (Qc (by kernel_rfl)) ⟨rfl, (by simp)⟩ (fun k1 s1 hk1 hI1 => ?_) (fun k1 s1 hk1 hI1 => ?_) (fun y1 hD1 => ?_)
  ·
   have hA1_0 := hI1.2
   refine Qa ?_
   refine Qa ?_
   refine rk Qb [(44, .b true)] [] [] [] [(3, .val (.i (s1.length : Int))), (4, .val (.b true))] (o2 (Qf (av_len s1)) (o1 (Qf (Qe (decide_eq_true (p := ((k1 : Nat) : Int) < (s1.length : Int)) (by omega)))))) ?_
   refine ckT ?_
   refine Qg ?_
   refine Qa ?_
   refine awp_block ?_
   refine Qa ?_
   refine wdB 5 1 (.own true 147362) s1 (fun hw9 => ?_)
   have hl10 : List.length s1 ≤ 1073741824 := wide_len (hw9)
   have hx8 : s1[k1]? = some (nth s1 k1) := nth_get (by omega)
   refine rd' Qb tt_mx [(55, .b (decide ((specl05Place (s_.1, s1, s_.2.2) ((nth s1 k1).2.2.2.1)) < (0 : Int))))] [44] [] [] [(4, .rowE [.i ((nth s1 k1).1), .i ((nth s1 k1).2.1), .b ((nth s1 k1).2.2.1), .i ((nth s1 k1).2.2.2.1), .h ((nth s1 k1).2.2.2.2)]), (7, .val (.i (specl05Place (s_.1, s1, s_.2.2) ((nth s1 k1).2.2.2.1))))] (o2 (ob_elem (el_of (i := ((k1 : Nat) : Int)) (by omega) rfl hx8)) (o1 (Qd (specl05Place_a (s_.1, s1, s_.2.2) ((nth s1 k1).2.2.2.1))))) ?_
   refine ck (decide ((specl05Place (s_.1, s1, s_.2.2) ((nth s1 k1).2.2.2.1)) < (0 : Int))) (fun h11 => ?_) (fun h11 => ?_)
   ·
    have h11d := of_decide_eq_true h11
    refine rk Qb [] [55] [(5, [.o 704 s_.1, .slc (.own true 147362) 5 (setRow (eL s1) k1 3 [.i 0]), .i s_.2.2])] [5] [(3, .rowE [.i ((nth s1 k1).1), .i ((nth s1 k1).2.1), .b ((nth s1 k1).2.2.1), .i ((nth s1 k1).2.2.2.1), .h ((nth s1 k1).2.2.2.2)])] (o1 (ob_elem (el_of (i := ((k1 : Nat) : Int)) (by omega) rfl hx8))) ?_
    refine eqn [] [] [(5, [.o 704 s_.1, .o 147362 (List.set s1 k1 ((nth s1 k1).1, (nth s1 k1).2.1, (nth s1 k1).2.2.1, 0, (nth s1 k1).2.2.2.2)), .i s_.2.2])] [5] (by rw [setRow_eL (y := ((nth s1 k1).1, (nth s1 k1).2.1, (nth s1 k1).2.2.1, 0, (nth s1 k1).2.2.2.2)) hx8 rfl]; first | done | kernel_rfl) ?_
    refine rk Qb [(7, .i ((k1 + 1 : Nat) : Int))] [7] [] [] [(1, .val (.i ((k1 + 1 : Nat) : Int)))] (o1 (Qf (av_i (wrap_succ k1 (by omega))))) ?_
    exact Exists.intro (List.set s1 k1 ((nth s1 k1).1, (nth s1 k1).2.1, (nth s1 k1).2.2.1, 0, (nth s1 k1).2.2.2.2)) (And.intro (Qc (by kernel_rfl)) ⟨forN_next hk1 (bif_t h11 (rfl)) hI1.1, (by first | omega | (simp only [List.length_set]; omega))⟩)
   ·
    have h11d := of_decide_eq_false h11
    refine Qg ?_
    refine rk Qb [(7, .i ((k1 + 1 : Nat) : Int))] [7, 55] [] [] [(1, .val (.i ((k1 + 1 : Nat) : Int)))] (o1 (Qf (av_i (wrap_succ k1 (by omega))))) ?_
    exact Exists.intro s1 (And.intro (Qc (by kernel_rfl)) ⟨forN_next hk1 (bif_f h11 (rfl)) hI1.1, (by first | omega | (simp only [List.length_set]; omega))⟩)
  ·
   have hA1_0 := hI1.2
   refine Qa ?_
   refine Qa ?_
   refine rk Qb [(44, .b false)] [] [] [] [(3, .val (.i (s1.length : Int))), (4, .val (.b false))] (o2 (Qf (av_len s1)) (o1 (Qf (Qe (decide_eq_false (p := ((k1 : Nat) : Int) < (s1.length : Int)) (by omega)))))) ?_
   refine ckF ?_
   refine awp_exit ?_
   exact Exists.intro s1 (And.intro (Qc (by kernel_rfl)) ⟨forN_end hk1 (rfl) hI1.1, by first | omega | (simp only [List.length_set]; omega)⟩)
  ·
   have hD1_0 := hD1.2
   refine Qa ?_
   refine rk Qb [] [5] [(4, [.o 704 s_.1, .o 147362 y1, .i s_.2.2])] [4, 5] [] (o0) ?_
   refine Qh ?_
   exact pret [] (congrArg (fun z => (.a [.o 0 z.1, .o 1 z.2.1, .i z.2.2] : AV)) (show specVisibleStore s_ u = (s_.1, y1, s_.2.2) from on_b hD0 (on_b hD1.1 (rfl))).symm)
def specEvaluateForUser (s_ : StoreD) (d : (List DirD)) (u : Int) : (List Qj) × Bool := (bif ((!(specl01In u 0 2)) || (!(specIsValidStore s_))) then ([], false) else (((specEvaluate (specVisibleStore s_ u) d)).1, ((specEvaluate (specVisibleStore s_ u) d)).2))
theorem specEvaluateForUser_a (s_ : StoreD) (d : (List DirD)) (u : Int) : ACalls Tryz.prog 20 [.a [.h s_.1, .h s_.2.1, .i s_.2.2], .h d, .i u] (.tup [(false, [.o 0 (((specEvaluateForUser s_ d u)).1)]), (false, [.b (((specEvaluateForUser s_ d u)).2)])]) := by
 refine acalls_of (tt := tt) Qb Tryz.func20 (fn := Tryz.f20) rfl (by unfold FnOk; kernel_rfl) (Nat.le_of_ble_eq_true rfl) fun w0 F0 hG => ?_
 refine Qa ?_
 refine rk Qb [(3, .p 3 0), (6, .e 0), (7, .b false)] [0] [(3, [.h s_.1, .h s_.2.1, .i s_.2.2])] [] [] (o0) ?_
 refine Qa ?_
 refine Qa ?_
 refine jn [(15, .b ((!(specl01In u 0 2)) || (!(specIsValidStore s_))))] [] [] [] (!(specl01In u 0 2)) (fun h1 => ?_) (fun h1 => ?_) ?_
 ·
  have h1n : (specl01In u 0 2) = false := bnot_t h1
  refine rk Qb [(15, .b true)] [] [] [] [(1, .val (.b false)), (2, .val (.b true))] (o2 (Qd (cb h1n (specl01In_a u 0 2))) (o1 (Qf (show .b (!false) = .b true from rfl)))) ?_
  exact ⟨rfl, Qc (by rw [h1]; first | done | kernel_rfl)⟩
 ·
  have h1n : (specl01In u 0 2) = true := bnot_f h1
  have h1nw := l01In_iff.1 h1n
  refine rk Qb [(15, .b (!(specIsValidStore s_)))] [] [] [] [(1, .val (.b true)), (2, .val (.b false)), (5, .val (.b (specIsValidStore s_)))] (o2 (Qd (cb h1n (specl01In_a u 0 2))) (o2 (Qf (show .b (!true) = .b false from rfl)) (o1 (Qd (specIsValidStore_a s_))))) ?_
  exact ⟨rfl, Qc (by rw [h1]; first | done | kernel_rfl)⟩
 refine ck ((!(specl01In u 0 2)) || (!(specIsValidStore s_))) (fun h2 => ?_) (fun h2 => ?_)
 ·
  refine Qa ?_
  refine rk Qb [(6, .one (.slc (.own true 1024) 2 []))] [6, 15] [] [] [] (o0) ?_
  refine Qh ?_
  exact pret [] (congrArg (fun z => (.tup [(false, [.o 0 z.1]), (false, [.b z.2])] : AV)) (show specEvaluateForUser s_ d u = ([], false) from bif_t h2 (rfl)).symm)
 ·
  have h2l : ((!(specl01In u 0 2))) = false := or_l h2
  have h2ln : (specl01In u 0 2) = true := bnot_f h2l
  have h2lnw := l01In_iff.1 h2ln
  refine Qg ?_
  refine Qa ?_
  refine rk Qb [(6, .o 1344 (((specEvaluate (specVisibleStore s_ u) d)).1)), (7, .b (((specEvaluate (specVisibleStore s_ u) d)).2))] [1, 2, 3, 6, 7, 15] [] [3] [(2, .val (.a [.o 0 ((specVisibleStore s_ u).1), .o 1 ((specVisibleStore s_ u).2.1), .i ((specVisibleStore s_ u).2.2)])), (4, .val (.tup [(false, [.o 0 (((specEvaluate (specVisibleStore s_ u) d)).1)]), (false, [.b (((specEvaluate (specVisibleStore s_ u) d)).2)])]))] (o2 (Qd (specVisibleStore_a s_ u)) (o1 (Qd (specEvaluate_a (specVisibleStore s_ u) d)))) ?_
  refine Qh ?_
  exact pret [] (congrArg (fun z => (.tup [(false, [.o 0 z.1]), (false, [.b z.2])] : AV)) (show specEvaluateForUser s_ d u = (((specEvaluate (specVisibleStore s_ u) d)).1, ((specEvaluate (specVisibleStore s_ u) d)).2) from bif_f h2 (rfl)).symm)
def specListDir (s_ : StoreD) (d : (List DirD)) (u : Int) (name : ByteArray) : (List Int) := (specResultIDs (((specEvaluateForUser s_ d u)).1) name)
theorem specListDir_a (s_ : StoreD) (d : (List DirD)) (u : Int) (name : ByteArray) : ACalls Tryz.prog 42 [.a [.h s_.1, .h s_.2.1, .i s_.2.2], .h d, .i u, .s name] (.o 0 (specListDir s_ d u name)) := by
 refine acalls_of (tt := tt) Qb Tryz.func42 (fn := Tryz.f42) rfl (by unfold FnOk; kernel_rfl) (Nat.le_of_ble_eq_true rfl) fun w0 F0 hG => ?_
 refine Qa ?_
 refine rk Qb [(4, .p 4 0), (8, .e 0)] [0] [(4, [.h s_.1, .h s_.2.1, .i s_.2.2])] [] [] (o0) ?_
 refine Qa ?_
 refine rk Qb [(9, .o 960 (((specEvaluateForUser s_ d u)).1))] [1, 2, 4] [] [4] [(3, .val (.tup [(false, [.o 0 (((specEvaluateForUser s_ d u)).1)]), (false, [.b (((specEvaluateForUser s_ d u)).2)])]))] (o1 (Qd (specEvaluateForUser_a s_ d u))) ?_
 refine Qa ?_
 refine rk Qb [(8, .o 1280 (specResultIDs (((specEvaluateForUser s_ d u)).1) name))] [3, 8, 9] [] [] [(2, .val (.o 0 (specResultIDs (((specEvaluateForUser s_ d u)).1) name)))] (o1 (Qd (specResultIDs_a (((specEvaluateForUser s_ d u)).1) name))) ?_
 refine Qh ?_
 exact pret [] (congrArg (fun z => (.o 0 z : AV)) (show specListDir s_ d u name = (specResultIDs (((specEvaluateForUser s_ d u)).1) name) from rfl).symm)
end Go.Proofs.YtnhmnfmhnepjmaaGreatDoor
namespace Go.Proofs.YtnhmnfmhnepjmaaGreatDoor
open Go.RowKit
theorem forL_forN {α R S T : Type} {f : Nat → α → S → Rd R S T} {g : Nat → S → Rd R S T} {e e' : Nat → S → T} (hf : ∀ k a s, f k a s = g k s) (he : ∀ k s, e k s = e' k s) : ∀ (l : List α) (k : Nat) (s : S), forL f e l k s = forN g e' l.length k s
  | [], k, s => by simp [forL, forN, he]
  | a :: l, k, s => by
    simp only [forL, forN, List.length_cons, hf]
    cases g k s with
    | next s' => exact forL_forN hf he l (k + 1) s'
    | brk t => rfl
    | ret r => rfl
theorem visible_eq (s : StoreD) (u : Int) : specVisibleStore s u = implVisibleStore s u := by
  unfold specVisibleStore implVisibleStore
  rw [forL_congr (f := specVisibleStore_f0 u) (g := implVisibleStore_f0 u) (e := specVisibleStore_e0) (e' := implVisibleStore_e0) (fun _ _ => rfl) s.2.1 0 _ (fun i a t _ => rfl)]
  congr 1
  funext y
  rw [forL_forN (f := implVisibleStore_f1 s) (g := specVisibleStore_f1 s) (e := implVisibleStore_e1) (e' := specVisibleStore_e1) (fun _ _ _ => rfl) (fun _ _ => rfl)]
theorem evalUser_eq (s : StoreD) (d : List DirD) (u : Int) : specEvaluateForUser s d u = implEvaluateForUser s d u := by
  unfold specEvaluateForUser implEvaluateForUser
  rw [store_eq, visible_eq, evaluate_eq]
  have h : specl01In u 0 2 = implisUser u := rfl
  rw [h, Bool.or_comm]
theorem listDir_eq (s : StoreD) (d : List DirD) (u : Int) (n : ByteArray) : specListDir s d u n = implListDir s d u n := by
  unfold specListDir implListDir
  rw [evalUser_eq]
  rfl
theorem store12 {s : StoreD} (h : implIsValidStore s = true) : s.2.1.length ≤ 12 := by
  unfold implIsValidStore at h
  cases hf : forL (implIsValidStore_f0 s) implIsValidStore_e0 s.2.1 0 () with
  | brk t =>
    rw [hf] at h
    simp only [Out.on, Bool.and_eq_true, decide_eq_true_eq] at h
    omega
  | ret r =>
    rw [hf] at h
    obtain rfl : r = true := h
    exfalso
    have key : ∀ (l : List FileD) k, forL (implIsValidStore_f0 s) implIsValidStore_e0 l k () ≠ .ret true := by
      intro l
      induction l with
      | nil => intro k h; simp [forL] at h
      | cons a l ih =>
        intro k h
        simp only [forL] at h
        unfold implIsValidStore_f0 at h
        split at h
        · rename_i hf; exact ih _ h
        · cases h
        · rename_i r hf; cases h; revert hf; generalize (_ || _ : Bool) = c; cases c <;> simp
    exact key _ _ hf
theorem sel_id {fs : List FileD} {p : FileD → Bool} {x : Int} (h : x ∈ sel fs (fun f => f.1) p) : ∃ f, f ∈ fs ∧ f.1 = x := by
  obtain ⟨f, hf, e⟩ := List.mem_map.1 h
  exact ⟨f, (List.mem_filter.1 hf).1, e⟩
theorem store_ids {s : StoreD} (h : implIsValidStore s = true) {f : FileD} (hf : f ∈ s.2.1) : 1 ≤ f.1 ∧ f.1 ≤ 60 := by
  have hv : implIsValidFile s.1 f = true := by
    unfold implIsValidStore at h
    obtain ⟨i, hi⟩ := List.getElem?_of_mem hf
    cases hl : forL (implIsValidStore_f0 s) implIsValidStore_e0 s.2.1 0 () with
    | brk t =>
      have := forL_all (fun k a t => by unfold implIsValidStore_f0; generalize (_ || _ : Bool) = c; cases c <;> simp) hl i f hi
      unfold implIsValidStore_f0 at this
      cases hv : implIsValidFile s.1 f with
      | true => rfl
      | false => rw [hv] at this; simp at this
    | ret r =>
      rw [hl] at h
      obtain rfl : r = true := h
      exfalso
      have key : ∀ (l : List FileD) k, forL (implIsValidStore_f0 s) implIsValidStore_e0 l k () ≠ .ret true := by
        intro l
        induction l with
        | nil => intro k h; simp [forL] at h
        | cons a l ih =>
          intro k h
          simp only [forL] at h
          unfold implIsValidStore_f0 at h
          split at h
          · rename_i hf; exact ih _ h
          · cases h
          · rename_i r hf; cases h; revert hf; generalize (_ || _ : Bool) = c; cases c <;> simp
      exact key _ _ hl
  unfold implIsValidFile at hv
  cases hl : forL (implIsValidFile_f0 s.1 f) implIsValidFile_e0 f.2.2.2.2 0 () with
  | brk t =>
    rw [hl] at hv
    simp only [Out.on] at hv
    cases hw : implwithin f.1 1 60 with
    | true => exact within_iff.1 hw
    | false => rw [hw] at hv; simp at hv
  | ret r =>
    rw [hl] at hv
    obtain rfl : r = true := hv
    exfalso
    have key : ∀ (l : List AttrD) k, forL (implIsValidFile_f0 s.1 f) implIsValidFile_e0 l k () ≠ .ret true := by
      intro l
      induction l with
      | nil => intro k h; simp [forL] at h
      | cons a l ih =>
        intro k h
        simp only [forL] at h
        unfold implIsValidFile_f0 at h
        split at h
        · rename_i hf; exact ih _ h
        · cases h
        · rename_i r hf; cases h; revert hf; generalize (bif decide (((k : Nat) : Int) > (0 : Int)) then _ else _ : Bool) = c; cases c <;> simp
    exact key _ _ hl
theorem user_ok (s : StoreD) (d : List DirD) (u : Int) : ((implEvaluateForUser s d u)).1.length ≤ 5 ∧ ∀ x, x ∈ ((implEvaluateForUser s d u)).1 → x.2.length ≤ 12 ∧ ∀ n, n ∈ x.2 → 1 ≤ n ∧ n ≤ 60 := by
  unfold implEvaluateForUser
  cases hc : ((!(implIsValidStore s)) || (!(implisUser u))) with
  | true => exact ⟨Nat.zero_le _, fun x hx => by simp at hx⟩
  | false =>
    simp only [cond_false]
    cases he : (implEvaluate (implVisibleStore s u) d).2 with
    | false => rw [evaluate_no he]; exact ⟨Nat.zero_le _, fun x hx => by simp at hx⟩
    | true =>
      obtain ⟨h1, h2, h3, h4⟩ := evaluate_ok he
      have h5 := store12 h2
      have hlen := congrArg List.length h3
      rw [List.length_map, List.length_map] at hlen
      refine ⟨by omega, fun x hx => ?_⟩
      obtain ⟨p, hp⟩ := h4 x hx
      refine ⟨by rw [hp]; exact Nat.le_trans (sel_len _ _ _) h5, fun n hn => ?_⟩
      rw [hp] at hn
      obtain ⟨f, hf, rfl⟩ := sel_id hn
      exact store_ids h2 hf
theorem rids_mem (nm : ByteArray) : ∀ (o : List Qj) (k : Nat), forL (implResultIDs_f0 nm) implResultIDs_e0 o k () = .brk () ∨ ∃ x, x ∈ o ∧ forL (implResultIDs_f0 nm) implResultIDs_e0 o k () = .ret x.2
  | [], _ => .inl rfl
  | b :: o, k => by
    simp only [forL, implResultIDs_f0]
    cases (b.1.toList == nm.toList) with
    | true => exact .inr ⟨b, List.mem_cons_self .., rfl⟩
    | false =>
      simp only [cond_false]
      rcases rids_mem nm o (k + 1) with h | ⟨x, hx, h⟩
      · exact .inl h
      · exact .inr ⟨x, List.mem_cons_of_mem _ hx, h⟩
theorem listDir_short (s : StoreD) (d : List DirD) (u : Int) (n : ByteArray) : (implListDir s d u n).length ≤ 12 := by
  unfold implListDir implResultIDs
  rcases rids_mem n (implEvaluateForUser s d u).1 0 with h | ⟨x, hx, h⟩
  · rw [h]; exact Nat.zero_le _
  · rw [h]; exact ((user_ok s d u).2 x hx).1
theorem listDir_ids (s : StoreD) (d : List DirD) (u : Int) (n : ByteArray) : ∀ x, x ∈ implListDir s d u n → 1 ≤ x ∧ x ≤ 60 := by
  unfold implListDir implResultIDs
  rcases rids_mem n (implEvaluateForUser s d u).1 0 with h | ⟨x, hx, h⟩
  · rw [h]; intro x hx; simp [Out.on] at hx
  · rw [h]; exact ((user_ok s d u).2 x hx).2
end Go.Proofs.YtnhmnfmhnepjmaaGreatDoor
namespace Go.Proofs.YtnhmnfmhnepjmaaGreatDoor
open Go.RowKit
theorem fat_eq (s : StoreD) (n : Int) : specl05Place s n = implfileAt s n := rfl
theorem fat_go (n : Int) : ∀ (l : List FileD) (k : Nat), forL (specl05Place_f0 n) specl05Place_e0 l k () = .brk () ∨ ∃ i : Nat, i < l.length ∧ forL (specl05Place_f0 n) specl05Place_e0 l k () = .ret (((k + i : Nat)) : Int)
  | [], _ => .inl rfl
  | a :: l, k => by
    simp only [forL, specl05Place_f0]
    cases (a.1 == n) with
    | true => exact .inr ⟨0, by simp, rfl⟩
    | false =>
      simp only [cond_false]
      rcases fat_go n l (k + 1) with h | ⟨i, hi, h⟩
      · exact .inl h
      · exact .inr ⟨i + 1, by simpa using hi, by rw [h, show k + 1 + i = k + (i + 1) by omega]⟩
theorem fat_ltS (s : StoreD) (n : Int) : -1 ≤ specl05Place s n ∧ specl05Place s n < (List.length s.2.1 : Int) := by
  unfold specl05Place
  rcases fat_go n s.2.1 0 with h | ⟨i, hi, h⟩
  · rw [h]; simp only [Out.on]; omega
  · rw [h]; simp only [Out.on]; omega
theorem fat_lt (s : StoreD) (n : Int) : -1 ≤ implfileAt s n ∧ implfileAt s n < (List.length s.2.1 : Int) := fat_ltS s n
end Go.Proofs.YtnhmnfmhnepjmaaGreatDoor
namespace Go.Proofs.YtnhmnfmhnepjmaaGreatDoor
open Go.RowKit
open GoD (rd own)
def inR (n lo hi : Int) : Bool := decide (lo ≤ n) && decide (n ≤ hi)
theorem inR_true {n lo hi : Int} (h1 : lo ≤ n) (h2 : n ≤ hi) : inR n lo hi = true := by simp [inR, h1, h2]
end Go.Proofs.YtnhmnfmhnepjmaaGreatDoor
namespace Go.Proofs.YtnhmnfmhnepjmaaGreatDoor
open Go.RowKit
open GoD (rd own)
theorem below_gd (w : World) (k : Nat) (os : Array Obj) : Below w.heap.size w (Go.Sort.grow (w.drewN k) os) :=
  ⟨rfl, rfl, rfl, by rw [Go.Sort.size_grow]; exact Nat.le_add_right _ _, fun j hj => by
    unfold Go.Sort.grow
    rw [Array.getElem?_append, if_pos (by exact hj)]
    rfl⟩
theorem figure_c (w : World) (d : Nat) (hd : d < 10) : Calls Tryz.prog 95 #[.int .i64 d] w (Ret w (.int .u8 (48 + (d : Int)))) := by
  have h1 : (d : Int) < 10 := by omega
  have h2 : IntKind.i64.wrap (48 + (d : Int)) = 48 + (d : Int) := by rw [IntKind.wrap_i64]; omega
  go_enter Tryz.func95, Tryz.ntmps95
  go_wp2
  go_ret
  exact ⟨rfl, Below.refl _ _⟩
def tabOk (w : World) : Prop := Lib.TabIs Tryz.prog w "internal/strconv.uint64pow10" .u64 Lib.pow10Tab
theorem gTab : Tryz.prog.globalNamed "internal/strconv.uint64pow10" = some 0 := by kernel_rfl
theorem tabOk.keep {w w' : World} (h : tabOk w) (hb : Below w.heap.size w w') : tabOk w' := Go.Joins.tab_stays gTab h hb (Nat.le_refl _)
def numeral (n : Int) : ByteArray := ⟨(Lib.itoa n).toArray⟩
theorem implFormatInt_c (w : World) (n : Int) (hn : I64 n) (ht : tabOk w) : Calls Tryz.prog 81 #[.int .i64 n] w (Ret w (.string (numeral n))) := by
  have hcon := Sh.strconv_Itoa n hn.1 hn.2 w ht
  rw [show (⟨(Lib.itoa n).toArray⟩ : ByteArray) = numeral n from rfl] at hcon
  generalize numeral n = s at *
  clear ht hn
  go_enter Tryz.func81, Tryz.ntmps81
  go_wp2_with (go_at_call 109; refine hcon.mono ?_; rintro e w' ⟨rfl, k, os, rfl⟩; have hb := below_gd w k os; generalize Go.Sort.grow (w.drewN k) os = w9 at *)
  go_ret
  exact ⟨rfl, hb⟩
theorem dig_len : ∀ (u : Nat), u < 1000 → (Lib.decDigits u).length ≤ 3 := by
  intro u hu
  rw [Lib.decDigits]
  split
  · simp
  · rw [Lib.decDigits]
    split
    · simp
    · rw [Lib.decDigits]
      split
      · simp
      · omega
theorem numeral_size {n : Int} (h : inR n 0 999 = true) : (numeral n).size ≤ 20 := by
  unfold inR at h
  simp only [Bool.and_eq_true, decide_eq_true_eq] at h
  have h1 := dig_len n.toNat (by omega)
  unfold numeral Lib.itoa
  rw [if_neg (by omega)]
  show (Lib.decDigits n.toNat).toArray.size ≤ 20
  simp only [List.size_toArray]
  omega
theorem dig_step {n : Nat} (h : ¬ n < 10) : Lib.decDigits n = Lib.decDigits (n / 10) ++ [UInt8.ofNat (48 + n % 10)] := by rw [Lib.decDigits, dif_neg h]
theorem dig_small {n : Nat} (h : n < 10) : Lib.decDigits n = [UInt8.ofNat (48 + n)] := by rw [Lib.decDigits, dif_pos h]
def restDig (n : Nat) : List UInt8 := if n = 0 then [] else Lib.decDigits n
theorem rest_step {n : Nat} (h : n ≠ 0) (t : List UInt8) : restDig (n / 10) ++ (UInt8.ofNat (48 + n % 10) :: t) = restDig n ++ t := by
  unfold restDig
  rw [if_neg h]
  by_cases h10 : n < 10
  · rw [if_pos (by omega), dig_small h10, show n % 10 = n by omega]; rfl
  · rw [if_neg (by omega), dig_step h10]; simp
theorem one_byte (d : Nat) (hd : d < 10) (s : ByteArray) : (⟨#[UInt8.ofNat (48 + d)]⟩ : ByteArray) ++ s = ⟨(UInt8.ofNat (48 + d) :: s.data.toList).toArray⟩ := by
  apply ByteArray.ext
  rw [ByteArray.data_append]
  apply Array.toList_inj.1
  simp
set_option maxRecDepth 20000 in
theorem specFormatInt_c (w : World) (n : Int) (hn : I64 n) (hr : inR n 0 999 = true) : Calls Tryz.prog 65 #[.int .i64 n] w (Ret w (.string (numeral n))) := by
  unfold inR at hr
  simp only [Bool.and_eq_true, decide_eq_true_eq] at hr
  obtain ⟨m, rfl⟩ : ∃ m : Nat, n = m := ⟨n.toNat, by omega⟩
  have hm : m < 1000 := by omega
  clear hr hn
  have hnum : numeral (m : Int) = ⟨(Lib.decDigits m).toArray⟩ := by
    unfold numeral Lib.itoa
    rw [if_neg (by omega)]
    rfl
  generalize numeral (m : Int) = res at *
  have HRES := Lib.hid hnum; clear hnum
  by_cases h0 : m = 0
  · subst h0
    have hr : res = ⟨#[48]⟩ := by rw [HRES.out, dig_small (by omega)]; rfl
    subst hr
    clear HRES
    go_enter Tryz.func65, Tryz.ntmps65
    go_wp2
    go_ret
    exact ⟨rfl, Below.refl _ _⟩
  · have hm0 : ¬ ((m : Int) = 0) := by omega
    have hm1 : ¬ ((m : Int) < 0) := by omega
    go_enter Tryz.func65, Tryz.ntmps65
    go_wp2
    go_loopw [0, 4] (fun i s wr => ∃ (k : Nat) (t : ByteArray), k < 1000 ∧ i = .int .i64 k ∧ s = .string t ∧ t.size ≤ 1000 - k ∧ Below w.heap.size w wr ∧ Hid (restDig k ++ t.data.toList = Lib.decDigits m)) (fun i _ _ => (intOf i).toNat)
    case atStart => exact ⟨m, ⟨#[]⟩, hm, rfl, rfl, by simp [ByteArray.size], Below.refl _ _, Lib.hid (by unfold restDig; rw [if_neg h0]; simp)⟩
    case round =>
      obtain ⟨k, t, hk, rfl, rfl, hts, hB, hd⟩ := hrel
      by_cases hk0 : k = 0
      · subst hk0
        have hrt : res = t := by
          have h1 := hd.out
          unfold restDig at h1
          rw [if_pos rfl, List.nil_append] at h1
          rw [HRES.out, ← h1]
        subst hrt
        clear HRES hd
        go_wp2
        go_ret
        exact ⟨rfl, hB⟩
      · have hk1 : ¬ ((k : Int) = 0) := by omega
        have hd10 : k % 10 < 10 := Nat.mod_lt _ (by decide)
        have hd0 : ¬ ((k : Int) % 10 < 0) := by omega
        have hcv : ∀ g : World, (convert 95 9 (.slice (some ⟨g.heap.size, 0, none⟩) 1 1)).run Tryz.prog (g.alloc (.cells #[.int .u8 (48 + (k : Int) % 10)] 5)) = .ok (.string ⟨#[UInt8.ofNat (48 + k % 10)]⟩) (g.alloc (.cells #[.int .u8 (48 + (k : Int) % 10)] 5)) := fun g => by
          have h := Lib.run_convert_whole (P := Tryz.prog) (g.alloc (.cells #[.int .u8 (48 + (k : Int) % 10)] 5)) 95 5 9 Tryz.underlying95 Tryz.underlying5 Tryz.underlying9 g.heap.size 0 ⟨#[UInt8.ofNat (48 + k % 10)]⟩ (fun i hi => by
            have hi0 : i = 0 := by have : i < 1 := hi; omega
            subst hi0
            have he : (48 + (k : Int) % 10) = ((UInt8.ofNat (48 + k % 10)).toNat : Int) := by rw [UInt8.toNat_ofNat']; omega
            show (g.alloc _).cell? ⟨g.heap.size, 0 + 0, none⟩ = some (.int .u8 ((UInt8.ofNat (48 + k % 10)).toNat : Int))
            rw [← he]
            simp [go_sem]) 1
          exact h
        go_wp2_with (go_at_call 95; have hfg := (fun w1 => figure_c w1 (k % 10) hd10); rw [show (((k % 10 : Nat)) : Int) = (k : Int) % 10 by omega] at hfg; refine call_ret (w := w) (hfg _) (by go_grown) ?_; clear hfg; intro g1 hG1 hb hz1 hz2; clear hb)
        go_roundw
        case rel => exact ⟨k / 10, ⟨#[UInt8.ofNat (48 + k % 10)]⟩ ++ t, by omega, by first | rfl | go_num, by rw [UInt8.ofNat_add]; rfl, by rw [ByteArray.size_append]; have : (⟨#[UInt8.ofNat (48 + k % 10)]⟩ : ByteArray).size = 1 := rfl; omega, by go_grown, Lib.hid (by rw [one_byte _ hd10]; show restDig (k / 10) ++ (UInt8.ofNat (48 + k % 10) :: t.data.toList) = _; rw [rest_step hk0]; exact hd.out)⟩
        case measure => simp [intOf]; omega
section
variable {P : Program}
theorem acalls_int_str {f : Nat} (hok : FnOk P f) {n : Int} {s : ByteArray} (hs : s.size ≤ maxLen) (h : ∀ w, Good P w → I64 n → Calls P f #[.int .i64 n] w (Ret w (.string s))) : ACalls P f [.i n] (.s s) := by
  refine ⟨hok, fun w hg F vals hF hall => ?_⟩
  cases hall with
  | cons h1 h2 =>
    cases h2
    obtain ⟨rfl, hi⟩ := h1
    refine (h w hg ((inR_i64 n).1 hi)).mono ?_
    rintro e w' ⟨rfl, hb⟩
    exact ⟨_, fun _ => [], rfl, hb, fun _ => List.nodup_nil, fun k b hm => by simp at hm, fun k k' b hm => by simp at hm, rfl, hs⟩
end
theorem numeral_le {n : Int} (h : 0 ≤ n ∧ n ≤ 999) : (numeral n).size ≤ 20 := numeral_size (inR_true h.1 h.2)
theorem implFormatInt_a (n : Int) (h : 0 ≤ n ∧ n ≤ 999) : ACalls Tryz.prog 81 [.i n] (.s (numeral n)) := acalls_int_str (by unfold FnOk; kernel_rfl) (by have := numeral_le h; unfold maxLen; omega) fun w hg hn => implFormatInt_c w n hn (hg.tab _ gTab)
theorem specFormatInt_a (n : Int) (h : 0 ≤ n ∧ n ≤ 999) : ACalls Tryz.prog 65 [.i n] (.s (numeral n)) := acalls_int_str (by unfold FnOk; kernel_rfl) (by have := numeral_le h; unfold maxLen; omega) fun w _ hn => specFormatInt_c w n hn (inR_true h.1 h.2)
open GoE (enc wide)
def implFindFile (s_ : StoreD) (id : Int) : FileD × Bool := (bif decide ((implfileAt s_ id) ≥ (0 : Int)) then ((implcopyFile (nth s_.2.1 (Int.toNat (implfileAt s_ id)))), true) else ((0, 0, false, 0, []), false))
theorem implFindFile_a (s_ : StoreD) (id : Int) : ACalls Tryz.prog 78 [.a [.h s_.1, .h s_.2.1, .i s_.2.2], .i id] (.tup [(true, [.i ((((implFindFile s_ id)).1).1), .i ((((implFindFile s_ id)).1).2.1), .b ((((implFindFile s_ id)).1).2.2.1), .i ((((implFindFile s_ id)).1).2.2.2.1), .o 0 ((((implFindFile s_ id)).1).2.2.2.2)]), (false, [.b (((implFindFile s_ id)).2)])]) := by
 refine acalls_of (tt := tt) Qb Tryz.func78 (fn := Tryz.f78) rfl (by unfold FnOk; kernel_rfl) (Nat.le_of_ble_eq_true rfl) fun w0 F0 hG => ?_
 refine Qa ?_
 refine rk Qb [(2, .p 2 0), (4, .p 4 0), (5, .b false)] [0] [(2, [.h s_.1, .h s_.2.1, .i s_.2.2]), (4, [.i 0, .i 0, .b false, .i 0, .e 4])] [] [] (o0) ?_
 refine Qa ?_
 refine Qa ?_
 refine rk Qb [(6, .i (implfileAt s_ id))] [1] [] [] [(2, .val (.i (implfileAt s_ id)))] (o1 (Qd (implfileAt_a s_ id))) ?_
 refine Qa ?_
 refine rk Qb [(11, .b (decide ((implfileAt s_ id) ≥ (0 : Int))))] [] [] [] [] (o0) ?_
 refine ck (decide ((implfileAt s_ id) ≥ (0 : Int))) (fun h1 => ?_) (fun h1 => ?_)
 ·
  have h1p := fat_lt s_ id
  have h1d := of_decide_eq_true h1
  refine Qa ?_
  refine wdB 2 1 .sh s_.2.1 (fun hw3 => ?_)
  have hl4 : List.length s_.2.1 ≤ 1073741824 := wide_len (hw3)
  have hx2 : s_.2.1[(Int.toNat (implfileAt s_ id))]? = some (nth s_.2.1 (Int.toNat (implfileAt s_ id))) := nth_get (by omega)
  refine rk Qb [(5, .b true)] [2, 5, 6, 11] [(4, [.i ((implcopyFile (nth s_.2.1 (Int.toNat (implfileAt s_ id)))).1), .i ((implcopyFile (nth s_.2.1 (Int.toNat (implfileAt s_ id)))).2.1), .b ((implcopyFile (nth s_.2.1 (Int.toNat (implfileAt s_ id)))).2.2.1), .i ((implcopyFile (nth s_.2.1 (Int.toNat (implfileAt s_ id)))).2.2.2.1), .o 1088 ((implcopyFile (nth s_.2.1 (Int.toNat (implfileAt s_ id)))).2.2.2.2)])] [2, 4] [(3, .row [.i ((nth s_.2.1 (Int.toNat (implfileAt s_ id))).1), .i ((nth s_.2.1 (Int.toNat (implfileAt s_ id))).2.1), .b ((nth s_.2.1 (Int.toNat (implfileAt s_ id))).2.2.1), .i ((nth s_.2.1 (Int.toNat (implfileAt s_ id))).2.2.2.1), .h ((nth s_.2.1 (Int.toNat (implfileAt s_ id))).2.2.2.2)]), (5, .val (.a [.i ((implcopyFile (nth s_.2.1 (Int.toNat (implfileAt s_ id)))).1), .i ((implcopyFile (nth s_.2.1 (Int.toNat (implfileAt s_ id)))).2.1), .b ((implcopyFile (nth s_.2.1 (Int.toNat (implfileAt s_ id)))).2.2.1), .i ((implcopyFile (nth s_.2.1 (Int.toNat (implfileAt s_ id)))).2.2.2.1), .o 0 ((implcopyFile (nth s_.2.1 (Int.toNat (implfileAt s_ id)))).2.2.2.2)]))] (o2 (ob_elem (el_of (i := (implfileAt s_ id)) (by omega) rfl hx2)) (o1 (Qd (implcopyFile_a (nth s_.2.1 (Int.toNat (implfileAt s_ id))))))) ?_
  refine Qh ?_
  exact pret [] (congrArg (fun z => (.tup [(true, [.i z.1.1, .i z.1.2.1, .b z.1.2.2.1, .i z.1.2.2.2.1, .o 0 z.1.2.2.2.2]), (false, [.b z.2])] : AV)) (show implFindFile s_ id = ((implcopyFile (nth s_.2.1 (Int.toNat (implfileAt s_ id)))), true) from bif_t h1 (rfl)).symm)
 ·
  refine Qg ?_
  refine Qa ?_
  refine rk Qb [] [2, 6, 11] [] [2] [] (o0) ?_
  refine opn [(true, 4, 4, true, 384000, 4)] ?_
  refine Qh ?_
  exact pret [] (congrArg (fun z => (.tup [(true, [.i z.1.1, .i z.1.2.1, .b z.1.2.2.1, .i z.1.2.2.2.1, .o 0 z.1.2.2.2.2]), (false, [.b z.2])] : AV)) (show implFindFile s_ id = ((0, 0, false, 0, []), false) from bif_f h1 (rfl)).symm)
def implBaseName (f : FileD) : ByteArray := (bif ((implGetAttr f ⟨#[110]⟩).1 == (2 : Int)) then (implGetAttr f ⟨#[110]⟩).2.2 else ⟨#[102, 105, 108, 101]⟩)
theorem implBaseName_a (f : FileD) : ACalls Tryz.prog 79 [.a [.i f.1, .i f.2.1, .b f.2.2.1, .i f.2.2.2.1, .h f.2.2.2.2]] (.s (implBaseName f)) := by
 refine acalls_of (tt := tt) Qb Tryz.func79 (fn := Tryz.f79) rfl (by unfold FnOk; kernel_rfl) (Nat.le_of_ble_eq_true rfl) fun w0 F0 hG => ?_
 refine Qa ?_
 refine rk Qb [(1, .p 1 0), (2, .s ⟨#[]⟩)] [0] [(1, [.i f.1, .i f.2.1, .b f.2.2.1, .i f.2.2.2.1, .h f.2.2.2.2])] [] [] (o0) ?_
 refine Qa ?_
 refine Qa ?_
 refine rk Qb [(3, .p 3 0)] [1] [(3, [.i ((implGetAttr f ⟨#[110]⟩).1), .i ((implGetAttr f ⟨#[110]⟩).2.1), .s ((implGetAttr f ⟨#[110]⟩).2.2)])] [1] [(1, .val (.a [.i ((implGetAttr f ⟨#[110]⟩).1), .i ((implGetAttr f ⟨#[110]⟩).2.1), .s ((implGetAttr f ⟨#[110]⟩).2.2)]))] (o1 (Qd (implGetAttr_a f ⟨#[110]⟩))) ?_
 refine Qa ?_
 refine rk Qb [(8, .b ((implGetAttr f ⟨#[110]⟩).1 == (2 : Int)))] [] [] [] [] (o0) ?_
 refine ck ((implGetAttr f ⟨#[110]⟩).1 == (2 : Int)) (fun h1 => ?_) (fun h1 => ?_)
 ·
  refine Qa ?_
  refine rk Qb [(2, .s ((implGetAttr f ⟨#[110]⟩).2.2))] [2, 3, 8] [] [3] [] (o0) ?_
  refine Qh ?_
  exact pret [] (congrArg (fun z => (.s z : AV)) (show implBaseName f = (implGetAttr f ⟨#[110]⟩).2.2 from bif_t h1 (rfl)).symm)
 ·
  refine Qg ?_
  refine Qa ?_
  refine rk Qb [(2, .s ⟨#[102, 105, 108, 101]⟩)] [2, 3, 8] [] [3] [] (o0) ?_
  refine Qh ?_
  exact pret [] (congrArg (fun z => (.s z : AV)) (show implBaseName f = ⟨#[102, 105, 108, 101]⟩ from bif_f h1 (rfl)).symm)
def specFindFile (s_ : StoreD) (id : Int) : FileD × Bool := (bif decide ((specl05Place s_ id) < (0 : Int)) then ((0, 0, false, 0, []), false) else ((specl04Copy (nth s_.2.1 (Int.toNat (specl05Place s_ id)))), true))
theorem specFindFile_a (s_ : StoreD) (id : Int) : ACalls Tryz.prog 93 [.a [.h s_.1, .h s_.2.1, .i s_.2.2], .i id] (.tup [(true, [.i ((((specFindFile s_ id)).1).1), .i ((((specFindFile s_ id)).1).2.1), .b ((((specFindFile s_ id)).1).2.2.1), .i ((((specFindFile s_ id)).1).2.2.2.1), .o 0 ((((specFindFile s_ id)).1).2.2.2.2)]), (false, [.b (((specFindFile s_ id)).2)])]) := by
 refine acalls_of (tt := tt) Qb Tryz.func93 (fn := Tryz.f93) rfl (by unfold FnOk; kernel_rfl) (Nat.le_of_ble_eq_true rfl) fun w0 F0 hG => ?_
 refine Qa ?_
 refine rk Qb [(2, .p 2 0), (4, .p 4 0), (5, .b false)] [0] [(2, [.h s_.1, .h s_.2.1, .i s_.2.2]), (4, [.i 0, .i 0, .b false, .i 0, .e 4])] [] [] (o0) ?_
 refine Qa ?_
 refine rk Qb [(6, .i (specl05Place s_ id))] [1] [] [] [(2, .val (.i (specl05Place s_ id)))] (o1 (Qd (specl05Place_a s_ id))) ?_
 refine Qa ?_
 refine Qa ?_
 refine rk Qb [(11, .b (decide ((specl05Place s_ id) < (0 : Int))))] [] [] [] [] (o0) ?_
 refine ck (decide ((specl05Place s_ id) < (0 : Int))) (fun h1 => ?_) (fun h1 => ?_)
 ·
  refine Qa ?_
  refine rk Qb [] [11] [] [] [] (o0) ?_
  refine opn [(true, 4, 4, true, 384000, 4)] ?_
  refine Qh ?_
  exact pret [] (congrArg (fun z => (.tup [(true, [.i z.1.1, .i z.1.2.1, .b z.1.2.2.1, .i z.1.2.2.2.1, .o 0 z.1.2.2.2.2]), (false, [.b z.2])] : AV)) (show specFindFile s_ id = ((0, 0, false, 0, []), false) from bif_t h1 (rfl)).symm)
 ·
  have h1p := fat_ltS s_ id
  have h1d := of_decide_eq_false h1
  refine Qg ?_
  refine Qa ?_
  refine wdB 2 1 .sh s_.2.1 (fun hw3 => ?_)
  have hl4 : List.length s_.2.1 ≤ 1073741824 := wide_len (hw3)
  have hx2 : s_.2.1[(Int.toNat (specl05Place s_ id))]? = some (nth s_.2.1 (Int.toNat (specl05Place s_ id))) := nth_get (by omega)
  refine rk Qb [(5, .b true)] [2, 5, 6, 11] [(4, [.i ((specl04Copy (nth s_.2.1 (Int.toNat (specl05Place s_ id)))).1), .i ((specl04Copy (nth s_.2.1 (Int.toNat (specl05Place s_ id)))).2.1), .b ((specl04Copy (nth s_.2.1 (Int.toNat (specl05Place s_ id)))).2.2.1), .i ((specl04Copy (nth s_.2.1 (Int.toNat (specl05Place s_ id)))).2.2.2.1), .o 1152 ((specl04Copy (nth s_.2.1 (Int.toNat (specl05Place s_ id)))).2.2.2.2)])] [2, 4] [(3, .row [.i ((nth s_.2.1 (Int.toNat (specl05Place s_ id))).1), .i ((nth s_.2.1 (Int.toNat (specl05Place s_ id))).2.1), .b ((nth s_.2.1 (Int.toNat (specl05Place s_ id))).2.2.1), .i ((nth s_.2.1 (Int.toNat (specl05Place s_ id))).2.2.2.1), .h ((nth s_.2.1 (Int.toNat (specl05Place s_ id))).2.2.2.2)]), (5, .val (.a [.i ((specl04Copy (nth s_.2.1 (Int.toNat (specl05Place s_ id)))).1), .i ((specl04Copy (nth s_.2.1 (Int.toNat (specl05Place s_ id)))).2.1), .b ((specl04Copy (nth s_.2.1 (Int.toNat (specl05Place s_ id)))).2.2.1), .i ((specl04Copy (nth s_.2.1 (Int.toNat (specl05Place s_ id)))).2.2.2.1), .o 0 ((specl04Copy (nth s_.2.1 (Int.toNat (specl05Place s_ id)))).2.2.2.2)]))] (o2 (ob_elem (el_of (i := (specl05Place s_ id)) (by omega) rfl hx2)) (o1 (Qd (specl04Copy_a (nth s_.2.1 (Int.toNat (specl05Place s_ id))))))) ?_
  refine Qh ?_
  exact pret [] (congrArg (fun z => (.tup [(true, [.i z.1.1, .i z.1.2.1, .b z.1.2.2.1, .i z.1.2.2.2.1, .o 0 z.1.2.2.2.2]), (false, [.b z.2])] : AV)) (show specFindFile s_ id = ((specl04Copy (nth s_.2.1 (Int.toNat (specl05Place s_ id)))), true) from bif_f h1 (rfl)).symm)
def specBaseName (f : FileD) : ByteArray := (bif ((specGetAttr f ⟨#[110]⟩).1 != (2 : Int)) then ⟨#[102, 105, 108, 101]⟩ else (specGetAttr f ⟨#[110]⟩).2.2)
theorem specBaseName_a (f : FileD) : ACalls Tryz.prog 94 [.a [.i f.1, .i f.2.1, .b f.2.2.1, .i f.2.2.2.1, .h f.2.2.2.2]] (.s (specBaseName f)) := by
 refine acalls_of (tt := tt) Qb Tryz.func94 (fn := Tryz.f94) rfl (by unfold FnOk; kernel_rfl) (Nat.le_of_ble_eq_true rfl) fun w0 F0 hG => ?_
 refine Qa ?_
 refine rk Qb [(1, .p 1 0), (2, .s ⟨#[]⟩)] [0] [(1, [.i f.1, .i f.2.1, .b f.2.2.1, .i f.2.2.2.1, .h f.2.2.2.2])] [] [] (o0) ?_
 refine Qa ?_
 refine rk Qb [(3, .p 3 0)] [1] [(3, [.i ((specGetAttr f ⟨#[110]⟩).1), .i ((specGetAttr f ⟨#[110]⟩).2.1), .s ((specGetAttr f ⟨#[110]⟩).2.2)])] [1] [(1, .val (.a [.i ((specGetAttr f ⟨#[110]⟩).1), .i ((specGetAttr f ⟨#[110]⟩).2.1), .s ((specGetAttr f ⟨#[110]⟩).2.2)]))] (o1 (Qd (specGetAttr_a f ⟨#[110]⟩))) ?_
 refine Qa ?_
 refine Qa ?_
 refine rk Qb [(8, .b ((specGetAttr f ⟨#[110]⟩).1 != (2 : Int)))] [] [] [] [] (o0) ?_
 refine ck ((specGetAttr f ⟨#[110]⟩).1 != (2 : Int)) (fun h1 => ?_) (fun h1 => ?_)
 ·
  refine Qa ?_
  refine rk Qb [(2, .s ⟨#[102, 105, 108, 101]⟩)] [2, 8] [] [] [] (o0) ?_
  refine Qh ?_
  exact pret [] (congrArg (fun z => (.s z : AV)) (show specBaseName f = ⟨#[102, 105, 108, 101]⟩ from bif_t h1 (rfl)).symm)
 ·
  refine Qg ?_
  refine Qa ?_
  refine rk Qb [(2, .s ((specGetAttr f ⟨#[110]⟩).2.2))] [2, 3, 8] [] [3] [] (o0) ?_
  refine Qh ?_
  exact pret [] (congrArg (fun z => (.s z : AV)) (show specBaseName f = (specGetAttr f ⟨#[110]⟩).2.2 from bif_f h1 (rfl)).symm)
def specl20Base (s_ : StoreD) (id : Int) : ByteArray := (specBaseName (((specFindFile s_ id)).1))
theorem specl20Base_a (s_ : StoreD) (id : Int) : ACalls Tryz.prog 64 [.a [.h s_.1, .h s_.2.1, .i s_.2.2], .i id] (.s (specl20Base s_ id)) := by
 refine acalls_of (tt := tt) Qb Tryz.func64 (fn := Tryz.f64) rfl (by unfold FnOk; kernel_rfl) (Nat.le_of_ble_eq_true rfl) fun w0 F0 hG => ?_
 refine Qa ?_
 refine rk Qb [(2, .p 2 0), (4, .s ⟨#[]⟩)] [0] [(2, [.h s_.1, .h s_.2.1, .i s_.2.2])] [] [] (o0) ?_
 refine Qa ?_
 refine rk Qb [(5, .p 5 0)] [1, 2] [(5, [.i ((((specFindFile s_ id)).1).1), .i ((((specFindFile s_ id)).1).2.1), .b ((((specFindFile s_ id)).1).2.2.1), .i ((((specFindFile s_ id)).1).2.2.2.1), .o 640 ((((specFindFile s_ id)).1).2.2.2.2)])] [2] [(2, .val (.tup [(true, [.i ((((specFindFile s_ id)).1).1), .i ((((specFindFile s_ id)).1).2.1), .b ((((specFindFile s_ id)).1).2.2.1), .i ((((specFindFile s_ id)).1).2.2.2.1), .o 0 ((((specFindFile s_ id)).1).2.2.2.2)]), (false, [.b (((specFindFile s_ id)).2)])]))] (o1 (Qd (specFindFile_a s_ id))) ?_
 refine Qa ?_
 refine rk Qb [(4, .s (specBaseName (((specFindFile s_ id)).1)))] [4, 5] [] [5] [(1, .val (.s (specBaseName (((specFindFile s_ id)).1))))] (o1 (Qd (specBaseName_a (((specFindFile s_ id)).1)))) ?_
 refine Qh ?_
 exact pret [] (congrArg (fun z => (.s z : AV)) (show specl20Base s_ id = (specBaseName (((specFindFile s_ id)).1)) from rfl).symm)
end Go.Proofs.YtnhmnfmhnepjmaaGreatDoor
namespace Go.Proofs.YtnhmnfmhnepjmaaGreatDoor
open Go.RowKit
theorem findFile_eq (s : StoreD) (n : Int) : specFindFile s n = implFindFile s n := by
  unfold specFindFile implFindFile
  rw [fat_eq]
  by_cases h : implfileAt s n ≥ 0
  · rw [decide_eq_true h, decide_eq_false (by omega)]; rfl
  · rw [decide_eq_false h, decide_eq_true (by omega)]; rfl
theorem baseName_eq (f : FileD) : specBaseName f = implBaseName f := by
  unfold specBaseName implBaseName
  rw [← attr_eq]
  cases h : ((implGetAttr f ⟨#[110]⟩).1 == (2 : Int)) with
  | true => simp [bne, h]
  | false => simp [bne, h]
theorem base_eq (s : StoreD) (n : Int) : specl20Base s n = implBaseName ((implFindFile s n)).1 := by
  unfold specl20Base
  rw [findFile_eq, baseName_eq]
theorem attr_size (nm : ByteArray) : ∀ (l : List AttrD) (k : Nat), forL (implGetAttr_f0 nm) implGetAttr_e0 l k () = .brk () ∨ ∃ a, a ∈ l ∧ forL (implGetAttr_f0 nm) implGetAttr_e0 l k () = .ret a.2
  | [], _ => .inl rfl
  | b :: l, k => by
    simp only [forL, implGetAttr_f0]
    cases (b.1.toList == nm.toList) with
    | true => exact .inr ⟨b, List.mem_cons_self .., rfl⟩
    | false =>
      simp only [cond_false]
      rcases attr_size nm l (k + 1) with h | ⟨a, ha, h⟩
      · exact .inl h
      · exact .inr ⟨a, List.mem_cons_of_mem _ ha, h⟩
theorem size_mem {α : Type} [GoD α] {l : List α} {a : α} (h : a ∈ l) : GoD.size a ≤ GoD.size l := by
  obtain ⟨i, hi⟩ := List.getElem?_of_mem h
  exact sz_get hi (Nat.le_refl _)
theorem baseName_size (f : FileD) : (implBaseName f).size ≤ GoD.size f + 4 := by
  unfold implBaseName
  cases h : ((implGetAttr f ⟨#[110]⟩).1 == (2 : Int)) with
  | false => exact Nat.le_add_left 4 (GoD.size f)
  | true =>
    simp only [cond_true]
    unfold implGetAttr
    rcases attr_size ⟨#[110]⟩ f.2.2.2.2 0 with h | ⟨a, ha, h⟩
    · rw [h]; exact Nat.zero_le _
    · rw [h]
      simp only [Out.on]
      have h1 := size_mem ha
      have h2 : GoD.size a = a.1.size + (0 + (0 + a.2.2.2.size)) := rfl
      have h3 : GoD.size f = 0 + (0 + (0 + (0 + GoD.size f.2.2.2.2))) := rfl
      omega
theorem base_size (s : StoreD) (n : Int) : (implBaseName ((implFindFile s n)).1).size ≤ GoD.size s + 4 := by
  have h1 := baseName_size ((implFindFile s n)).1
  have h2 : GoD.size ((implFindFile s n)).1 ≤ GoD.size s := by
    unfold implFindFile
    by_cases h : implfileAt s n ≥ 0
    · rw [decide_eq_true h]
      have hp := fat_lt s n
      have hg := sz_get (nth_get (l := s.2.1) (i := Int.toNat (implfileAt s n)) (by omega)) (Nat.le_refl _)
      exact Nat.le_trans hg (sz_fst (sz_snd (Nat.le_refl _)))
    · rw [decide_eq_false h]; exact Nat.zero_le _
  omega
theorem base_sizeS (s : StoreD) (n : Int) : (specl20Base s n).size ≤ GoD.size s + 4 := by rw [base_eq]; exact base_size s n
open GoE (enc wide)
def implEntryNames_f0 (s_ : StoreD) (_ : Nat) (a0 : Int) (s0 : (List ByteArray) × (List ByteArray)) : Rd ((List ByteArray)) ((List ByteArray) × (List ByteArray)) ((List ByteArray)) := (bif (slicesContains_string s0.1 (implBaseName (((implFindFile s_ a0)).1))) then (.next (s0.1 ++ [(implBaseName (((implFindFile s_ a0)).1))], s0.2 ++ [(((implBaseName (((implFindFile s_ a0)).1)) ++ (⟨#[46]⟩ : ByteArray)) ++ (numeral a0))])) else (.next (s0.1 ++ [(implBaseName (((implFindFile s_ a0)).1))], s0.2 ++ [(implBaseName (((implFindFile s_ a0)).1))])))
def implEntryNames_e0 (_ : Nat) (s0 : (List ByteArray) × (List ByteArray)) : (List ByteArray) := s0.2
def implEntryNames (s_ : StoreD) (ids : (List Int)) : (List ByteArray) := (Out.on (forL (implEntryNames_f0 s_) implEntryNames_e0 ids 0 ([], [])) (fun y0 => y0))
theorem implEntryNames_a (s_ : StoreD) (ids : (List Int)) (hi : ∀ x, x ∈ ids → 1 ≤ x ∧ x ≤ 60) (hp : GoD.size s_ ≤ 536870912) : ACalls Tryz.prog 50 [.a [.h s_.1, .h s_.2.1, .i s_.2.2], .h ids] (.o 0 (implEntryNames s_ ids)) := by
 refine acalls_of (tt := tt) Qb Tryz.func50 (fn := Tryz.f50) rfl (by unfold FnOk; kernel_rfl) (Nat.le_of_ble_eq_true rfl) fun w0 F0 hG => ?_
 refine Qa ?_
 refine rk Qb [(2, .p 2 0), (4, .e 0)] [0] [(2, [.h s_.1, .h s_.2.1, .i s_.2.2])] [] [] (o0) ?_
 refine Qa ?_
 refine rk Qb [(5, .one (.slc (.own true 768) 1 []))] [] [] [] [] (o0) ?_
 refine Qa ?_
 refine rk Qb [(6, .one (.slc (.own true 832) 1 []))] [] [] [] [] (o0) ?_
 refine Qa ?_
 refine Qa ?_
 refine rk Qb [(14, .h ids), (15, .i (ids.length : Int)), (16, .i 0)] [1] [] [] [(1, .val (.i (ids.length : Int)))] (o1 (Qf (av_len ids))) ?_
 refine wdT 14 0 .sh ids (fun hw1 => ?_)
 have hl2 : List.length ids ≤ 1073741824 := wide_len (hw1)
 refine blk (fun (k0 : Nat) (s0 : (List ByteArray) × (List ByteArray)) => [(5, .o 147202 s0.1), (6, .o 147203 s0.2), (16, .i ((k0 : Nat) : Int))]) [5, 6, 16] (fun k0 s0 => []) [] (fun (y0 : (List ByteArray)) => [(6, .o 147353 y0)]) [2, 5, 6, 14, 15, 16] (fun y0 => []) [2] (fun (k0 : Nat) (s0 : (List ByteArray) × (List ByteArray)) => (forL (implEntryNames_f0 s_) implEntryNames_e0 ids 0 ([], [])) = forL (implEntryNames_f0 s_) implEntryNames_e0 (List.drop k0 ids) k0 s0 ∧ List.length s0.1 ≤ k0 ∧ List.length s0.2 ≤ k0) (fun (y0 : (List ByteArray)) => (forL (implEntryNames_f0 s_) implEntryNames_e0 ids 0 ([], [])) = .brk y0) ids.length ([], []) (weak_sf [(768, 147202), (832, 147203)] (by kernel_rfl)) ⟨rfl, (by simp), (by simp)⟩ (fun k0 s0 hk0 hI0 => ?_) (fun k0 s0 hk0 hI0 => ?_) (fun y0 hD0 => ?_)
 ·
  have hA0_0 := hI0.2.1
  have hA0_1 := hI0.2.2
  obtain ⟨a0, hx0⟩ := get_some (l := ids) (i := k0) hk0
  have hi0 := hi _ (List.mem_of_getElem? hx0)
  have hbs := base_size s_ a0
  have hns := numeral_le (n := a0) (by omega)
  refine Qa ?_
  refine rk Qb [(17, .b true)] [] [] [] [(0, .val (.b true))] (o1 (Qf (Qe (decide_eq_true (p := ((k0 : Nat) : Int) < (ids.length : Int)) (by omega))))) ?_
  refine Qa ?_
  refine ckT ?_
  refine Qg ?_
  refine Qa ?_
  refine awp_block ?_
  refine Qa ?_
  refine rk Qb [(8, .i a0)] [17] [] [] [(0, .row [.i a0])] (o1 (ob_elem (el_of (i := ((k0 : Nat) : Int)) (by omega) rfl hx0))) ?_
  refine Qa ?_
  refine rk Qb [(9, .p 9 0)] [] [(9, [.i ((((implFindFile s_ a0)).1).1), .i ((((implFindFile s_ a0)).1).2.1), .b ((((implFindFile s_ a0)).1).2.2.1), .i ((((implFindFile s_ a0)).1).2.2.2.1), .o 1472 ((((implFindFile s_ a0)).1).2.2.2.2)])] [] [(2, .val (.tup [(true, [.i ((((implFindFile s_ a0)).1).1), .i ((((implFindFile s_ a0)).1).2.1), .b ((((implFindFile s_ a0)).1).2.2.1), .i ((((implFindFile s_ a0)).1).2.2.2.1), .o 0 ((((implFindFile s_ a0)).1).2.2.2.2)]), (false, [.b (((implFindFile s_ a0)).2)])]))] (o1 (Qd (implFindFile_a s_ a0))) ?_
  refine Qa ?_
  refine rk Qb [(11, .s (implBaseName (((implFindFile s_ a0)).1)))] [9] [] [9] [(1, .val (.s (implBaseName (((implFindFile s_ a0)).1))))] (o1 (Qd (implBaseName_a (((implFindFile s_ a0)).1)))) ?_
  refine Qa ?_
  refine Qa ?_
  refine rk Qb [(30, .b (slicesContains_string s0.1 (implBaseName (((implFindFile s_ a0)).1))))] [] [] [] [(2, .val (.b (slicesContains_string s0.1 (implBaseName (((implFindFile s_ a0)).1)))))] (o1 (Qd (slicesContains_string_a s0.1 (implBaseName (((implFindFile s_ a0)).1))))) ?_
  refine ck (slicesContains_string s0.1 (implBaseName (((implFindFile s_ a0)).1))) (fun h3 => ?_) (fun h3 => ?_)
  ·
   refine wdT 6 0 (.own true 147203) s0.2 (fun hw4 => ?_)
   have hl5 : List.length s0.2 ≤ 1073741824 := wide_len (hw4)
   refine rk Qb [(6, .one (.slc (.own true 2432) 1 ((eL s0.2) ++ [[.s (((implBaseName (((implFindFile s_ a0)).1)) ++ (⟨#[46]⟩ : ByteArray)) ++ (numeral a0))]])))] [6, 8, 30] [] [] [(4, .val (.s (numeral a0)))] (o2 (ob_slen (n := (ByteArray.size (implBaseName (((implFindFile s_ a0)).1)) + ByteArray.size (⟨#[46]⟩ : ByteArray))) (by have hq0 : ByteArray.size (⟨#[46]⟩ : ByteArray) = 1 := rfl; unfold maxLen; first | omega | (simp only [ByteArray.size_append]; omega))) (o2 (Qd (implFormatInt_a a0 (by omega))) (o2 (ob_slen (n := (ByteArray.size ((implBaseName (((implFindFile s_ a0)).1)) ++ (⟨#[46]⟩ : ByteArray)) + ByteArray.size (numeral a0))) (by have hq0 : ByteArray.size (⟨#[46]⟩ : ByteArray) = 1 := rfl; unfold maxLen; first | omega | (simp only [ByteArray.size_append]; omega))) (o1 (ob_len (len_of (eL_length s0.2) (eL_length [(((implBaseName (((implFindFile s_ a0)).1)) ++ (⟨#[46]⟩ : ByteArray)) ++ (numeral a0))]) (by first | omega | (simp; omega) | simp))))))) ?_
   refine eqn [(6, .o 2432 (s0.2 ++ [(((implBaseName (((implFindFile s_ a0)).1)) ++ (⟨#[46]⟩ : ByteArray)) ++ (numeral a0))]))] [6] [] [] (by rw [show ((eL s0.2) ++ [[.s (((implBaseName (((implFindFile s_ a0)).1)) ++ (⟨#[46]⟩ : ByteArray)) ++ (numeral a0))]]) = (eL (s0.2 ++ [(((implBaseName (((implFindFile s_ a0)).1)) ++ (⟨#[46]⟩ : ByteArray)) ++ (numeral a0))])) from app_eL (rfl) (rfl)]; first | done | kernel_rfl) ?_
   refine wdT 5 0 (.own true 147202) s0.1 (fun hw6 => ?_)
   have hl7 : List.length s0.1 ≤ 1073741824 := wide_len (hw6)
   refine rk Qb [(5, .one (.slc (.own true 2944) 1 ((eL s0.1) ++ [[.s (implBaseName (((implFindFile s_ a0)).1))]])))] [5, 11] [] [] [] (o1 (ob_len (len_of (eL_length s0.1) (eL_length [(implBaseName (((implFindFile s_ a0)).1))]) (by first | omega | (simp; omega) | simp)))) ?_
   refine eqn [(5, .o 2944 (s0.1 ++ [(implBaseName (((implFindFile s_ a0)).1))]))] [5] [] [] (by rw [show ((eL s0.1) ++ [[.s (implBaseName (((implFindFile s_ a0)).1))]]) = (eL (s0.1 ++ [(implBaseName (((implFindFile s_ a0)).1))])) from app_eL (rfl) (rfl)]; first | done | kernel_rfl) ?_
   refine rk Qb [(16, .i ((k0 + 1 : Nat) : Int))] [16] [] [] [(0, .val (.i ((k0 + 1 : Nat) : Int)))] (o1 (Qf (av_i (wrap_succ k0 (by omega))))) ?_
   exact Exists.intro (s0.1 ++ [(implBaseName (((implFindFile s_ a0)).1))], s0.2 ++ [(((implBaseName (((implFindFile s_ a0)).1)) ++ (⟨#[46]⟩ : ByteArray)) ++ (numeral a0))]) (And.intro (weak_sf [(2944, 147202), (2432, 147203)] (by kernel_rfl)) ⟨forL_next hx0 (bif_t h3 (rfl)) hI0.1, by first | omega | (simp; omega) | simp, by first | omega | (simp; omega) | simp⟩)
  ·
   refine wdT 6 0 (.own true 147203) s0.2 (fun hw8 => ?_)
   have hl9 : List.length s0.2 ≤ 1073741824 := wide_len (hw8)
   refine rk Qb [(6, .one (.slc (.own true 2688) 1 ((eL s0.2) ++ [[.s (implBaseName (((implFindFile s_ a0)).1))]])))] [6, 8, 30] [] [] [] (o1 (ob_len (len_of (eL_length s0.2) (eL_length [(implBaseName (((implFindFile s_ a0)).1))]) (by first | omega | (simp; omega) | simp)))) ?_
   refine eqn [(6, .o 2688 (s0.2 ++ [(implBaseName (((implFindFile s_ a0)).1))]))] [6] [] [] (by rw [show ((eL s0.2) ++ [[.s (implBaseName (((implFindFile s_ a0)).1))]]) = (eL (s0.2 ++ [(implBaseName (((implFindFile s_ a0)).1))])) from app_eL (rfl) (rfl)]; first | done | kernel_rfl) ?_
   refine wdT 5 0 (.own true 147202) s0.1 (fun hw10 => ?_)
   have hl11 : List.length s0.1 ≤ 1073741824 := wide_len (hw10)
   refine rk Qb [(5, .one (.slc (.own true 2944) 1 ((eL s0.1) ++ [[.s (implBaseName (((implFindFile s_ a0)).1))]])))] [5, 11] [] [] [] (o1 (ob_len (len_of (eL_length s0.1) (eL_length [(implBaseName (((implFindFile s_ a0)).1))]) (by first | omega | (simp; omega) | simp)))) ?_
   refine eqn [(5, .o 2944 (s0.1 ++ [(implBaseName (((implFindFile s_ a0)).1))]))] [5] [] [] (by rw [show ((eL s0.1) ++ [[.s (implBaseName (((implFindFile s_ a0)).1))]]) = (eL (s0.1 ++ [(implBaseName (((implFindFile s_ a0)).1))])) from app_eL (rfl) (rfl)]; first | done | kernel_rfl) ?_
   refine rk Qb [(16, .i ((k0 + 1 : Nat) : Int))] [16] [] [] [(0, .val (.i ((k0 + 1 : Nat) : Int)))] (o1 (Qf (av_i (wrap_succ k0 (by omega))))) ?_
   exact Exists.intro (s0.1 ++ [(implBaseName (((implFindFile s_ a0)).1))], s0.2 ++ [(implBaseName (((implFindFile s_ a0)).1))]) (And.intro (weak_sf [(2944, 147202), (2688, 147203)] (by kernel_rfl)) ⟨forL_next hx0 (bif_f h3 (rfl)) hI0.1, by first | omega | (simp; omega) | simp, by first | omega | (simp; omega) | simp⟩)
 ·
  have hA0_0 := hI0.2.1
  have hA0_1 := hI0.2.2
  refine Qa ?_
  refine rk Qb [(17, .b false)] [] [] [] [(0, .val (.b false))] (o1 (Qf (Qe (decide_eq_false (p := ((k0 : Nat) : Int) < (ids.length : Int)) (by omega))))) ?_
  refine Qa ?_
  refine ckF ?_
  refine awp_exit ?_
  exact Exists.intro s0.2 (And.intro (weak_sf [(147203, 147353)] (by kernel_rfl)) (forL_end hk0 (rfl) hI0.1))
 ·
  refine Qa ?_
  refine rk Qb [(4, .o 147353 y0)] [4, 6] [] [] [] (o0) ?_
  refine Qh ?_
  exact pret [] (congrArg (fun z => (.o 0 z : AV)) (show implEntryNames s_ ids = y0 from on_b hD0 (rfl)).symm)
def specEntryNames_f1 (s_ : StoreD) (ids : (List Int)) (a0 : Int) (k1 : Nat) (s1 : ByteArray) : Rd (Rd ((List ByteArray)) ((List ByteArray)) ((List ByteArray))) (ByteArray) (ByteArray) := (bif ((specl20Base s_ (nth ids k1)).toList == (specl20Base s_ a0).toList) then (.next (((specl20Base s_ a0) ++ (⟨#[46]⟩ : ByteArray)) ++ (numeral a0))) else (.next s1))
def specEntryNames_e1 (_ : Nat) (s1 : ByteArray) : ByteArray := s1
def specEntryNames_f0 (s_ : StoreD) (ids : (List Int)) (k0 : Nat) (a0 : Int) (s0 : (List ByteArray)) : Rd ((List ByteArray)) ((List ByteArray)) ((List ByteArray)) := (Out.on (forN (specEntryNames_f1 s_ ids a0) specEntryNames_e1 (Int.toNat ((k0 : Nat) : Int)) 0 (specl20Base s_ a0)) (fun y1 => (.next (s0 ++ [y1]))))
def specEntryNames_e0 (_ : Nat) (s0 : (List ByteArray)) : (List ByteArray) := s0
def specEntryNames (s_ : StoreD) (ids : (List Int)) : (List ByteArray) := (Out.on (forL (specEntryNames_f0 s_ ids) specEntryNames_e0 ids 0 []) (fun y0 => y0))
theorem specEntryNames_a (s_ : StoreD) (ids : (List Int)) (hi : ∀ x, x ∈ ids → 1 ≤ x ∧ x ≤ 60) (hp : GoD.size s_ ≤ 536870912) : ACalls Tryz.prog 41 [.a [.h s_.1, .h s_.2.1, .i s_.2.2], .h ids] (.o 0 (specEntryNames s_ ids)) := by
 refine acalls_of (tt := tt) Qb Tryz.func41 (fn := Tryz.f41) rfl (by unfold FnOk; kernel_rfl) (Nat.le_of_ble_eq_true rfl) fun w0 F0 hG => ?_
 refine Qa ?_
 refine rk Qb [(2, .p 2 0), (4, .e 0)] [0] [(2, [.h s_.1, .h s_.2.1, .i s_.2.2])] [] [] (o0) ?_
 refine Qa ?_
 refine rk Qb [(5, .one (.slc (.own true 640) 1 []))] [] [] [] [] (o0) ?_
 refine Qa ?_
 refine Qa ?_
 refine rk Qb [(6, .i 0)] [] [] [] [] (o0) ?_
 refine wdT 1 0 .sh ids (fun hw1 => ?_)
 have hl2 : List.length ids ≤ 1073741824 := wide_len (hw1)
 refine blk (fun (k0 : Nat) (s0 : (List ByteArray)) => [(5, .o 147203 s0), (6, .i ((k0 : Nat) : Int))]) [5, 6] (fun k0 s0 => []) [] (fun (y0 : (List ByteArray)) => [(5, .o 147353 y0)]) [1, 2, 5, 6] (fun y0 => []) [2] (fun (k0 : Nat) (s0 : (List ByteArray)) => (forL (specEntryNames_f0 s_ ids) specEntryNames_e0 ids 0 []) = forL (specEntryNames_f0 s_ ids) specEntryNames_e0 (List.drop k0 ids) k0 s0 ∧ List.length s0 ≤ k0) (fun (y0 : (List ByteArray)) => (forL (specEntryNames_f0 s_ ids) specEntryNames_e0 ids 0 []) = .brk y0) ids.length [] (weak_sf [(640, 147203)] (by kernel_rfl)) ⟨rfl, (by simp)⟩ (fun k0 s0 hk0 hI0 => ?_) (fun k0 s0 hk0 hI0 => ?_) (fun y0 hD0 => ?_)
 ·
  have hA0_0 := hI0.2
  obtain ⟨a0, hx0⟩ := get_some (l := ids) (i := k0) hk0
  have hi0 := hi _ (List.mem_of_getElem? hx0)
  have hbs := base_sizeS s_ a0
  have hns := numeral_le (n := a0) (by omega)
  refine Qa ?_
  refine Qa ?_
  refine rk Qb [(14, .b true)] [] [] [] [(2, .val (.i (ids.length : Int))), (3, .val (.b true))] (o2 (Qf (av_len ids)) (o1 (Qf (Qe (decide_eq_true (p := ((k0 : Nat) : Int) < (ids.length : Int)) (by omega)))))) ?_
  refine ckT ?_
  refine Qg ?_
  refine Qa ?_
  refine awp_block ?_
  refine Qa ?_
  refine rd' Qb tt_mx [(7, .s (specl20Base s_ a0))] [14] [] [] [(3, .row [.i a0]), (5, .val (.s (specl20Base s_ a0)))] (o2 (ob_elem (el_of (i := ((k0 : Nat) : Int)) (by omega) rfl hx0)) (o1 (Qd (specl20Base_a s_ a0)))) ?_
  refine Qa ?_
  refine rk Qb [(8, .s (specl20Base s_ a0))] [] [] [] [] (o0) ?_
  refine Qa ?_
  refine Qa ?_
  refine rk Qb [(9, .i 0)] [] [] [] [] (o0) ?_
  refine blk (fun (k1 : Nat) (s1 : ByteArray) => [(8, .s s1), (9, .i ((k1 : Nat) : Int))]) [8, 9] (fun k1 s1 => []) [] (fun (y1 : ByteArray) => [(8, .s y1)]) [7, 8, 9] (fun y1 => []) [] (fun (k1 : Nat) (s1 : ByteArray) => (forN (specEntryNames_f1 s_ ids a0) specEntryNames_e1 (Int.toNat ((k0 : Nat) : Int)) 0 (specl20Base s_ a0)) = forN (specEntryNames_f1 s_ ids a0) specEntryNames_e1 ((Int.toNat ((k0 : Nat) : Int)) - k1) k1 s1) (fun (y1 : ByteArray) => (forN (specEntryNames_f1 s_ ids a0) specEntryNames_e1 (Int.toNat ((k0 : Nat) : Int)) 0 (specl20Base s_ a0)) = .brk y1) (Int.toNat ((k0 : Nat) : Int)) (specl20Base s_ a0) (Qc (by kernel_rfl)) rfl (fun k1 s1 hk1 hI1 => ?_) (fun k1 s1 hk1 hI1 => ?_) (fun y1 hD1 => ?_)
  ·
   refine Qa ?_
   refine Qa ?_
   refine rk Qb [(26, .b true)] [] [] [] [(2, .val (.b true))] (o1 (Qf (Qe (decide_eq_true (p := ((k1 : Nat) : Int) < ((k0 : Nat) : Int)) (by omega))))) ?_
   refine ckT ?_
   refine Qg ?_
   refine Qa ?_
   refine awp_block ?_
   refine Qa ?_
   have hx3 : ids[k1]? = some (nth ids k1) := nth_get (by omega)
   refine rd' Qb tt_mx [(36, .b ((specl20Base s_ (nth ids k1)).toList == (specl20Base s_ a0).toList))] [26] [] [] [(3, .row [.i (nth ids k1)]), (5, .val (.s (specl20Base s_ (nth ids k1))))] (o2 (ob_elem (el_of (i := ((k1 : Nat) : Int)) (by omega) rfl hx3)) (o1 (Qd (specl20Base_a s_ (nth ids k1))))) ?_
   refine ck ((specl20Base s_ (nth ids k1)).toList == (specl20Base s_ a0).toList) (fun h4 => ?_) (fun h4 => ?_)
   ·
    refine rk Qb [(8, .s (((specl20Base s_ a0) ++ (⟨#[46]⟩ : ByteArray)) ++ (numeral a0)))] [8, 36] [] [] [(4, .row [.i a0]), (6, .val (.s (numeral a0)))] (o2 (ob_slen (n := (ByteArray.size (specl20Base s_ a0) + ByteArray.size (⟨#[46]⟩ : ByteArray))) (by have hq0 : ByteArray.size (⟨#[46]⟩ : ByteArray) = 1 := rfl; unfold maxLen; first | omega | (simp only [ByteArray.size_append]; omega))) (o2 (ob_elem (el_of (i := ((k0 : Nat) : Int)) (by omega) rfl hx0)) (o2 (Qd (specFormatInt_a a0 (by omega))) (o1 (ob_slen (n := (ByteArray.size ((specl20Base s_ a0) ++ (⟨#[46]⟩ : ByteArray)) + ByteArray.size (numeral a0))) (by have hq0 : ByteArray.size (⟨#[46]⟩ : ByteArray) = 1 := rfl; unfold maxLen; first | omega | (simp only [ByteArray.size_append]; omega))))))) ?_
    refine rk Qb [(9, .i ((k1 + 1 : Nat) : Int))] [9] [] [] [(1, .val (.i ((k1 + 1 : Nat) : Int)))] (o1 (Qf (av_i (wrap_succ k1 (by omega))))) ?_
    exact Exists.intro (((specl20Base s_ a0) ++ (⟨#[46]⟩ : ByteArray)) ++ (numeral a0)) (And.intro (Qc (by kernel_rfl)) (forN_next hk1 (bif_t h4 (rfl)) hI1))
   ·
    refine Qg ?_
    refine rk Qb [(9, .i ((k1 + 1 : Nat) : Int))] [9, 36] [] [] [(1, .val (.i ((k1 + 1 : Nat) : Int)))] (o1 (Qf (av_i (wrap_succ k1 (by omega))))) ?_
    exact Exists.intro s1 (And.intro (Qc (by kernel_rfl)) (forN_next hk1 (bif_f h4 (rfl)) hI1))
  ·
   refine Qa ?_
   refine Qa ?_
   refine rk Qb [(26, .b false)] [] [] [] [(2, .val (.b false))] (o1 (Qf (Qe (decide_eq_false (p := ((k1 : Nat) : Int) < ((k0 : Nat) : Int)) (by omega))))) ?_
   refine ckF ?_
   refine awp_exit ?_
   exact Exists.intro s1 (And.intro (Qc (by kernel_rfl)) (forN_end hk1 (rfl) hI1))
  ·
   refine wdT 5 0 (.own true 147203) s0 (fun hw5 => ?_)
   have hl6 : List.length s0 ≤ 1073741824 := wide_len (hw5)
   refine rk Qb [(5, .one (.slc (.own true 3072) 1 ((eL s0) ++ [[.s y1]])))] [5, 8] [] [] [] (o1 (ob_len (len_of (eL_length s0) (eL_length [y1]) (by first | omega | (simp; omega) | simp)))) ?_
   refine eqn [(5, .o 3072 (s0 ++ [y1]))] [5] [] [] (by rw [show ((eL s0) ++ [[.s y1]]) = (eL (s0 ++ [y1])) from app_eL (rfl) (rfl)]; first | done | kernel_rfl) ?_
   refine rk Qb [(6, .i ((k0 + 1 : Nat) : Int))] [6] [] [] [(1, .val (.i ((k0 + 1 : Nat) : Int)))] (o1 (Qf (av_i (wrap_succ k0 (by omega))))) ?_
   exact Exists.intro (s0 ++ [y1]) (And.intro (weak_sf [(3072, 147203)] (by kernel_rfl)) ⟨forL_next hx0 (on_b hD1 (rfl)) hI0.1, by first | omega | (simp; omega) | simp⟩)
 ·
  have hA0_0 := hI0.2
  refine Qa ?_
  refine Qa ?_
  refine rk Qb [(14, .b false)] [] [] [] [(2, .val (.i (ids.length : Int))), (3, .val (.b false))] (o2 (Qf (av_len ids)) (o1 (Qf (Qe (decide_eq_false (p := ((k0 : Nat) : Int) < (ids.length : Int)) (by omega)))))) ?_
  refine ckF ?_
  refine awp_exit ?_
  exact Exists.intro s0 (And.intro (weak_sf [(147203, 147353)] (by kernel_rfl)) (forL_end hk0 (rfl) hI0.1))
 ·
  refine Qa ?_
  refine rk Qb [(4, .o 147353 y0)] [4, 5] [] [] [] (o0) ?_
  refine Qh ?_
  exact pret [] (congrArg (fun z => (.o 0 z : AV)) (show specEntryNames s_ ids = y0 from on_b hD0 (rfl)).symm)
end Go.Proofs.YtnhmnfmhnepjmaaGreatDoor
namespace Go.Proofs.YtnhmnfmhnepjmaaGreatDoor
open Go.RowKit
abbrev baseOf (s : StoreD) (x : Int) : ByteArray := implBaseName (((implFindFile s x)).1)
abbrev longOf (s : StoreD) (x : Int) : ByteArray := (baseOf s x ++ (⟨#[46]⟩ : ByteArray)) ++ numeral x
theorem contains_cons (x v : ByteArray) (l : List ByteArray) : slicesContains_string (x :: l) v = ((x.toList == v.toList) || slicesContains_string l v) := by
  have h : (x.toList == v.toList) = decide (x = v) := toList_inj
  rw [h, Bool.eq_iff_iff, contains_iff, Bool.or_eq_true, contains_iff, decide_eq_true_eq, List.mem_cons]
  exact or_congr eq_comm Iff.rfl
theorem entry_inner (s : StoreD) (ids : List Int) (a : Int) (m : Nat) (hm : m ≤ ids.length) : ∀ (n k : Nat) (t : ByteArray), k + n = m → forN (specEntryNames_f1 s ids a) specEntryNames_e1 n k t = .brk (bif slicesContains_string (((ids.take m).drop k).map (baseOf s)) (baseOf s a) then longOf s a else t)
  | 0, k, t, h => by
    have e : (ids.take m).drop k = [] := List.drop_eq_nil_of_le (by rw [List.length_take]; omega)
    have e2 : slicesContains_string (List.map (baseOf s) []) (baseOf s a) = false := rfl
    rw [e, e2]; rfl
  | n + 1, k, t, h => by
    have hg : (ids.take m)[k]? = some (nth ids k) := by rw [List.getElem?_take, if_pos (by omega)]; exact nth_get (by omega)
    rw [drop_at hg, List.map_cons, contains_cons]
    simp only [forN, specEntryNames_f1, base_eq]
    cases hc : ((implBaseName (((implFindFile s (nth ids k))).1)).toList == (implBaseName (((implFindFile s a)).1)).toList) with
    | true =>
      simp only [cond_true, Bool.true_or]
      rw [entry_inner s ids a m hm n (k + 1) _ (by omega)]
      cases slicesContains_string _ _ <;> rfl
    | false =>
      simp only [cond_false, Bool.false_or]
      exact entry_inner s ids a m hm n (k + 1) t (by omega)
theorem entry_loop (s : StoreD) (ids : List Int) : ∀ (l : List Int) (k : Nat) (t : List ByteArray), ids.drop k = l → ∃ r, forL (implEntryNames_f0 s) implEntryNames_e0 l k ((ids.take k).map (baseOf s), t) = .brk r ∧ forL (specEntryNames_f0 s ids) specEntryNames_e0 l k t = .brk r
  | [], k, t, _ => ⟨t, rfl, rfl⟩
  | a :: l, k, t, hl => by
    have hk : ids[k]? = some a := by
      have := congrArg (·[0]?) hl
      simpa using this
    have hkl : k < ids.length := (List.getElem?_eq_some_iff.1 hk).1
    have hrest : ids.drop (k + 1) = l := by rw [← List.drop_drop, hl]; rfl
    have hin := entry_inner s ids a k (by omega) k 0 (baseOf s a) (by omega)
    rw [List.drop_zero] at hin
    have htake : (ids.take k).map (baseOf s) ++ [baseOf s a] = (ids.take (k + 1)).map (baseOf s) := by
      rw [List.take_add_one, hk]; simp
    simp only [forL, implEntryNames_f0, specEntryNames_f0, base_eq, Int.toNat_natCast]
    rw [hin]
    cases hc : slicesContains_string ((ids.take k).map (baseOf s)) (baseOf s a) with
    | true =>
      simp only [cond_true, Out.on]
      rw [htake]
      exact entry_loop s ids l (k + 1) _ hrest
    | false =>
      simp only [cond_false, Out.on]
      rw [htake]
      exact entry_loop s ids l (k + 1) _ hrest
theorem entryNames_eq (s : StoreD) (ids : List Int) : specEntryNames s ids = implEntryNames s ids := by
  unfold specEntryNames implEntryNames
  obtain ⟨r, h1, h2⟩ := entry_loop s ids ids 0 [] rfl
  rw [List.take_zero, List.map_nil] at h1
  rw [h1, h2]
theorem entry_sizes (s : StoreD) : ∀ (l : List Int) (k : Nat) (b t : List ByteArray), (∀ x, x ∈ l → 1 ≤ x ∧ x ≤ 60) → (∀ x, x ∈ t → x.size ≤ GoD.size s + 25) → ∃ r, forL (implEntryNames_f0 s) implEntryNames_e0 l k (b, t) = .brk r ∧ r.length = t.length + l.length ∧ ∀ x, x ∈ r → x.size ≤ GoD.size s + 25
  | [], k, b, t, _, h => ⟨t, rfl, rfl, h⟩
  | a :: l, k, b, t, hi, h => by
    have ha := hi a (List.mem_cons_self ..)
    have hb := base_size s a
    have hn := numeral_le (n := a) (by omega)
    have hl : (longOf s a).size ≤ GoD.size s + 25 := by
      have h1 : ByteArray.size (⟨#[46]⟩ : ByteArray) = 1 := rfl
      show ((baseOf s a ++ (⟨#[46]⟩ : ByteArray)) ++ numeral a).size ≤ _
      rw [ByteArray.size_append, ByteArray.size_append]
      have h2 : (baseOf s a).size ≤ GoD.size s + 4 := hb
      omega
    have hi' : ∀ x, x ∈ l → 1 ≤ x ∧ x ≤ 60 := fun x hx => hi x (List.mem_cons_of_mem _ hx)
    simp only [forL, implEntryNames_f0]
    cases slicesContains_string b (implBaseName (((implFindFile s a)).1)) with
    | true =>
      simp only [cond_true]
      obtain ⟨r, h1, h2, h3⟩ := entry_sizes s l (k + 1) (b ++ [baseOf s a]) (t ++ [longOf s a]) hi' fun x hx => by
        rcases List.mem_append.1 hx with hx | hx
        · exact h x hx
        · obtain rfl := List.mem_singleton.1 hx; exact hl
      refine ⟨r, h1, ?_, h3⟩
      rw [h2, List.length_append, List.length_singleton, List.length_cons]; omega
    | false =>
      simp only [cond_false]
      obtain ⟨r, h1, h2, h3⟩ := entry_sizes s l (k + 1) (b ++ [baseOf s a]) (t ++ [baseOf s a]) hi' fun x hx => by
        rcases List.mem_append.1 hx with hx | hx
        · exact h x hx
        · obtain rfl := List.mem_singleton.1 hx
          have h2 : (baseOf s a).size ≤ GoD.size s + 4 := hb
          omega
      refine ⟨r, h1, ?_, h3⟩
      rw [h2, List.length_append, List.length_singleton, List.length_cons]; omega
theorem entry_ok {s : StoreD} {ids : List Int} (hi : ∀ x, x ∈ ids → 1 ≤ x ∧ x ≤ 60) : (implEntryNames s ids).length = ids.length ∧ ∀ x, x ∈ implEntryNames s ids → x.size ≤ GoD.size s + 25 := by
  unfold implEntryNames
  obtain ⟨r, h1, h2, h3⟩ := entry_sizes s ids 0 [] [] hi fun x hx => by simp at hx
  rw [h1]
  exact ⟨by simpa [Out.on] using h2, h3⟩
/-! ### what a user sees is no larger than the store -/
theorem size_app {α : Type} [GoD α] (l m : List α) : GoD.size (l ++ m) = GoD.size l + GoD.size m := by
  simp only [size_list, List.length_append, List.map_append, List.sum_append]
  omega
theorem size_one {α : Type} [GoD α] (a : α) : GoD.size [a] = 1 + GoD.size a := by simp [size_list]
theorem size_set {α : Type} [GoD α] [Inhabited α] {l : List α} {i : Nat} (y : α) (hy : GoD.size y ≤ GoD.size (nth l i)) : GoD.size (l.set i y) ≤ GoD.size l := by
  by_cases hi : i < l.length
  · have h2 : l = l.take i ++ ([nth l i] ++ l.drop (i + 1)) := by
      have := drop_at (nth_get hi)
      rw [List.singleton_append, ← this, List.take_append_drop]
    have h1 : l.set i y = l.take i ++ ([y] ++ l.drop (i + 1)) := by
      rw [List.set_eq_take_append_cons_drop, if_pos hi]; rfl
    rw [h1]
    conv => rhs; rw [h2]
    rw [size_app, size_app, size_app, size_app, size_one, size_one]
    omega
  · rw [List.set_eq_of_length_le (by omega)]
    exact Nat.le_refl _
theorem visible_f0 (u : Int) : ∀ (l : List FileD) (k : Nat) (t : List FileD), ∃ r, forL (implVisibleStore_f0 u) implVisibleStore_e0 l k t = .brk r ∧ GoD.size r ≤ GoD.size t + GoD.size l
  | [], k, t => ⟨t, rfl, Nat.le_add_right _ _⟩
  | a :: l, k, t => by
    have e : GoD.size (a :: l) = GoD.size [a] + GoD.size l := size_app [a] l
    simp only [forL, implVisibleStore_f0]
    cases implCanRead a u with
    | true =>
      simp only [cond_true]
      obtain ⟨r, h1, h2⟩ := visible_f0 u l (k + 1) (t ++ [implcopyFile a])
      refine ⟨r, h1, ?_⟩
      rw [size_app, show implcopyFile a = a from rfl] at h2
      omega
    | false =>
      simp only [cond_false]
      obtain ⟨r, h1, h2⟩ := visible_f0 u l (k + 1) t
      exact ⟨r, h1, by omega⟩
theorem visible_f1 (s : StoreD) : ∀ (l : List FileD) (k : Nat) (t : List FileD), ∃ r, forL (implVisibleStore_f1 s) implVisibleStore_e1 l k t = .brk r ∧ GoD.size r ≤ GoD.size t
  | [], k, t => ⟨t, rfl, Nat.le_refl _⟩
  | a :: l, k, t => by
    simp only [forL, implVisibleStore_f1]
    cases decide ((implfileAt (s.1, t, s.2.2) ((nth t k).2.2.2.1)) < (0 : Int)) with
    | true =>
      simp only [cond_true]
      obtain ⟨r, h1, h2⟩ := visible_f1 s l (k + 1) (List.set t k ((nth t k).1, (nth t k).2.1, (nth t k).2.2.1, 0, (nth t k).2.2.2.2))
      exact ⟨r, h1, Nat.le_trans h2 (size_set _ (Nat.le_refl _))⟩
    | false =>
      simp only [cond_false]
      exact visible_f1 s l (k + 1) t
theorem visible_size (s : StoreD) (u : Int) : GoD.size (implVisibleStore s u) ≤ GoD.size s := by
  unfold implVisibleStore
  obtain ⟨r, h1, h2⟩ := visible_f0 u s.2.1 0 []
  rw [h1]
  simp only [Out.on]
  obtain ⟨r2, h3, h4⟩ := visible_f1 s r 0 r
  rw [h3]
  have e : GoD.size s = GoD.size s.1 + (GoD.size s.2.1 + 0) := rfl
  have e2 : GoD.size ((s.1, r2, s.2.2) : StoreD) = GoD.size s.1 + (GoD.size r2 + 0) := rfl
  have e3 : GoD.size ([] : List FileD) = 0 := rfl
  show GoD.size ((s.1, r2, s.2.2) : StoreD) ≤ _
  omega
theorem visible_sizeS (s : StoreD) (u : Int) : GoD.size (specVisibleStore s u) ≤ GoD.size s := by rw [visible_eq]; exact visible_size s u
theorem listDir_idsS (s : StoreD) (d : List DirD) (u : Int) (n : ByteArray) : ∀ x, x ∈ specListDir s d u n → 1 ≤ x ∧ x ≤ 60 := by rw [listDir_eq]; exact listDir_ids s d u n
theorem line_ok (s : StoreD) (d : List DirD) (u : Int) (n : ByteArray) : (implEntryNames (implVisibleStore s u) (implListDir s d u n)).length ≤ 12 ∧ ∀ (k : Nat) (x : ByteArray), (implEntryNames (implVisibleStore s u) (implListDir s d u n))[k]? = some x → x.size ≤ GoD.size s + 25 := by
  obtain ⟨h1, h2⟩ := entry_ok (s := implVisibleStore s u) (listDir_ids s d u n)
  have h3 := listDir_short s d u n
  have h4 := visible_size s u
  exact ⟨by omega, fun k x hx => by have := h2 x (List.mem_of_getElem? hx); omega⟩
theorem line_okS (s : StoreD) (d : List DirD) (u : Int) (n : ByteArray) : (specEntryNames (specVisibleStore s u) (specListDir s d u n)).length ≤ 12 ∧ ∀ (k : Nat) (x : ByteArray), (specEntryNames (specVisibleStore s u) (specListDir s d u n))[k]? = some x → x.size ≤ GoD.size s + 25 := by
  rw [entryNames_eq, visible_eq, listDir_eq]; exact line_ok s d u n
theorem dir_name {d : List DirD} {k : Nat} {a : DirD} (h : d[k]? = some a) : a.1.size ≤ GoD.size d := by
  have h1 := size_mem (List.mem_of_getElem? h)
  have h2 : GoD.size a = a.1.size + GoD.size a.2 := rfl
  omega
open GoE (enc wide)
def implviewLine_f0 (_ : Nat) (a0 : ByteArray) (s0 : ByteArray) : Rd (ByteArray) (ByteArray) (ByteArray) := (.next (s0 ++ ((⟨#[32]⟩ : ByteArray) ++ a0)))
def implviewLine_e0 (_ : Nat) (s0 : ByteArray) : ByteArray := s0
def implviewLine (s_ : StoreD) (d : (List DirD)) (user : Int) (name : ByteArray) : ByteArray := (Out.on (forL implviewLine_f0 implviewLine_e0 (implEntryNames (implVisibleStore s_ user) (implListDir s_ d user name)) 0 name) (fun y0 => y0))
theorem implviewLine_a (s_ : StoreD) (d : (List DirD)) (user : Int) (name : ByteArray) (hp : GoD.size s_ ≤ 268435456) (hn : name.size ≤ 268435456) : ACalls Tryz.prog 26 [.a [.h s_.1, .h s_.2.1, .i s_.2.2], .h d, .i user, .s name] (.s (implviewLine s_ d user name)) := by
 refine acalls_of (tt := tt) Qb Tryz.func26 (fn := Tryz.f26) rfl (by unfold FnOk; kernel_rfl) (Nat.le_of_ble_eq_true rfl) fun w0 F0 hG => ?_
 refine Qa ?_
 refine rk Qb [(4, .p 4 0), (8, .s ⟨#[]⟩)] [0] [(4, [.h s_.1, .h s_.2.1, .i s_.2.2])] [] [] (o0) ?_
 refine Qa ?_
 refine rk Qb [(9, .s name)] [] [] [] [] (o0) ?_
 refine Qa ?_
 refine Qa ?_
 refine rd' Qb tt_mx [(21, .o 1344 (implEntryNames (implVisibleStore s_ user) (implListDir s_ d user name))), (22, .i ((implEntryNames (implVisibleStore s_ user) (implListDir s_ d user name)).length : Int)), (23, .i 0)] [1, 2, 3, 4] [] [4] [(2, .val (.a [.o 0 ((implVisibleStore s_ user).1), .o 1 ((implVisibleStore s_ user).2.1), .i ((implVisibleStore s_ user).2.2)])), (7, .val (.o 0 (implListDir s_ d user name))), (8, .val (.o 0 (implEntryNames (implVisibleStore s_ user) (implListDir s_ d user name)))), (9, .val (.i ((implEntryNames (implVisibleStore s_ user) (implListDir s_ d user name)).length : Int)))] (o2 (Qd (implVisibleStore_a s_ user)) (o2 (Qd (implListDir_a s_ d user name)) (o2 (Qd (implEntryNames_a (implVisibleStore s_ user) (implListDir s_ d user name) (listDir_ids s_ d user name) (by have hvs := visible_size s_ user; omega))) (o1 (Qf (av_len (implEntryNames (implVisibleStore s_ user) (implListDir s_ d user name)))))))) ?_
 refine wdT 21 0 (.own true 1344) (implEntryNames (implVisibleStore s_ user) (implListDir s_ d user name)) (fun hw1 => ?_)
 have hl2 : List.length (implEntryNames (implVisibleStore s_ user) (implListDir s_ d user name)) ≤ 1073741824 := wide_len (hw1)
 refine blk (fun (k0 : Nat) (s0 : ByteArray) => [(9, .s s0), (23, .i ((k0 : Nat) : Int))]) [9, 23] (fun k0 s0 => []) [] (fun (y0 : ByteArray) => [(9, .s y0)]) [9, 21, 22, 23] (fun y0 => []) [] (fun (k0 : Nat) (s0 : ByteArray) => (forL implviewLine_f0 implviewLine_e0 (implEntryNames (implVisibleStore s_ user) (implListDir s_ d user name)) 0 name) = forL implviewLine_f0 implviewLine_e0 (List.drop k0 (implEntryNames (implVisibleStore s_ user) (implListDir s_ d user name))) k0 s0 ∧ ByteArray.size s0 ≤ name.size + 300000000 * k0) (fun (y0 : ByteArray) => (forL implviewLine_f0 implviewLine_e0 (implEntryNames (implVisibleStore s_ user) (implListDir s_ d user name)) 0 name) = .brk y0) ((implEntryNames (implVisibleStore s_ user) (implListDir s_ d user name)).length) name (Qc (by kernel_rfl)) ⟨rfl, (by omega)⟩ (fun k0 s0 hk0 hI0 => ?_) (fun k0 s0 hk0 hI0 => ?_) (fun y0 hD0 => ?_)
 ·
  have hA0_0 := hI0.2
  obtain ⟨a0, hx0⟩ := get_some (l := implEntryNames (implVisibleStore s_ user) (implListDir s_ d user name)) (i := k0) hk0
  have hlo := line_ok s_ d user name
  have hxs := hlo.2 _ _ hx0
  have hll := hlo.1
  refine Qa ?_
  refine rk Qb [(24, .b true)] [] [] [] [(0, .val (.b true))] (o1 (Qf (Qe (decide_eq_true (p := ((k0 : Nat) : Int) < ((implEntryNames (implVisibleStore s_ user) (implListDir s_ d user name)).length : Int)) (by omega))))) ?_
  refine Qa ?_
  refine ckT ?_
  refine Qg ?_
  refine Qa ?_
  refine awp_block ?_
  refine Qa ?_
  refine rk Qb [(11, .s a0)] [24] [] [] [(0, .rowE [.s a0])] (o1 (ob_elem (el_of (i := ((k0 : Nat) : Int)) (by omega) rfl hx0))) ?_
  refine rk Qb [(9, .s (s0 ++ ((⟨#[32]⟩ : ByteArray) ++ a0)))] [9, 11] [] [] [] (o2 (ob_slen (n := (ByteArray.size (⟨#[32]⟩ : ByteArray) + ByteArray.size a0)) (by have hq0 : ByteArray.size (⟨#[32]⟩ : ByteArray) = 1 := rfl; unfold maxLen; first | omega | (simp only [ByteArray.size_append]; omega))) (o1 (ob_slen (n := (ByteArray.size s0 + ByteArray.size ((⟨#[32]⟩ : ByteArray) ++ a0))) (by have hq0 : ByteArray.size (⟨#[32]⟩ : ByteArray) = 1 := rfl; unfold maxLen; first | omega | (simp only [ByteArray.size_append]; omega))))) ?_
  refine rk Qb [(23, .i ((k0 + 1 : Nat) : Int))] [23] [] [] [(0, .val (.i ((k0 + 1 : Nat) : Int)))] (o1 (Qf (av_i (wrap_succ k0 (by omega))))) ?_
  exact Exists.intro (s0 ++ ((⟨#[32]⟩ : ByteArray) ++ a0)) (And.intro (Qc (by kernel_rfl)) ⟨forL_next hx0 (rfl) hI0.1, (by have hq : ByteArray.size (⟨#[32]⟩ : ByteArray) = 1 := rfl; simp only [ByteArray.size_append]; omega)⟩)
 ·
  have hA0_0 := hI0.2
  refine Qa ?_
  refine rk Qb [(24, .b false)] [] [] [] [(0, .val (.b false))] (o1 (Qf (Qe (decide_eq_false (p := ((k0 : Nat) : Int) < ((implEntryNames (implVisibleStore s_ user) (implListDir s_ d user name)).length : Int)) (by omega))))) ?_
  refine Qa ?_
  refine ckF ?_
  refine awp_exit ?_
  exact Exists.intro s0 (And.intro (Qc (by kernel_rfl)) (forL_end hk0 (rfl) hI0.1))
 ·
  refine Qa ?_
  refine rk Qb [(8, .s y0)] [8, 9] [] [] [] (o0) ?_
  refine Qh ?_
  exact pret [] (congrArg (fun z => (.s z : AV)) (show implviewLine s_ d user name = y0 from on_b hD0 (rfl)).symm)
def implRenderView_f0 (s_ : StoreD) (d : (List DirD)) (user : Int) (_ : Nat) (a0 : DirD) (s0 : (List ByteArray)) : Rd ((List ByteArray)) ((List ByteArray)) ((List ByteArray)) := (.next (s0 ++ [(implviewLine s_ d user a0.1)]))
def implRenderView_e0 (_ : Nat) (s0 : (List ByteArray)) : (List ByteArray) := s0
def implRenderView (s_ : StoreD) (d : (List DirD)) (user : Int) : (List ByteArray) := (bif (!(((implEvaluateForUser s_ d user)).2)) then [] else (Out.on (forL (implRenderView_f0 s_ d user) implRenderView_e0 d 0 []) (fun y0 => y0)))
theorem implRenderView_a (s_ : StoreD) (d : (List DirD)) (user : Int) (hp : GoD.size s_ ≤ 268435456) (hd : GoD.size d ≤ 268435456) : ACalls Tryz.prog 9 [.a [.h s_.1, .h s_.2.1, .i s_.2.2], .h d, .i user] (.o 0 (implRenderView s_ d user)) := by
 refine acalls_of (tt := tt) Qb Tryz.func9 (fn := Tryz.f9) rfl (by unfold FnOk; kernel_rfl) (Nat.le_of_ble_eq_true rfl) fun w0 F0 hG => ?_
 refine Qa ?_
 refine rk Qb [(3, .p 3 0), (6, .e 0)] [0] [(3, [.h s_.1, .h s_.2.1, .i s_.2.2])] [] [] (o0) ?_
 refine Qa ?_
 refine Qa ?_
 refine rk Qb [(8, .b (((implEvaluateForUser s_ d user)).2))] [] [] [] [(3, .val (.tup [(false, [.o 0 (((implEvaluateForUser s_ d user)).1)]), (false, [.b (((implEvaluateForUser s_ d user)).2)])]))] (o1 (Qd (implEvaluateForUser_a s_ d user))) ?_
 refine Qa ?_
 refine rk Qb [(20, .b (!(((implEvaluateForUser s_ d user)).2)))] [8] [] [] [] (o0) ?_
 refine ck (!(((implEvaluateForUser s_ d user)).2)) (fun h1 => ?_) (fun h1 => ?_)
 ·
  refine Qa ?_
  refine rk Qb [] [20] [] [] [] (o0) ?_
  refine opn [(false, 6, 0, true, 384000, 1)] ?_
  refine Qh ?_
  exact pret [] (congrArg (fun z => (.o 0 z : AV)) (show implRenderView s_ d user = [] from bif_t h1 (rfl)).symm)
 ·
  refine Qg ?_
  refine Qa ?_
  refine rk Qb [(9, .one (.slc (.own true 1344) 1 []))] [20] [] [] [] (o0) ?_
  refine Qa ?_
  refine Qa ?_
  refine rk Qb [(22, .h d), (23, .i (d.length : Int)), (24, .i 0)] [] [] [] [(1, .val (.i (d.length : Int)))] (o1 (Qf (av_len d))) ?_
  refine wdT 1 0 .sh d (fun hw2 => ?_)
  have hl3 : List.length d ≤ 1073741824 := wide_len (hw2)
  refine blk (fun (k0 : Nat) (s0 : (List ByteArray)) => [(9, .o 147204 s0), (24, .i ((k0 : Nat) : Int))]) [9, 24] (fun k0 s0 => []) [] (fun (y0 : (List ByteArray)) => [(9, .o 147354 y0)]) [1, 2, 3, 9, 22, 23, 24] (fun y0 => []) [3] (fun (k0 : Nat) (s0 : (List ByteArray)) => (forL (implRenderView_f0 s_ d user) implRenderView_e0 d 0 []) = forL (implRenderView_f0 s_ d user) implRenderView_e0 (List.drop k0 d) k0 s0 ∧ List.length s0 ≤ k0) (fun (y0 : (List ByteArray)) => (forL (implRenderView_f0 s_ d user) implRenderView_e0 d 0 []) = .brk y0) d.length [] (weak_sf [(1344, 147204)] (by kernel_rfl)) ⟨rfl, (by simp)⟩ (fun k0 s0 hk0 hI0 => ?_) (fun k0 s0 hk0 hI0 => ?_) (fun y0 hD0 => ?_)
  ·
   have hA0_0 := hI0.2
   obtain ⟨a0, hx0⟩ := get_some (l := d) (i := k0) hk0
   refine Qa ?_
   refine rk Qb [(25, .b true)] [] [] [] [(0, .val (.b true))] (o1 (Qf (Qe (decide_eq_true (p := ((k0 : Nat) : Int) < (d.length : Int)) (by omega))))) ?_
   refine Qa ?_
   refine ckT ?_
   refine Qg ?_
   refine Qa ?_
   refine awp_block ?_
   refine Qa ?_
   refine rk Qb [(11, .p 11 0)] [25] [(11, [.s a0.1, .h a0.2])] [] [(0, .row [.s a0.1, .h a0.2])] (o1 (ob_elem (el_of (i := ((k0 : Nat) : Int)) (by omega) rfl hx0))) ?_
   refine wdT 9 0 (.own true 147204) s0 (fun hw4 => ?_)
   have hl5 : List.length s0 ≤ 1073741824 := wide_len (hw4)
   refine rk Qb [(9, .one (.slc (.own true 2304) 1 ((eL s0) ++ [[.s (implviewLine s_ d user a0.1)]])))] [9, 11] [] [11] [(6, .val (.s (implviewLine s_ d user a0.1)))] (o2 (Qd (implviewLine_a s_ d user a0.1 (by omega) (by have hz := dir_name hx0; omega))) (o1 (ob_len (len_of (eL_length s0) (eL_length [(implviewLine s_ d user a0.1)]) (by first | omega | (simp; omega) | simp))))) ?_
   refine eqn [(9, .o 2304 (s0 ++ [(implviewLine s_ d user a0.1)]))] [9] [] [] (by rw [show ((eL s0) ++ [[.s (implviewLine s_ d user a0.1)]]) = (eL (s0 ++ [(implviewLine s_ d user a0.1)])) from app_eL (rfl) (rfl)]; first | done | kernel_rfl) ?_
   refine rk Qb [(24, .i ((k0 + 1 : Nat) : Int))] [24] [] [] [(0, .val (.i ((k0 + 1 : Nat) : Int)))] (o1 (Qf (av_i (wrap_succ k0 (by omega))))) ?_
   exact Exists.intro (s0 ++ [(implviewLine s_ d user a0.1)]) (And.intro (weak_sf [(2304, 147204)] (by kernel_rfl)) ⟨forL_next hx0 (rfl) hI0.1, by first | omega | (simp; omega) | simp⟩)
  ·
   have hA0_0 := hI0.2
   refine Qa ?_
   refine rk Qb [(25, .b false)] [] [] [] [(0, .val (.b false))] (o1 (Qf (Qe (decide_eq_false (p := ((k0 : Nat) : Int) < (d.length : Int)) (by omega))))) ?_
   refine Qa ?_
   refine ckF ?_
   refine awp_exit ?_
   exact Exists.intro s0 (And.intro (weak_sf [(147204, 147354)] (by kernel_rfl)) (forL_end hk0 (rfl) hI0.1))
  ·
   refine Qa ?_
   refine rk Qb [(6, .o 147354 y0)] [6, 9] [] [] [] (o0) ?_
   refine Qh ?_
   exact pret [] (congrArg (fun z => (.o 0 z : AV)) (show implRenderView s_ d user = y0 from bif_f h1 (on_b hD0 (rfl))).symm)
def specl32Line_f0 (_ : Nat) (a0 : ByteArray) (s0 : ByteArray) : Rd (ByteArray) (ByteArray) (ByteArray) := (.next ((s0 ++ (⟨#[32]⟩ : ByteArray)) ++ a0))
def specl32Line_e0 (_ : Nat) (s0 : ByteArray) : ByteArray := s0
def specl32Line (s_ : StoreD) (d : (List DirD)) (u : Int) (name : ByteArray) : ByteArray := (Out.on (forL specl32Line_f0 specl32Line_e0 (specEntryNames (specVisibleStore s_ u) (specListDir s_ d u name)) 0 name) (fun y0 => y0))
theorem specl32Line_a (s_ : StoreD) (d : (List DirD)) (u : Int) (name : ByteArray) (hp : GoD.size s_ ≤ 268435456) (hn : name.size ≤ 268435456) : ACalls Tryz.prog 21 [.a [.h s_.1, .h s_.2.1, .i s_.2.2], .h d, .i u, .s name] (.s (specl32Line s_ d u name)) := by
 refine acalls_of (tt := tt) Qb Tryz.func21 (fn := Tryz.f21) rfl (by unfold FnOk; kernel_rfl) (Nat.le_of_ble_eq_true rfl) fun w0 F0 hG => ?_
 refine Qa ?_
 refine rk Qb [(4, .p 4 0), (8, .s ⟨#[]⟩)] [0] [(4, [.h s_.1, .h s_.2.1, .i s_.2.2])] [] [] (o0) ?_
 refine Qa ?_
 refine rk Qb [(9, .s name)] [] [] [] [] (o0) ?_
 refine Qa ?_
 refine rd' Qb tt_mx [(10, .o 1344 (specEntryNames (specVisibleStore s_ u) (specListDir s_ d u name)))] [1, 2, 3, 4] [] [4] [(2, .val (.a [.o 0 ((specVisibleStore s_ u).1), .o 1 ((specVisibleStore s_ u).2.1), .i ((specVisibleStore s_ u).2.2)])), (7, .val (.o 0 (specListDir s_ d u name))), (8, .val (.o 0 (specEntryNames (specVisibleStore s_ u) (specListDir s_ d u name))))] (o2 (Qd (specVisibleStore_a s_ u)) (o2 (Qd (specListDir_a s_ d u name)) (o1 (Qd (specEntryNames_a (specVisibleStore s_ u) (specListDir s_ d u name) (listDir_idsS s_ d u name) (by have hvs := visible_sizeS s_ u; omega)))))) ?_
 refine Qa ?_
 refine Qa ?_
 refine rk Qb [(11, .i 0)] [] [] [] [] (o0) ?_
 refine wdT 10 0 (.own true 1344) (specEntryNames (specVisibleStore s_ u) (specListDir s_ d u name)) (fun hw1 => ?_)
 have hl2 : List.length (specEntryNames (specVisibleStore s_ u) (specListDir s_ d u name)) ≤ 1073741824 := wide_len (hw1)
 refine blk (fun (k0 : Nat) (s0 : ByteArray) => [(9, .s s0), (11, .i ((k0 : Nat) : Int))]) [9, 11] (fun k0 s0 => []) [] (fun (y0 : ByteArray) => [(9, .s y0)]) [9, 10, 11] (fun y0 => []) [] (fun (k0 : Nat) (s0 : ByteArray) => (forL specl32Line_f0 specl32Line_e0 (specEntryNames (specVisibleStore s_ u) (specListDir s_ d u name)) 0 name) = forL specl32Line_f0 specl32Line_e0 (List.drop k0 (specEntryNames (specVisibleStore s_ u) (specListDir s_ d u name))) k0 s0 ∧ ByteArray.size s0 ≤ name.size + 300000000 * k0) (fun (y0 : ByteArray) => (forL specl32Line_f0 specl32Line_e0 (specEntryNames (specVisibleStore s_ u) (specListDir s_ d u name)) 0 name) = .brk y0) ((specEntryNames (specVisibleStore s_ u) (specListDir s_ d u name)).length) name (Qc (by kernel_rfl)) ⟨rfl, (by omega)⟩ (fun k0 s0 hk0 hI0 => ?_) (fun k0 s0 hk0 hI0 => ?_) (fun y0 hD0 => ?_)
 ·
  have hA0_0 := hI0.2
  obtain ⟨a0, hx0⟩ := get_some (l := specEntryNames (specVisibleStore s_ u) (specListDir s_ d u name)) (i := k0) hk0
  have hlo := line_okS s_ d u name
  have hxs := hlo.2 _ _ hx0
  have hll := hlo.1
  refine Qa ?_
  refine Qa ?_
  refine rk Qb [(25, .b true)] [] [] [] [(2, .val (.i ((specEntryNames (specVisibleStore s_ u) (specListDir s_ d u name)).length : Int))), (3, .val (.b true))] (o2 (Qf (av_len (specEntryNames (specVisibleStore s_ u) (specListDir s_ d u name)))) (o1 (Qf (Qe (decide_eq_true (p := ((k0 : Nat) : Int) < ((specEntryNames (specVisibleStore s_ u) (specListDir s_ d u name)).length : Int)) (by omega)))))) ?_
  refine ckT ?_
  refine Qg ?_
  refine Qa ?_
  refine awp_block ?_
  refine rk Qb [(9, .s ((s0 ++ (⟨#[32]⟩ : ByteArray)) ++ a0))] [9, 25] [] [] [(4, .rowE [.s a0])] (o2 (ob_slen (n := (ByteArray.size s0 + ByteArray.size (⟨#[32]⟩ : ByteArray))) (by have hq0 : ByteArray.size (⟨#[32]⟩ : ByteArray) = 1 := rfl; unfold maxLen; first | omega | (simp only [ByteArray.size_append]; omega))) (o2 (ob_elem (el_of (i := ((k0 : Nat) : Int)) (by omega) rfl hx0)) (o1 (ob_slen (n := (ByteArray.size (s0 ++ (⟨#[32]⟩ : ByteArray)) + ByteArray.size a0)) (by have hq0 : ByteArray.size (⟨#[32]⟩ : ByteArray) = 1 := rfl; unfold maxLen; first | omega | (simp only [ByteArray.size_append]; omega)))))) ?_
  refine rk Qb [(11, .i ((k0 + 1 : Nat) : Int))] [11] [] [] [(1, .val (.i ((k0 + 1 : Nat) : Int)))] (o1 (Qf (av_i (wrap_succ k0 (by omega))))) ?_
  exact Exists.intro ((s0 ++ (⟨#[32]⟩ : ByteArray)) ++ a0) (And.intro (Qc (by kernel_rfl)) ⟨forL_next hx0 (rfl) hI0.1, (by have hq : ByteArray.size (⟨#[32]⟩ : ByteArray) = 1 := rfl; simp only [ByteArray.size_append]; omega)⟩)
 ·
  have hA0_0 := hI0.2
  refine Qa ?_
  refine Qa ?_
  refine rk Qb [(25, .b false)] [] [] [] [(2, .val (.i ((specEntryNames (specVisibleStore s_ u) (specListDir s_ d u name)).length : Int))), (3, .val (.b false))] (o2 (Qf (av_len (specEntryNames (specVisibleStore s_ u) (specListDir s_ d u name)))) (o1 (Qf (Qe (decide_eq_false (p := ((k0 : Nat) : Int) < ((specEntryNames (specVisibleStore s_ u) (specListDir s_ d u name)).length : Int)) (by omega)))))) ?_
  refine ckF ?_
  refine awp_exit ?_
  exact Exists.intro s0 (And.intro (Qc (by kernel_rfl)) (forL_end hk0 (rfl) hI0.1))
 ·
  refine Qa ?_
  refine rk Qb [(8, .s y0)] [8, 9] [] [] [] (o0) ?_
  refine Qh ?_
  exact pret [] (congrArg (fun z => (.s z : AV)) (show specl32Line s_ d u name = y0 from on_b hD0 (rfl)).symm)
def specRenderView_f0 (s_ : StoreD) (d : (List DirD)) (u : Int) (_ : Nat) (a0 : DirD) (s0 : (List ByteArray)) : Rd ((List ByteArray)) ((List ByteArray)) ((List ByteArray)) := (.next (s0 ++ [(specl32Line s_ d u a0.1)]))
def specRenderView_e0 (_ : Nat) (s0 : (List ByteArray)) : (List ByteArray) := s0
def specRenderView (s_ : StoreD) (d : (List DirD)) (u : Int) : (List ByteArray) := (bif (!(((specEvaluateForUser s_ d u)).2)) then [] else (Out.on (forL (specRenderView_f0 s_ d u) specRenderView_e0 d 0 []) (fun y0 => y0)))
theorem specRenderView_a (s_ : StoreD) (d : (List DirD)) (u : Int) (hp : GoD.size s_ ≤ 268435456) (hd : GoD.size d ≤ 268435456) : ACalls Tryz.prog 6 [.a [.h s_.1, .h s_.2.1, .i s_.2.2], .h d, .i u] (.o 0 (specRenderView s_ d u)) := by
 refine acalls_of (tt := tt) Qb Tryz.func6 (fn := Tryz.f6) rfl (by unfold FnOk; kernel_rfl) (Nat.le_of_ble_eq_true rfl) fun w0 F0 hG => ?_
 refine Qa ?_
 refine rk Qb [(3, .p 3 0), (6, .e 0)] [0] [(3, [.h s_.1, .h s_.2.1, .i s_.2.2])] [] [] (o0) ?_
 refine Qa ?_
 refine rk Qb [(7, .one (.slc (.own true 704) 1 []))] [] [] [] [] (o0) ?_
 refine Qa ?_
 refine Qa ?_
 refine rk Qb [(9, .b (((specEvaluateForUser s_ d u)).2))] [] [] [] [(3, .val (.tup [(false, [.o 0 (((specEvaluateForUser s_ d u)).1)]), (false, [.b (((specEvaluateForUser s_ d u)).2)])]))] (o1 (Qd (specEvaluateForUser_a s_ d u))) ?_
 refine Qa ?_
 refine rk Qb [(20, .b (!(((specEvaluateForUser s_ d u)).2)))] [9] [] [] [] (o0) ?_
 refine ck (!(((specEvaluateForUser s_ d u)).2)) (fun h1 => ?_) (fun h1 => ?_)
 ·
  refine Qa ?_
  refine rk Qb [(6, .one (.slc (.own true 704) 1 []))] [6, 20] [] [] [] (o0) ?_
  refine Qh ?_
  exact pret [] (congrArg (fun z => (.o 0 z : AV)) (show specRenderView s_ d u = [] from bif_t h1 (rfl)).symm)
 ·
  refine Qg ?_
  refine Qa ?_
  refine Qa ?_
  refine rk Qb [(10, .i 0)] [20] [] [] [] (o0) ?_
  refine wdT 1 0 .sh d (fun hw2 => ?_)
  have hl3 : List.length d ≤ 1073741824 := wide_len (hw2)
  refine blk (fun (k0 : Nat) (s0 : (List ByteArray)) => [(7, .o 147204 s0), (10, .i ((k0 : Nat) : Int))]) [7, 10] (fun k0 s0 => []) [] (fun (y0 : (List ByteArray)) => [(7, .o 147354 y0)]) [1, 2, 3, 7, 10] (fun y0 => []) [3] (fun (k0 : Nat) (s0 : (List ByteArray)) => (forL (specRenderView_f0 s_ d u) specRenderView_e0 d 0 []) = forL (specRenderView_f0 s_ d u) specRenderView_e0 (List.drop k0 d) k0 s0 ∧ List.length s0 ≤ k0) (fun (y0 : (List ByteArray)) => (forL (specRenderView_f0 s_ d u) specRenderView_e0 d 0 []) = .brk y0) d.length [] (weak_sf [(704, 147204)] (by kernel_rfl)) ⟨rfl, (by simp)⟩ (fun k0 s0 hk0 hI0 => ?_) (fun k0 s0 hk0 hI0 => ?_) (fun y0 hD0 => ?_)
  ·
   have hA0_0 := hI0.2
   obtain ⟨a0, hx0⟩ := get_some (l := d) (i := k0) hk0
   refine Qa ?_
   refine Qa ?_
   refine rk Qb [(25, .b true)] [] [] [] [(2, .val (.i (d.length : Int))), (3, .val (.b true))] (o2 (Qf (av_len d)) (o1 (Qf (Qe (decide_eq_true (p := ((k0 : Nat) : Int) < (d.length : Int)) (by omega)))))) ?_
   refine ckT ?_
   refine Qg ?_
   refine Qa ?_
   refine awp_block ?_
   refine wdT 7 0 (.own true 147204) s0 (fun hw4 => ?_)
   have hl5 : List.length s0 ≤ 1073741824 := wide_len (hw4)
   refine rd' Qb tt_mx [(7, .one (.slc (.own true 2496) 1 ((eL s0) ++ [[.s (specl32Line s_ d u a0.1)]])))] [7, 25] [] [] [(6, .row [.s a0.1, .h a0.2]), (9, .val (.s (specl32Line s_ d u a0.1)))] (o2 (ob_elem (el_of (i := ((k0 : Nat) : Int)) (by omega) rfl hx0)) (o2 (Qd (specl32Line_a s_ d u a0.1 (by omega) (by have hz := dir_name hx0; omega))) (o1 (ob_len (len_of (eL_length s0) (eL_length [(specl32Line s_ d u a0.1)]) (by first | omega | (simp; omega) | simp)))))) ?_
   refine eqn [(7, .o 2496 (s0 ++ [(specl32Line s_ d u a0.1)]))] [7] [] [] (by rw [show ((eL s0) ++ [[.s (specl32Line s_ d u a0.1)]]) = (eL (s0 ++ [(specl32Line s_ d u a0.1)])) from app_eL (rfl) (rfl)]; first | done | kernel_rfl) ?_
   refine rk Qb [(10, .i ((k0 + 1 : Nat) : Int))] [10] [] [] [(1, .val (.i ((k0 + 1 : Nat) : Int)))] (o1 (Qf (av_i (wrap_succ k0 (by omega))))) ?_
   exact Exists.intro (s0 ++ [(specl32Line s_ d u a0.1)]) (And.intro (weak_sf [(2496, 147204)] (by kernel_rfl)) ⟨forL_next hx0 (rfl) hI0.1, by first | omega | (simp; omega) | simp⟩)
  ·
   have hA0_0 := hI0.2
   refine Qa ?_
   refine Qa ?_
   refine rk Qb [(25, .b false)] [] [] [] [(2, .val (.i (d.length : Int))), (3, .val (.b false))] (o2 (Qf (av_len d)) (o1 (Qf (Qe (decide_eq_false (p := ((k0 : Nat) : Int) < (d.length : Int)) (by omega)))))) ?_
   refine ckF ?_
   refine awp_exit ?_
   exact Exists.intro s0 (And.intro (weak_sf [(147204, 147354)] (by kernel_rfl)) (forL_end hk0 (rfl) hI0.1))
  ·
   refine Qa ?_
   refine rk Qb [(6, .o 147354 y0)] [6, 7] [] [] [] (o0) ?_
   refine Qh ?_
   exact pret [] (congrArg (fun z => (.o 0 z : AV)) (show specRenderView s_ d u = y0 from bif_f h1 (on_b hD0 (rfl))).symm)
end Go.Proofs.YtnhmnfmhnepjmaaGreatDoor
namespace Go.Proofs.YtnhmnfmhnepjmaaGreatDoor
open Go.RowKit
theorem line_eq (s : StoreD) (d : List DirD) (u : Int) (n : ByteArray) : specl32Line s d u n = implviewLine s d u n := by
  unfold specl32Line implviewLine
  rw [visible_eq, listDir_eq, entryNames_eq, forL_ext (f := specl32Line_f0) (g := implviewLine_f0) (e := specl32Line_e0) (e' := implviewLine_e0) (fun k a t => by
    unfold specl32Line_f0 implviewLine_f0
    rw [ByteArray.append_assoc]) (fun _ _ => rfl)]
theorem renderView_eq (s : StoreD) (d : List DirD) (u : Int) : specRenderView s d u = implRenderView s d u := by
  unfold specRenderView implRenderView
  rw [evalUser_eq, forL_ext (f := specRenderView_f0 s d u) (g := implRenderView_f0 s d u) (e := specRenderView_e0) (e' := implRenderView_e0) (fun k a t => by
    unfold specRenderView_f0 implRenderView_f0
    rw [line_eq]) (fun _ _ => rfl)]
theorem line_grow {K : Nat} : ∀ (l : List ByteArray) (k : Nat) (t : ByteArray), (∀ x, x ∈ l → x.size + 1 ≤ K) → ∃ r, forL implviewLine_f0 implviewLine_e0 l k t = .brk r ∧ r.size ≤ t.size + l.length * K
  | [], k, t, _ => ⟨t, rfl, by simp⟩
  | a :: l, k, t, h => by
    have ha := h a (List.mem_cons_self ..)
    have hq : ByteArray.size (⟨#[32]⟩ : ByteArray) = 1 := rfl
    obtain ⟨r, h1, h2⟩ := line_grow l (k + 1) (t ++ ((⟨#[32]⟩ : ByteArray) ++ a)) fun x hx => h x (List.mem_cons_of_mem _ hx)
    refine ⟨r, h1, ?_⟩
    rw [ByteArray.size_append, ByteArray.size_append] at h2
    rw [List.length_cons, Nat.add_mul, Nat.one_mul]
    omega
theorem line_size {s : StoreD} (d : List DirD) (u : Int) (n : ByteArray) (hs : GoD.size s ≤ 1048576) : (implviewLine s d u n).size ≤ n.size + 12 * 1048602 := by
  obtain ⟨h1, h2⟩ := line_ok s d u n
  unfold implviewLine
  obtain ⟨K, hK⟩ : ∃ K : Nat, K = 1048602 := ⟨_, rfl⟩
  obtain ⟨r, h3, h4⟩ := line_grow (K := K) (implEntryNames (implVisibleStore s u) (implListDir s d u n)) 0 n fun x hx => by
    obtain ⟨i, hi⟩ := List.getElem?_of_mem hx
    have := h2 i x hi
    omega
  rw [h3]
  simp only [Out.on]
  have := Nat.mul_le_mul_right K h1
  omega
theorem view_grow {s : StoreD} {d0 : List DirD} {u : Int} {K : Nat} (hK : K = 12 * 1048602) (hs : GoD.size s ≤ 1048576) : ∀ (l : List DirD) (k : Nat) (t : List ByteArray), ∃ r, forL (implRenderView_f0 s d0 u) implRenderView_e0 l k t = .brk r ∧ GoD.size r ≤ GoD.size t + GoD.size l + l.length * K + l.length
  | [], k, t => ⟨t, rfl, by simp⟩
  | a :: l, k, t => by
    obtain ⟨r, h1, h2⟩ := view_grow hK hs l (k + 1) (t ++ [implviewLine s d0 u a.1])
    refine ⟨r, h1, ?_⟩
    have hl := line_size d0 u a.1 hs
    have e : GoD.size (a :: l) = GoD.size [a] + GoD.size l := size_app [a] l
    rw [size_one] at e
    have ea : GoD.size a = a.1.size + GoD.size a.2 := rfl
    have el : GoD.size (implviewLine s d0 u a.1) = (implviewLine s d0 u a.1).size := rfl
    rw [size_app, size_one] at h2
    rw [List.length_cons, Nat.add_mul, Nat.one_mul]
    omega
theorem renderView_size (s : StoreD) (d : List DirD) (u : Int) (hs : GoD.size s ≤ 1048576) (hd : GoD.size d ≤ 1048576) : GoD.size (implRenderView s d u) ≤ 1073741824 := by
  unfold implRenderView
  cases ho : ((implEvaluateForUser s d u)).2 with
  | false => exact Nat.zero_le _
  | true =>
    simp only [Bool.not_true, cond_false]
    obtain ⟨K, hK⟩ : ∃ K : Nat, K = 12 * 1048602 := ⟨_, rfl⟩
    obtain ⟨r, h1, h2⟩ := view_grow (d0 := d) (u := u) hK hs d 0 []
    rw [h1]
    simp only [Out.on]
    have h5 : d.length ≤ 5 := by
      unfold implEvaluateForUser at ho
      cases hc : ((!(implIsValidStore s)) || (!(implisUser u))) with
      | true => rw [hc] at ho; simp at ho
      | false => rw [hc] at ho; exact (evaluate_ok ho).1
    have := Nat.mul_le_mul_right K h5
    have e0 : GoD.size ([] : List ByteArray) = 0 := rfl
    omega
end Go.Proofs.YtnhmnfmhnepjmaaGreatDoor
namespace Go.Proofs.YtnhmnfmhnepjmaaGreatDoor
open Go.RowKit
open GoD (rd own)
open GoE (enc wide)
def szI (t : Nat) (left : Int) : Int := bif decide ((t : Int) ≤ left) then left - t else -1
theorem szI_of {t : Nat} {left r : Int} (h : szq t left r) : r = szI t left := by
  unfold szq at h
  unfold szI
  by_cases hc : (t : Int) ≤ left
  · rw [decide_eq_true hc]; simp only [cond_true]; omega
  · rw [decide_eq_false hc]; simp only [cond_false]; omega
theorem szI_bd (t : Nat) (left : Int) : szI t left < 0 ∨ (0 ≤ szI t left ∧ szI t left = left - t ∧ (t : Int) ≤ left) := by
  by_cases hc : (t : Int) ≤ left
  · have : szI t left = left - t := by unfold szI; rw [decide_eq_true hc]; rfl
    omega
  · have : szI t left = -1 := by unfold szI; rw [decide_eq_false hc]; rfl
    omega
theorem szI_in (t : Nat) {left : Int} (h0 : 0 ≤ left) (h1 : left ≤ 1048576) : InR .i64 (szI t left) := by
  rw [inR_i64]; unfold I64
  by_cases hc : (t : Int) ≤ left
  · have : szI t left = left - t := by unfold szI; rw [decide_eq_true hc]; rfl
    omega
  · have : szI t left = -1 := by unfold szI; rw [decide_eq_false hc]; rfl
    omega
section
variable {α : Type} [GoE α] {P : Program} {f : Nat}
theorem argA_rd {F : Nat → Prop} {w : World} {v : Value} {a : α} (h : AR (argJ F) w v (argA a)) : ∃ cs : List Value, v = .agg cs.toArray ∧ rd w cs a := by
  obtain ⟨vs, rfl, hr⟩ := h
  exact ⟨vs, rfl, GoE.vc_rd (sh_vc hr)⟩
theorem argA_wide {F : Nat → Prop} {w : World} {v : Value} {a : α} (h : AR (argJ F) w v (argA a)) : wide a := by
  obtain ⟨vs, rfl, hr⟩ := h
  exact GoE.vc_wide (sh_vc hr)
theorem argS_rd {F : Nat → Prop} {w : World} {v : Value} {l : List α} (h : AR (argJ F) w v (argS l)) : rd w [v] l := vv_rdS h
theorem aret_pure {F : Nat → Prop} {w w' : World} {v : Value} {r : AV} (hb : Below w.heap.size w w') (hr : ∀ J, AR J w' v r) : ARet F w r (.returned v) w' :=
  ⟨v, fun _ => [], rfl, hb, fun _ => List.nodup_nil, (fun _ _ h => by simp at h), (fun _ _ _ h => by simp at h), hr _⟩
theorem acalls_szA (hok : FnOk P f) {a : α} {left : Int} (h0 : 0 ≤ left) (h1 : left ≤ 1048576) (h : ∀ w (cs : List Value), rd w cs a → Calls P f #[.agg cs.toArray, .int .i64 left] w (RetSz w (GoD.size a) left)) : ACalls P f [argA a, intA left] (intA (szI (GoD.size a) left)) := by
  refine ⟨hok, fun w _ F vals hF hall => ?_⟩
  cases hall with
  | cons h2 h3 => cases h3 with
    | cons h3 h4 =>
      cases h4
      obtain ⟨cs, rfl, hr⟩ := argA_rd h2
      obtain ⟨rfl, _⟩ := h3
      refine (h w cs hr).mono ?_
      rintro e w' ⟨r, rfl, hq, hb⟩
      exact aret_pure hb fun J => ⟨by rw [szI_of hq], szI_in _ h0 h1⟩
theorem acalls_szS (hok : FnOk P f) {l : List α} {left : Int} (h0 : 0 ≤ left) (h1 : left ≤ 1048576) (h : ∀ w (v : Value), rd w [v] l → Calls P f #[v, .int .i64 left] w (RetSz w (GoD.size l) left)) : ACalls P f [argS l, intA left] (intA (szI (GoD.size l) left)) := by
  refine ⟨hok, fun w _ F vals hF hall => ?_⟩
  cases hall with
  | cons h2 h3 => cases h3 with
    | cons h3 h4 =>
      cases h4
      obtain ⟨rfl, _⟩ := h3
      refine (h w _ (argS_rd h2)).mono ?_
      rintro e w' ⟨r, rfl, hq, hb⟩
      exact aret_pure hb fun J => ⟨by rw [szI_of hq], szI_in _ h0 h1⟩
theorem acalls_eqA (hok : FnOk P f) {a b : α} (he : a = b) (h : ∀ w (ca cb : List Value), rd w ca a → rd w cb b → Calls P f #[.agg ca.toArray, .agg cb.toArray] w (Ret w (.bool (eqb a b)))) : ACalls P f [argA a, argA b] (boolA true) := by
  refine ⟨hok, fun w _ F vals hF hall => ?_⟩
  cases hall with
  | cons h2 h3 => cases h3 with
    | cons h3 h4 =>
      cases h4
      obtain ⟨ca, rfl, ha⟩ := argA_rd h2
      obtain ⟨cb, rfl, hcb⟩ := argA_rd h3
      refine (h w ca cb ha hcb).mono ?_
      rintro e w' ⟨rfl, hb⟩
      subst he
      exact aret_pure hb fun J => by rw [eqb_refl]; rfl
theorem acalls_eqS (hok : FnOk P f) {a b : List α} (he : a = b) (h : ∀ w (u v : Value), rd w [u] a → rd w [v] b → Calls P f #[u, v] w (Ret w (.bool (eqb a b)))) : ACalls P f [argS a, argS b] (boolA true) := by
  refine ⟨hok, fun w _ F vals hF hall => ?_⟩
  cases hall with
  | cons h2 h3 => cases h3 with
    | cons h3 h4 =>
      cases h4
      refine (h w _ _ (argS_rd h2) (argS_rd h3)).mono ?_
      rintro e w' ⟨rfl, hb⟩
      subst he
      exact aret_pure hb fun J => by rw [eqb_refl]; rfl
theorem acalls_heS (hok : FnOk P f) {l : List α} {K R : Int} (hR : InR .i64 R) (h : ∀ w (v : Value), rd w [v] l → Calls P f #[v, .int .i64 K] w (Ret w (.int .i64 R))) : ACalls P f [argS l, intA K] (intA R) := by
  refine ⟨hok, fun w _ F vals hF hall => ?_⟩
  cases hall with
  | cons h2 h3 => cases h3 with
    | cons h3 h4 =>
      cases h4
      obtain ⟨rfl, _⟩ := h3
      refine (h w _ (argS_rd h2)).mono ?_
      rintro e w' ⟨rfl, hb⟩
      exact aret_pure hb fun J => ⟨rfl, hR⟩
end
/-! ### copies -/
theorem oc_ow {w : World} : ∀ {ps : List PV} {vs : List Value} {L : List Nat} (k : Nat), OC w L vs ps → L.Nodup → ∃ Lf : Nat → List Nat, (∀ J : Inj, (∀ j, k ≤ j → J.L j = Lf j) → All2 (CR J w) vs (owC k ps)) ∧ (∀ j, (Lf j).Nodup) ∧ (∀ j b, b ∈ Lf j → b ∈ L) ∧ ∀ i j b, b ∈ Lf i → b ∈ Lf j → i = j
  | [], vs, L, k, h, hn => by
    cases h
    exact ⟨fun _ => [], fun _ _ => .nil, fun _ => List.nodup_nil, fun _ _ h => by simp at h, fun _ _ _ h => by simp at h⟩
  | p :: ps, vs, L, k, h, hn => by
    cases h with
    | @cons L1 L2 v p vs ps h1 h2 =>
      obtain ⟨n1, n2, n3⟩ := List.nodup_append.1 hn
      cases p with
      | int a b =>
        obtain ⟨Lf, q1, q2, q3, q4⟩ := oc_ow k h2 n2
        exact ⟨Lf, fun J hJ => .cons (by cases h1; exact ⟨rfl, ‹_›⟩) (q1 J hJ), q2, fun j b hb => List.mem_append_right _ (q3 j b hb), q4⟩
      | bool b =>
        obtain ⟨Lf, q1, q2, q3, q4⟩ := oc_ow k h2 n2
        exact ⟨Lf, fun J hJ => .cons (by cases h1; rfl) (q1 J hJ), q2, fun j b hb => List.mem_append_right _ (q3 j b hb), q4⟩
      | str s =>
        obtain ⟨Lf, q1, q2, q3, q4⟩ := oc_ow k h2 n2
        exact ⟨Lf, fun J hJ => .cons (by cases h1; exact ⟨rfl, ‹_›⟩) (q1 J hJ), q2, fun j b hb => List.mem_append_right _ (q3 j b hb), q4⟩
      | slc n l =>
        obtain ⟨Lf, q1, q2, q3, q4⟩ := oc_ow (k + 1) h2 n2
        refine ⟨fun j => if j = k then L1 else if k < j then Lf j else [], fun J hJ => .cons ?_ (q1 J fun j hj => ?_), fun j => ?_, fun j b hb => ?_, fun i j b hi hj => ?_⟩
        · show OwnDeep (J.L k) w v n l
          have e : J.L k = L1 := (hJ k (Nat.le_refl _)).trans (if_pos rfl)
          rw [e]
          exact .of h1 n1
        · exact (hJ j (by omega)).trans ((if_neg (by omega)).trans (if_pos (by omega)))
        · show (if j = k then L1 else if k < j then Lf j else []).Nodup
          split
          · exact n1
          · split
            · exact q2 j
            · exact List.nodup_nil
        · have hb : b ∈ (if j = k then L1 else if k < j then Lf j else []) := hb
          split at hb
          · exact List.mem_append_left _ hb
          · split at hb
            · exact List.mem_append_right _ (q3 j b hb)
            · simp at hb
        · have hi : b ∈ (if i = k then L1 else if k < i then Lf i else []) := hi
          have hj : b ∈ (if j = k then L1 else if k < j then Lf j else []) := hj
          split at hi <;> split at hj
          · omega
          · split at hj
            · exact (n3 b hi b (q3 j b hj) rfl).elim
            · simp at hj
          · split at hi
            · exact (n3 b hj b (q3 i b hi) rfl).elim
            · simp at hi
          · split at hi
            · split at hj
              · exact q4 i j b hi hj
              · simp at hj
            · simp at hi
section
variable {α : Type} [GoE α] {P : Program} {f : Nat}
theorem acalls_toA (hok : FnOk P f) {a : α} (h : ∀ w (cs : List Value), rd w cs a → Calls P f #[.agg cs.toArray] w (RetA w a)) : ACalls P f [argA a] (resA a) := by
  refine ⟨hok, fun w _ F vals hF hall => ?_⟩
  cases hall with
  | cons h2 h3 =>
    cases h3
    have hw := argA_wide h2
    obtain ⟨cs, rfl, hr⟩ := argA_rd h2
    refine (h w cs hr).mono ?_
    rintro e w' ⟨cs', L, rfl, hb, ho, hL⟩
    have hlt := GoD.own_lt ho
    obtain ⟨Lf, q1, q2, q3, q4⟩ := oc_ow 0 (GoE.own_oc ho hw) (GoD.own_nd ho)
    exact ⟨_, Lf, rfl, hb, q2, fun k b hk => ⟨hL b (q3 k b hk), hlt b (q3 k b hk)⟩, q4, cs', rfl, q1 _ fun _ _ => rfl⟩
theorem acalls_toS (hok : FnOk P f) {l : List α} (h : ∀ w (v : Value), rd w [v] l → Calls P f #[v] w (RetS w l)) : ACalls P f [argS l] (resS l) := acalls_retS hok (fun w v hr _ => h w v hr) id
end
/-! ### marks -/
def MarkA (P : Program) (f : Nat) {α : Type} [GoE α] (a : α) (K : Int) (r : α × Nat) : Prop := FnOk P f ∧ ∀ (w : World) (L : List Nat) (cs : List Value), own L w cs a → Calls P f #[.agg cs.toArray, .int .i64 K] w (MarkR L w cs r)
def MarkS (P : Program) (f : Nat) {α : Type} [GoE α] (l : List α) (K : Int) (r : List α × Nat) : Prop := FnOk P f ∧ ∀ (w : World) (L : List Nat) (v : Value), own L w [v] l → Calls P f #[v, .int .i64 K] w (MarkR L w [v] r)
def nmC : List Nat → List PV → Option (List C)
  | [], [] => some []
  | _, [] => none
  | k :: ks, .slc n l :: r => (nmC ks r).map (C.slc (.own true k) n l :: ·)
  | [], .slc _ _ :: _ => none
  | ks, .int a b :: r => (nmC ks r).map (C.int a b :: ·)
  | ks, .bool b :: r => (nmC ks r).map (C.bool b :: ·)
  | ks, .str s :: r => (nmC ks r).map (C.str s :: ·)
theorem nm_oc {J : Inj} {w : World} (hd : ∀ k k' b, b ∈ J.L k → b ∈ J.L k' → k = k') : ∀ {ps : List PV} {ks : List Nat} {cs : List C} {vs : List Value}, nmC ks ps = some cs → ks.Nodup → All2 (CR J w) vs cs → ∃ L, OC w L vs ps ∧ L.Nodup ∧ ∀ b, b ∈ L → ∃ k, k ∈ ks ∧ b ∈ J.L k
  | [], [], cs, vs, h, _, ha => by
    obtain rfl : [] = cs := by simpa [nmC] using h
    cases ha
    exact ⟨[], .nil, List.nodup_nil, fun _ h => by simp at h⟩
  | [], k :: ks, cs, vs, h, _, ha => by simp [nmC] at h
  | .int a b :: ps, ks, cs, vs, h, hn, ha => by
    have h : (nmC ks ps).map (C.int a b :: ·) = some cs := by cases ks <;> exact h
    obtain ⟨cs', h', rfl⟩ := Option.map_eq_some_iff.1 h
    cases ha with
    | cons h1 h2 => obtain ⟨rfl, h1⟩ := h1; obtain ⟨L, q1, q2, q3⟩ := nm_oc hd h' hn h2; exact ⟨L, OC.cons (L1 := []) (.int h1) q1, q2, q3⟩
  | .bool b :: ps, ks, cs, vs, h, hn, ha => by
    have h : (nmC ks ps).map (C.bool b :: ·) = some cs := by cases ks <;> exact h
    obtain ⟨cs', h', rfl⟩ := Option.map_eq_some_iff.1 h
    cases ha with
    | cons h1 h2 => obtain rfl := h1; obtain ⟨L, q1, q2, q3⟩ := nm_oc hd h' hn h2; exact ⟨L, OC.cons (L1 := []) (.bool _) q1, q2, q3⟩
  | .str s :: ps, ks, cs, vs, h, hn, ha => by
    have h : (nmC ks ps).map (C.str s :: ·) = some cs := by cases ks <;> exact h
    obtain ⟨cs', h', rfl⟩ := Option.map_eq_some_iff.1 h
    cases ha with
    | cons h1 h2 => obtain ⟨rfl, h1⟩ := h1; obtain ⟨L, q1, q2, q3⟩ := nm_oc hd h' hn h2; exact ⟨L, OC.cons (L1 := []) (.str h1) q1, q2, q3⟩
  | .slc n l :: ps, [], cs, vs, h, _, ha => by simp [nmC] at h
  | .slc n l :: ps, k :: ks, cs, vs, h, hn, ha => by
    simp only [nmC] at h
    obtain ⟨cs', h', rfl⟩ := Option.map_eq_some_iff.1 h
    obtain ⟨hk, hn⟩ := List.nodup_cons.1 hn
    cases ha with
    | cons h1 h2 =>
      obtain ⟨L, q1, q2, q3⟩ := nm_oc hd h' hn h2
      obtain ⟨L0, a1, a2, a3, _⟩ := h1
      refine ⟨L0 ++ L, OC.cons a1 q1, List.nodup_append.2 ⟨a2, q2, fun b hb b' hb' e => ?_⟩, fun b hb => ?_⟩
      · subst e
        obtain ⟨k', hk', hm⟩ := q3 b hb'
        exact hk (hd _ _ b (a3 b hb) hm ▸ hk')
      · rcases List.mem_append.1 hb with hb | hb
        · exact ⟨k, List.mem_cons_self, a3 b hb⟩
        · obtain ⟨k', hk', hm⟩ := q3 b hb
          exact ⟨k', List.mem_cons_of_mem _ hk', hm⟩
section
variable {P : Program} {N : Nat} {w0 : World} {F0 : Nat → Prop} {J : Inj} {a : Act} {w w' : World} {s : St}
theorem Rel.mark (h : Rel N w0 F0 J a w s) (ks : List Nat) {L : List Nat} (hL : ∀ b, b ∈ L → ∃ k, k ∈ ks ∧ b ∈ J.L k) (hc : Chg L w w') (d : Nat) (hd : d < N) (n : Int) (hn : InR .i64 n) (bx : Option (Nat × List C))
    (hb : ∀ k c, bx = some (k, c) → ∃ c0, get s.bx k = some c0 ∧ ∃ arr e, w.heap[J.B k]? = some (.cells arr e (0, 0)) ∧ ∀ J' : Inj, (∀ b, J'.F b ↔ J.F b ∨ b ∈ L) → All2 (CR J' w') arr.toList c) :
    ∃ J', (∀ b, J'.F b ↔ J.F b ∨ b ∈ L) ∧ (∀ k, J'.B k = J.B k) ∧ Rel N w0 F0 J' (a.put (some d) (.int .i64 n)) w' (s.step (some d) ⟨.one (.int .i64 n), killAll ks, none, bx⟩) := by
  let J' : Inj := ⟨fun b => J.F b ∨ b ∈ L, fun k => if k ∈ ks then [] else J.L k, J.B⟩
  have hlo : ∀ b, b ∈ L → w0.heap.size ≤ b ∧ b < w.heap.size ∧ ¬ J.F b := fun b hb => by
    obtain ⟨k, _, hm⟩ := hL b hb
    exact h.lo k b hm
  have hun : ∀ b, b < w.heap.size → b ∉ L → w'.heap[b]? = w.heap[b]? := hc.block
  have hJL : ∀ k b, b ∈ J'.L k → k ∉ ks ∧ b ∈ J.L k := fun k b hm => by
    have hm : b ∈ (if k ∈ ks then [] else J.L k) := hm
    split at hm
    · simp at hm
    · rename_i hk; exact ⟨hk, hm⟩
  have hout : ∀ k b, k ∉ ks → b ∈ J.L k → b ∉ L := fun k b hk hm hl => by
    obtain ⟨k', hk', hm'⟩ := hL b hl
    exact hk (h.dj k k' b hm hm' ▸ hk')
  have hboxL : ∀ k c, get s.bx k = some c → J.B k ∉ L := fun k c hk hl => by
    obtain ⟨k', _, hm⟩ := hL _ hl
    exact (h.bo k c hk).2.2.1 k' hm
  refine ⟨J', fun b => Iff.rfl, fun _ => rfl, ?_⟩
  refine h.upd (w' := w') (J' := J') (some d) (fun d' e => by cases e; exact hd) _ _ (h.below.trans (hc.below h.below.size fun b hb => (hlo b hb).1)) ?_ ?_ (fun _ => ⟨rfl, hn⟩) ?_ ?_
  · constructor
    · exact fun b hb => ⟨.inl hb, hun b (h.fl b hb).1 fun hl => (hlo b hl).2.2 hb⟩
    · intro k hk
      rw [get_kill] at hk
      split at hk
      · cases hk
      · rename_i hn
        exact ⟨if_neg hn, fun b hb => hun b (h.lo k b hb).2.1 (hout k b hn hb)⟩
    · intro k hk; rw [get_kill] at hk; split at hk <;> cases hk
    · intro k k' hk; rw [get_kill] at hk; split at hk <;> cases hk
    · intro k t hk; rw [get_kill] at hk; split at hk <;> cases hk
    · exact fun _ _ => rfl
    · intro k d m i o cs hk; rw [get_kill] at hk; split at hk <;> cases hk
  · constructor
    · intro b hb
      rcases hb with hb | hb
      · exact ⟨Nat.lt_of_lt_of_le (h.fl b hb).1 hc.size, (h.fl b hb).2⟩
      · exact ⟨Nat.lt_of_lt_of_le (hlo b hb).2.1 hc.size, .inr (hlo b hb).1⟩
    · exact fun b hb => .inl (h.f0 b hb)
    · intro k
      show (if _ then _ else _ : List Nat).Nodup
      split
      · exact List.nodup_nil
      · exact h.nd k
    · intro k b hm
      obtain ⟨hk, hm⟩ := hJL k b hm
      obtain ⟨h1, h2, h3⟩ := h.lo k b hm
      exact ⟨h1, Nat.lt_of_lt_of_le h2 hc.size, fun hF => hF.elim h3 (hout k b hk hm)⟩
    · intro k k' b hm hm'
      exact h.dj k k' b (hJL k b hm).2 (hJL k' b hm').2
  · intro k c hk _
    obtain ⟨h1, h2, h3, arr, e, h4, _⟩ := h.bo k c hk
    refine ⟨by simp, fun hF => hF.elim h2 (hboxL k c hk), fun k' hm => h3 k' (hJL k' _ hm).2, hun _ ?_ (hboxL k c hk)⟩
    exact block_lt_of_heap h4
  · intro k c hk
    obtain ⟨c0, hg, arr, e, hh, hall⟩ := hb k c hk
    obtain ⟨h1, h2, h3, arr', e', h4, _⟩ := h.bo k c0 hg
    have hlt : J.B k < w.heap.size := block_lt_of_heap h4
    exact ⟨h1, fun hF => hF.elim h2 (hboxL k c0 hg), fun k' hm => h3 k' (hJL k' _ hm).2, ⟨arr, e, (hun _ hlt (hboxL k c0 hg)).trans hh, hall J' fun _ => Iff.rfl⟩, fun k' c' hk' hne e => hne (h.bi k' k c' c0 hk' hg e)⟩
theorem Rel.settm (h : Rel N w0 F0 J a w s) (t : Nat) (av : AV) (hv : AR J w (a.tmps.getD t undef) av) : Rel N w0 F0 J a w ⟨ins t av s.tm, s.bx⟩ := by
  refine { h with tm := fun u v hu => ?_ }
  simp only [get_ins] at hu
  split at hu
  · rename_i e; subst e; cases hu; exact hv
  · exact h.tm u v hu
theorem loadVar_agg {ti : TI} {t : Nat} (hti : TiOk P t ti) {vs : List Value} (hag : ti.agg = true) (hl : vs.length = ti.size) {b off : Nat} (hc : ∀ (j : Nat) (u : Value), vs[j]? = some u → w.cell? ⟨b, off + j, none⟩ = some u) : (loadVar t ⟨b, off, none⟩).run P w = .ok (.agg vs.toArray) w := by
  obtain ⟨d, hd, hagg⟩ := hti.agg
  have hld := run_loadCells_list (P := P) w ⟨b, off, none⟩ vs (fun j u hj => by rw [Addr.add_lit]; exact hc j u hj)
  rw [hl] at hld
  simp [loadVar, run_isAgg_of hd, hagg, hag, sizeOf_run hti, hld]
theorem getD_put {a : Act} {t u : Nat} {v : Value} (ht : t < a.tmps.size) : (a.put (some t) v).tmps.getD u undef = if u = t then v else a.tmps.getD u undef := by
  simp only [Act.put, Array.getD_eq_getD_getElem?, Array.getElem?_setIfInBounds]
  by_cases h : u = t
  · subst h; simp [ht]
  · simp [h, Ne.symm h]
end
class GoM (α : Type) [GoE α] : Prop where
  mkw : ∀ {a : α} {k : Nat}, wide a → wide (GoD.mark a k).1
  mkT : ∀ {a : α} {k : Nat}, wide a → wide (GoD.markT a k).1
instance : GoM Int := ⟨fun _ => trivial, fun _ => trivial⟩
instance : GoM Bool := ⟨fun _ => trivial, fun _ => trivial⟩
instance : GoM ByteArray := ⟨fun _ => trivial, fun _ => trivial⟩
instance {α β : Type} [GoE α] [GoE β] [GoM α] [GoM β] : GoM (α × β) := ⟨fun h => ⟨GoM.mkw h.1, GoM.mkw h.2⟩, fun h => ⟨GoM.mkT h.1, GoM.mkT h.2⟩⟩
theorem markS_wide {α : Type} [GoE α] [GoM α] : ∀ {l : List α} {k : Nat}, (∀ a, a ∈ l → wide a) → ∀ a, a ∈ (markS l k).1 → wide a
  | [], k, _, a, ha => by simp [markS] at ha
  | x :: l, k, h, a, ha => by
    simp only [markS, List.mem_cons] at ha
    rcases ha with rfl | ha
    · exact GoM.mkw (h x List.mem_cons_self)
    · exact markS_wide (fun a ha => h a (List.mem_cons_of_mem _ ha)) a ha
instance {α : Type} [GoE α] [GoM α] : GoM (List α) := ⟨fun {l k} h => ⟨by rw [show (GoD.mark l k).1 = (markS l k).1 from rfl, markS_length']; exact h.1, markS_wide h.2⟩, fun {l k} h => ⟨by rw [show (GoD.markT l k).1 = (markS l k).1 from rfl, markS_length']; exact h.1, markS_wide h.2⟩⟩
section
variable {P : Program} {N : Nat} {w0 : World} {F0 : Nat → Prop} {s s' : St} {Q : Exit → St → Prop}
theorem wpOps_one {ops : Array Oper} {Q : Exit → Act → World → Prop} {i : Nat} {rest : List Nat} {o : Oper} {a : Act} {w : World} (hi : ops[i]? = some o) (hg : o.guard = none) (h : o.wp P a w (wpOps P ops Q rest) Q) : wpOps P ops Q (i :: rest) a w := by
  rw [wpOps_cons]
  unfold wpOp
  simp only [hi]
  rw [if_pos (by simp [Region.wanted, hg])]
  exact .inl h
theorem sizePut {a : Act} {t : Nat} {v : Value} : (a.put (some t) v).tmps.size = a.tmps.size := by simp [Act.put]
def distinct4 (N x y d z p kv : Nat) : Bool := Nat.blt x N && Nat.blt y N && Nat.blt d N && Nat.blt z N && !Nat.beq kv x && !Nat.beq x y && !Nat.beq p x
theorem ne_of_nbeq {a b : Nat} (h : (!Nat.beq a b) = true) : a ≠ b := fun e => by subst e; simp at h
theorem awp_markA {tt : List (Nat × TI)} (htt : ttOk P tt = true) {α : Type} [GoE α] [GoM α] {a : α} {K : Int} {r : α × Nat} {f : Nat} (hm : MarkA P f a K r) (hr : InR .i64 (r.2 : Int)) (hrw : wide a → wide r.1) (ks : List Nat) {id x y d z p q kv t : Nat} {o0 o1 o2 o3 : Oper} {tys : Array TypeId} {ti : TI} {cs : List C} (ts bs : List Nat)
    (p0 : o0.op = .load t (.tmp p)) (d0 : o0.dst = some x) (g0 : o0.guard = none) (p1 : o1.op = .move (.tmp kv)) (d1 : o1.dst = some y) (g1 : o1.guard = none)
    (p2 : o2.op = .call ⟨.value (.func f), #[.tmp x, .tmp y], tys⟩) (d2 : o2.dst = some d) (g2 : o2.guard = none) (p3 : o3.op = .assign (.tmp d)) (d3 : o3.dst = some z) (g3 : o3.guard = none) (hN : distinct4 N x y d z p kv = true)
    (ht : get tt t = some ti) (hag : ti.agg = true) (hsz : Nat.beq ti.size (enc a).length = true) (hp : get s.tm p = some (.one (.ptr q 0))) (hb : get s.bx q = some cs) (hcs : nmC ks (enc a) = some cs) (hks : nodupN ks = true) (hk : get s.tm kv = some (.one (.int .i64 K)))
    (hs : ((((s.step (some x) ⟨.one .dead, [], none, none⟩).step (some y) ⟨.one .dead, [], none, none⟩).step (some d) ⟨.one (.int .i64 (r.2 : Int)), killAll ks, none, some (q, (enc r.1).map shC)⟩).step (some z) ⟨.one (.int .i64 (r.2 : Int)), [], none, none⟩).keep ts bs = s')
    (hQ : Q .normal s') : AWP P N w0 F0 (.region id #[o0, o1, o2, o3] false) Q s := fun J ac w hr0 => by
  simp only [distinct4, Bool.and_eq_true, Nat.blt_eq] at hN
  obtain ⟨⟨⟨⟨⟨⟨n1, n2⟩, n3⟩, n4⟩, n5⟩, n6⟩, n7⟩ := hN
  have n5 := ne_of_nbeq n5
  have n6 := ne_of_nbeq n6
  obtain ⟨_, _, _, arr, e, hheap, hall⟩ := hr0.bo q cs hb
  have hpv : ac.tmps.getD p undef = .pointer (some ⟨J.B q, 0, none⟩) := hr0.tm p _ hp
  obtain ⟨hkv, hKr⟩ : ac.tmps.getD kv undef = .int .i64 K ∧ InR .i64 K := hr0.tm kv _ hk
  obtain ⟨L, hoc, hnd, hsub⟩ := nm_oc hr0.dj hcs (nodupN_iff.1 hks) hall
  have hown : own L w arr.toList a := GoE.oc_own hoc hnd
  have hwa : wide a := GoE.vc_wide (hoc.vc (X := fun b => b ∈ L) fun _ h => h)
  have hlen : arr.toList.length = ti.size := by rw [hoc.length]; exact (Nat.eq_of_beq_eq_true hsz).symm
  have hld : (loadVar t ⟨J.B q, 0, none⟩).run P w = .ok (.agg arr) w := by
    have := loadVar_agg (P := P) (w := w) (ttOk_get htt ht) hag hlen (b := J.B q) (off := 0) (fun j u hj => by
      rw [Array.getElem?_toList] at hj
      simp [World.cell?, hheap, hj])
    simpa using this
  have hsx : x < ac.tmps.size := by rw [hr0.size]; exact n1
  have hsy : y < (ac.put (some x) (.agg arr)).tmps.size := by rw [sizePut, hr0.size]; exact n2
  have R1 := hr0.pure (some x) (fun d' e => by cases e; exact n1) (.one .dead) (.agg arr) (fun _ => trivial)
  have R2 := R1.pure (some y) (fun d' e => by cases e; exact n2) (.one .dead) (.int .i64 K) (fun _ => trivial)
  refine wp_region ?_
  show wpOps P _ _ [0, 1, 2, 3] ac w
  refine wpOps_one (o := o0) rfl g0 (wp_of_run (v := .agg arr) (w' := w) ?_ ?_)
  · have e1 : ac.eval (.tmp p) = .pointer (some ⟨J.B q, 0, none⟩) := hpv
    simp [execOp, p0, e1, Instr.loadAt, Instr.sureAddr, hld]
  rw [d0]
  refine wpOps_one (o := o1) rfl g1 (wp_of_run (v := .int .i64 K) (w' := w) ?_ ?_)
  · have e1 : (ac.put (some x) (.agg arr)).eval (.tmp kv) = .int .i64 K := (getD_put hsx).trans ((if_neg n5).trans hkv)
    simp [execOp, p1, e1]
  rw [d1]
  refine wpOps_one (o := o2) rfl g2 (wp_callV (caps := #[]) p2 rfl hm.1 ?_)
  have ex : ((ac.put (some x) (.agg arr)).put (some y) (.int .i64 K)).eval (.tmp x) = .agg arr := (getD_put hsy).trans ((if_neg n6).trans ((getD_put hsx).trans (if_pos rfl)))
  have ey : ((ac.put (some x) (.agg arr)).put (some y) (.int .i64 K)).eval (.tmp y) = .int .i64 K := (getD_put hsy).trans (if_pos rfl)
  have hargs : (#[Operand.tmp x, Operand.tmp y].map ((ac.put (some x) (.agg arr)).put (some y) (.int .i64 K)).eval ++ #[]) = #[.agg arr.toList.toArray, .int .i64 K] := by simp [ex, ey]
  rw [hargs]
  refine (hm.2 w L arr.toList hown).mono ?_
  rintro en w' ⟨rfl, ho, hc⟩
  have hwr := hrw hwa
  obtain ⟨J', hF, hB, R3⟩ := R2.mark ks hsub hc d n3 (r.2 : Int) hr (some (q, (enc r.1).map shC)) (fun k c hk => by
    cases hk
    refine ⟨cs, hb, arr, e, hheap, fun J' hF => ?_⟩
    exact sh_all ((GoE.own_oc ho hwr).vc fun b hb => (hF b).2 (.inr hb)))
  have R4 := R3.pure (some z) (fun d' e => by cases e; exact n4) (.one (.int .i64 (r.2 : Int))) (.int .i64 (r.2 : Int)) (fun _ => ⟨rfl, hr⟩)
  rw [d2]
  refine wpOps_one (o := o3) rfl g3 (wp_of_run (v := .int .i64 (r.2 : Int)) (w' := w') ?_ ?_)
  · have hsd : d < ((ac.put (some x) (.agg arr)).put (some y) (.int .i64 K)).tmps.size := by rw [sizePut, sizePut, hr0.size]; exact n3
    have e1 : (((ac.put (some x) (.agg arr)).put (some y) (.int .i64 K)).put (some d) (.int .i64 (r.2 : Int))).eval (.tmp d) = .int .i64 (r.2 : Int) := (getD_put hsd).trans (if_pos rfl)
    simp [execOp, p3, e1]
  rw [d3]
  subst hs
  exact ⟨J', _, R4.less (fun t v hv => get_keep hv) (fun k c hc => get_keep hc), hQ⟩
theorem awp_markS {α : Type} [GoE α] [GoM α] {l : List α} {K : Int} {r : List α × Nat} {f : Nat} (hm : MarkS P f l K r) (hr : InR .i64 (r.2 : Int)) (hrw : wide l → wide r.1) (k0 : Nat) {id x y d z p kv : Nat} {o0 o1 o2 o3 : Oper} {tys : Array TypeId} (ts bs : List Nat)
    (p0 : o0.op = .move (.tmp p)) (d0 : o0.dst = some x) (g0 : o0.guard = none) (p1 : o1.op = .move (.tmp kv)) (d1 : o1.dst = some y) (g1 : o1.guard = none)
    (p2 : o2.op = .call ⟨.value (.func f), #[.tmp x, .tmp y], tys⟩) (d2 : o2.dst = some d) (g2 : o2.guard = none) (p3 : o3.op = .assign (.tmp d)) (d3 : o3.dst = some z) (g3 : o3.guard = none) (hN : distinct4 N x y d z p kv = true) (hN2 : (!Nat.beq p y && !Nat.beq p d && !Nat.beq p z) = true)
    (hp : get s.tm p = some (.one (.slc (.own true k0) (GoD.n α) (eL l)))) (hk : get s.tm kv = some (.one (.int .i64 K)))
    (hs : (St.mk (ins p (.one (.slc .sh (GoD.n α) (eL r.1))) ((((s.step (some x) ⟨.one .dead, [], none, none⟩).step (some y) ⟨.one .dead, [], none, none⟩).step (some d) ⟨.one (.int .i64 (r.2 : Int)), killAll [k0], none, none⟩).step (some z) ⟨.one (.int .i64 (r.2 : Int)), [], none, none⟩).tm) ((((s.step (some x) ⟨.one .dead, [], none, none⟩).step (some y) ⟨.one .dead, [], none, none⟩).step (some d) ⟨.one (.int .i64 (r.2 : Int)), killAll [k0], none, none⟩).step (some z) ⟨.one (.int .i64 (r.2 : Int)), [], none, none⟩).bx).keep ts bs = s')
    (hQ : Q .normal s') : AWP P N w0 F0 (.region id #[o0, o1, o2, o3] false) Q s := fun J ac w hr0 => by
  simp only [distinct4, Bool.and_eq_true, Nat.blt_eq] at hN hN2
  obtain ⟨⟨⟨⟨⟨⟨n1, n2⟩, n3⟩, n4⟩, n5⟩, n6⟩, n7⟩ := hN
  have n5 := ne_of_nbeq n5
  have n6 := ne_of_nbeq n6
  have n7 := ne_of_nbeq n7
  have m1 := ne_of_nbeq hN2.1.1
  have m2 := ne_of_nbeq hN2.1.2
  have m3 := ne_of_nbeq hN2.2
  have hpv : CR J w (ac.tmps.getD p undef) (.slc (.own true k0) (GoD.n α) (eL l)) := hr0.tm p _ hp
  generalize hv : ac.tmps.getD p undef = v at hpv
  obtain ⟨hkv, hKr⟩ : ac.tmps.getD kv undef = .int .i64 K ∧ InR .i64 K := hr0.tm kv _ hk
  obtain ⟨L, hov, hnd, hsub, _⟩ := hpv
  have hown : own L w [v] l := ov_ownS hov hnd
  have hwl : wide l := vv_wide (hov.vv (X := fun b => b ∈ L) fun _ h => h)
  have hsx : x < ac.tmps.size := by rw [hr0.size]; exact n1
  have hsy : y < (ac.put (some x) v).tmps.size := by rw [sizePut, hr0.size]; exact n2
  have R1 := hr0.pure (some x) (fun d' e => by cases e; exact n1) (.one .dead) v (fun _ => trivial)
  have R2 := R1.pure (some y) (fun d' e => by cases e; exact n2) (.one .dead) (.int .i64 K) (fun _ => trivial)
  refine wp_region ?_
  show wpOps P _ _ [0, 1, 2, 3] ac w
  refine wpOps_one (o := o0) rfl g0 (wp_of_run (v := v) (w' := w) ?_ ?_)
  · have e1 : ac.eval (.tmp p) = v := hv
    simp [execOp, p0, e1]
  rw [d0]
  refine wpOps_one (o := o1) rfl g1 (wp_of_run (v := .int .i64 K) (w' := w) ?_ ?_)
  · have e1 : (ac.put (some x) v).eval (.tmp kv) = .int .i64 K := (getD_put hsx).trans ((if_neg n5).trans hkv)
    simp [execOp, p1, e1]
  rw [d1]
  refine wpOps_one (o := o2) rfl g2 (wp_callV (caps := #[]) p2 rfl hm.1 ?_)
  have ex : ((ac.put (some x) v).put (some y) (.int .i64 K)).eval (.tmp x) = v := (getD_put hsy).trans ((if_neg n6).trans ((getD_put hsx).trans (if_pos rfl)))
  have ey : ((ac.put (some x) v).put (some y) (.int .i64 K)).eval (.tmp y) = .int .i64 K := (getD_put hsy).trans (if_pos rfl)
  have hargs : (#[Operand.tmp x, Operand.tmp y].map ((ac.put (some x) v).put (some y) (.int .i64 K)).eval ++ #[]) = #[v, .int .i64 K] := by simp [ex, ey]
  rw [hargs]
  refine (hm.2 w L v hown).mono ?_
  rintro en w' ⟨rfl, ho, hc⟩
  have hwr := hrw hwl
  obtain ⟨J', hF, hB, R3⟩ := R2.mark [k0] (fun b hb => ⟨k0, by simp, hsub b hb⟩) hc d n3 (r.2 : Int) hr none (fun k c hk => by cases hk)
  have R4 := R3.pure (some z) (fun d' e => by cases e; exact n4) (.one (.int .i64 (r.2 : Int))) (.int .i64 (r.2 : Int)) (fun _ => ⟨rfl, hr⟩)
  have hsd : d < ((ac.put (some x) v).put (some y) (.int .i64 K)).tmps.size := by rw [sizePut, sizePut, hr0.size]; exact n3
  rw [d2]
  refine wpOps_one (o := o3) rfl g3 (wp_of_run (v := .int .i64 (r.2 : Int)) (w' := w') ?_ ?_)
  · have e1 : (((ac.put (some x) v).put (some y) (.int .i64 K)).put (some d) (.int .i64 (r.2 : Int))).eval (.tmp d) = .int .i64 (r.2 : Int) := (getD_put hsd).trans (if_pos rfl)
    simp [execOp, p3, e1]
  rw [d3]
  have hsz' : z < (((ac.put (some x) v).put (some y) (.int .i64 K)).put (some d) (.int .i64 (r.2 : Int))).tmps.size := by rw [sizePut, sizePut, sizePut, hr0.size]; exact n4
  have ep : ((((ac.put (some x) v).put (some y) (.int .i64 K)).put (some d) (.int .i64 (r.2 : Int))).put (some z) (.int .i64 (r.2 : Int))).tmps.getD p undef = v := by
    rw [getD_put hsz', if_neg m3, getD_put hsd, if_neg m2, getD_put hsy, if_neg m1, getD_put hsx, if_neg n7, hv]
  have hvv : VV J'.F w' v (.slc (GoD.n α) (eL r.1)) := by
    have := (GoE.own_oc ho hwr).vc (X := J'.F) fun b hb => (hF b).2 (.inr hb)
    exact VC.one this
  have R5 := R4.settm p (.one (.slc .sh (GoD.n α) (eL r.1))) (by rw [ep]; exact hvv)
  subst hs
  exact ⟨J', _, R5.less (fun t v hv => get_keep hv) (fun k c hc => get_keep hc), hQ⟩
end
end Go.Proofs.YtnhmnfmhnepjmaaGreatDoor
namespace Go.Proofs.YtnhmnfmhnepjmaaGreatDoor
open Go.RowKit
open GoD (rd own)
set_option maxRecDepth 100000 in
set_option maxHeartbeats 1000000 in
theorem szValue_c (w : World) (ca : List Value) (a : ValueD) (left : Int) (ha : rd w ca a) (h0 : 0 ≤ left) (h1 : left ≤ 1048576) : Calls Tryz.prog 86 #[.agg ca.toArray, .int .i64 left] w (RetSz w (GoD.size a) left) := by
  obtain ⟨a1, a2, a3⟩ := a
  obtain ⟨ac1, at1, rfl, ar1, ac2, at2, rfl, ar2, ar3⟩ := ha
  obtain ⟨rfl, ar1⟩ := ar1
  obtain ⟨rfl, ar2⟩ := ar2
  obtain ⟨rfl, ar3⟩ := ar3
  dsimp only [List.cons_append, List.nil_append] at *
  clear ar1
  clear ar2
  unfold maxLen at ar3
  have ar3 : a3.size ≤ 9223372036854775807 := by omega
  have hsz : GoD.size (a1, a2, a3) = (0 + (0 + a3.size)) := rfl
  have HSZ := Lib.hid hsz; clear hsz
  go_enter Tryz.func86, Tryz.ntmps86
  go_wp2
  all_goals
    go_ret
    refine ⟨_, rfl, ?_, by go_grown⟩
    rw [HSZ.out]
    unfold szq
    (try unfold szq at *)
    go_light
    omega
set_option maxRecDepth 100000 in
set_option maxHeartbeats 1000000 in
theorem szNode_c (w : World) (ca : List Value) (a : NodeD) (left : Int) (ha : rd w ca a) (h0 : 0 ≤ left) (h1 : left ≤ 1048576) : Calls Tryz.prog 57 #[.agg ca.toArray, .int .i64 left] w (RetSz w (GoD.size a) left) := by
  obtain ⟨a1, a2, a3, a4, a5⟩ := a
  obtain ⟨ac1, at1, rfl, ar1, ac2, at2, rfl, ar2, ac3, at3, rfl, ar3, ac4, at4, rfl, ar4, ar5⟩ := ha
  obtain ⟨rfl, ar1⟩ := ar1
  obtain ⟨rfl, ar2⟩ := ar2
  obtain ⟨rfl, ar3⟩ := ar3
  obtain ⟨rfl, ar4⟩ := ar4
  obtain ⟨ax5_0, ax5_1, ax5_2, rfl⟩ := len3 (show _ = 3 from GoD.rd_len ar5)
  dsimp only [List.cons_append, List.nil_append] at *
  clear ar1
  clear ar2
  clear ar3
  unfold maxLen at ar4
  have ar4 : a4.size ≤ 9223372036854775807 := by omega
  have AR5H := Lib.hid ar5; clear ar5
  have tok1 : True := trivial
  have hsz : GoD.size (a1, a2, a3, a4, a5) = (0 + (0 + (0 + (a4.size + GoD.size a5)))) := rfl
  have HSZ := Lib.hid hsz; clear hsz
  go_enter Tryz.func57, Tryz.ntmps57
  go_wp2_with (first | (go_at_call 86; have tk := tok1; clear tok1; refine call_sz (w := w) (szValue_c _ [ax5_0, ax5_1, ax5_2] a5 _ (rd_below AR5H.out (by go_grown)) (by omega) (by omega)) (by go_grown) ?_; intro w1 r1 hB hb hz hz2 hr hs; have HR1 := Lib.hid hr; clear hr; (repeat (first | rewrite [World.size_alloc] at hz2 | rewrite [World.size_setCell] at hz2 | rewrite [World.size_drew] at hz2)); have c0 := fun o => bcell hb (w.heap.size) o (by go_size); clear hb))
  all_goals
    go_ret
    refine ⟨_, rfl, ?_, by go_grown⟩
    rw [HSZ.out]
    unfold szq
    (try have u1 := HR1.out)
    (try unfold szq at *)
    go_light
    omega
set_option maxRecDepth 100000 in
set_option maxHeartbeats 1000000 in
theorem szNodeS_c (w : World) (v : Value) (l : List NodeD) (left : Int) (ha : rd w [v] l) (h0 : 0 ≤ left) (h1 : left ≤ 1048576) : Calls Tryz.prog 36 #[v, .int .i64 left] w (RetSz w (GoD.size l) left) := by
  obtain ⟨oa, cap, e1, hl, hm, hel⟩ := ha
  obtain rfl : v = _ := by simpa using e1
  clear e1
  have HE := Lib.hid hel; clear hel
  unfold maxLen at hm
  have hlm : l.length ≤ 9223372036854775807 := by omega
  have hsz : GoD.size l = l.length + (l.map GoD.size).sum := rfl
  have HSZ := Lib.hid hsz; clear hsz
  by_cases hneg : left - l.length < 0
  · go_enter Tryz.func36, Tryz.ntmps36
    go_wp2
    go_ret
    refine ⟨_, rfl, ?_, Below.refl _ _⟩
    rw [HSZ.out]
    unfold szq
    omega
  · go_enter Tryz.func36, Tryz.ntmps36
    go_wp2
    go_loopw [1, 5] (fun q i wr => ∃ (k : Nat) (r : Int), k ≤ l.length ∧ i = .int .i64 k ∧ q = .int .i64 r ∧ 0 ≤ r ∧ r ≤ 1048576 ∧ Hid (r = left - l.length - ((l.take k).map GoD.size).sum) ∧ Below w.heap.size w wr) (fun _ i _ => l.length - (intOf i).toNat)
    case atStart => exact ⟨0, _, Nat.zero_le _, rfl, rfl, by omega, by omega, by show _ = _; simp, Below.refl _ _⟩
    case round =>
      obtain ⟨k, r, hk, rfl, rfl, hr0, hr1, HR, hB⟩ := hrel
      by_cases hkl : k < l.length
      · have hx := List.getElem?_eq_getElem hkl
        obtain ⟨eb, eo, ee, rfl, hcl, hcc, hxr⟩ := HE.out k _ hx
        have HT := Lib.hid (sum_take hx)
        have HU := Lib.hid (sum_take_le hx)
        clear hx
        generalize l[k] = x at *
        obtain ⟨x0, x1, x2, x3, x4, x5, x6, rfl⟩ := len7 (show _ = 7 from hcl)
        have p0 : wr.cell? ⟨eb, eo + k * 7, none⟩ = some x0 := (hB.cell (World.block_lt_of_cell? w _ (hcc 0 _ rfl))).trans (hcc 0 _ rfl)
        have p1 : wr.cell? ⟨eb, eo + k * 7 + 1, none⟩ = some x1 := (hB.cell (World.block_lt_of_cell? w _ (hcc 1 _ rfl))).trans (hcc 1 _ rfl)
        have p2 : wr.cell? ⟨eb, eo + k * 7 + 2, none⟩ = some x2 := (hB.cell (World.block_lt_of_cell? w _ (hcc 2 _ rfl))).trans (hcc 2 _ rfl)
        have p3 : wr.cell? ⟨eb, eo + k * 7 + 3, none⟩ = some x3 := (hB.cell (World.block_lt_of_cell? w _ (hcc 3 _ rfl))).trans (hcc 3 _ rfl)
        have p4 : wr.cell? ⟨eb, eo + k * 7 + 4, none⟩ = some x4 := (hB.cell (World.block_lt_of_cell? w _ (hcc 4 _ rfl))).trans (hcc 4 _ rfl)
        have p5 : wr.cell? ⟨eb, eo + k * 7 + 5, none⟩ = some x5 := (hB.cell (World.block_lt_of_cell? w _ (hcc 5 _ rfl))).trans (hcc 5 _ rfl)
        have p6 : wr.cell? ⟨eb, eo + k * 7 + 6, none⟩ = some x6 := (hB.cell (World.block_lt_of_cell? w _ (hcc 6 _ rfl))).trans (hcc 6 _ rfl)
        have HXR := Lib.hid hxr; clear hxr hcc hcl
        go_wp2_with (go_at_call 57; refine call_sz (w := w) (szNode_c _ [x0, x1, x2, x3, x4, x5, x6] x _ (rd_below HXR.out hB) (by omega) (by omega)) (by go_grown) ?_; intro w2 r2 hB2 hb hz hz2 hr2 hs; have HR2 := Lib.hid hr2; clear hr2 hb)
        · go_ret
          refine ⟨_, rfl, ?_, by go_grown⟩
          have u1 := HU.out; have u2 := HR2.out; have u3 := HR.out
          rw [HSZ.out]
          unfold szq at *
          go_light
          omega
        · go_roundw
          case rel => exact ⟨k + 1, _, by omega, by go_num, rfl, by omega, by omega, by
          show _ = _
          have u1 := HT.out; have u2 := HR2.out; have u3 := HR.out
          unfold szq at *
          rw [u1]
          omega, by go_grown⟩
          case measure => simp [intOf]; omega
      · obtain rfl : k = l.length := by omega
        go_wp2
        go_ret
        refine ⟨_, rfl, ?_, hB⟩
        have u3 := HR.out
        rw [List.take_length] at u3
        rw [HSZ.out]
        unfold szq
        omega
set_option maxRecDepth 100000 in
set_option maxHeartbeats 1000000 in
theorem szDir_c (w : World) (ca : List Value) (a : DirD) (left : Int) (ha : rd w ca a) (h0 : 0 ≤ left) (h1 : left ≤ 1048576) : Calls Tryz.prog 19 #[.agg ca.toArray, .int .i64 left] w (RetSz w (GoD.size a) left) := by
  obtain ⟨a1, a2⟩ := a
  obtain ⟨ac1, at1, rfl, ar1, ar2⟩ := ha
  obtain ⟨rfl, ar1⟩ := ar1
  obtain ⟨ax2_0, rfl⟩ := len1 (show _ = 1 from GoD.rd_len ar2)
  dsimp only [List.cons_append, List.nil_append] at *
  unfold maxLen at ar1
  have ar1 : a1.size ≤ 9223372036854775807 := by omega
  have AR2H := Lib.hid ar2; clear ar2
  have tok1 : True := trivial
  have hsz : GoD.size (a1, a2) = (a1.size + GoD.size a2) := rfl
  have HSZ := Lib.hid hsz; clear hsz
  go_enter Tryz.func19, Tryz.ntmps19
  go_wp2_with (first | (go_at_call 36; have tk := tok1; clear tok1; refine call_sz (w := w) (szNodeS_c _ ax2_0 a2 _ (rd_below AR2H.out (by go_grown)) (by omega) (by omega)) (by go_grown) ?_; intro w1 r1 hB hb hz hz2 hr hs; have HR1 := Lib.hid hr; clear hr; (repeat (first | rewrite [World.size_alloc] at hz2 | rewrite [World.size_setCell] at hz2 | rewrite [World.size_drew] at hz2)); have c0 := fun o => bcell hb (w.heap.size) o (by go_size); clear hb))
  all_goals
    go_ret
    refine ⟨_, rfl, ?_, by go_grown⟩
    rw [HSZ.out]
    unfold szq
    (try have u1 := HR1.out)
    (try unfold szq at *)
    go_light
    omega
set_option maxRecDepth 100000 in
set_option maxHeartbeats 1000000 in
theorem szDirS_c (w : World) (v : Value) (l : List DirD) (left : Int) (ha : rd w [v] l) (h0 : 0 ≤ left) (h1 : left ≤ 1048576) : Calls Tryz.prog 5 #[v, .int .i64 left] w (RetSz w (GoD.size l) left) := by
  obtain ⟨oa, cap, e1, hl, hm, hel⟩ := ha
  obtain rfl : v = _ := by simpa using e1
  clear e1
  have HE := Lib.hid hel; clear hel
  unfold maxLen at hm
  have hlm : l.length ≤ 9223372036854775807 := by omega
  have hsz : GoD.size l = l.length + (l.map GoD.size).sum := rfl
  have HSZ := Lib.hid hsz; clear hsz
  by_cases hneg : left - l.length < 0
  · go_enter Tryz.func5, Tryz.ntmps5
    go_wp2
    go_ret
    refine ⟨_, rfl, ?_, Below.refl _ _⟩
    rw [HSZ.out]
    unfold szq
    omega
  · go_enter Tryz.func5, Tryz.ntmps5
    go_wp2
    go_loopw [1, 5] (fun q i wr => ∃ (k : Nat) (r : Int), k ≤ l.length ∧ i = .int .i64 k ∧ q = .int .i64 r ∧ 0 ≤ r ∧ r ≤ 1048576 ∧ Hid (r = left - l.length - ((l.take k).map GoD.size).sum) ∧ Below w.heap.size w wr) (fun _ i _ => l.length - (intOf i).toNat)
    case atStart => exact ⟨0, _, Nat.zero_le _, rfl, rfl, by omega, by omega, by show _ = _; simp, Below.refl _ _⟩
    case round =>
      obtain ⟨k, r, hk, rfl, rfl, hr0, hr1, HR, hB⟩ := hrel
      by_cases hkl : k < l.length
      · have hx := List.getElem?_eq_getElem hkl
        obtain ⟨eb, eo, ee, rfl, hcl, hcc, hxr⟩ := HE.out k _ hx
        have HT := Lib.hid (sum_take hx)
        have HU := Lib.hid (sum_take_le hx)
        clear hx
        generalize l[k] = x at *
        obtain ⟨x0, x1, rfl⟩ := len2 (show _ = 2 from hcl)
        have p0 : wr.cell? ⟨eb, eo + k * 2, none⟩ = some x0 := (hB.cell (World.block_lt_of_cell? w _ (hcc 0 _ rfl))).trans (hcc 0 _ rfl)
        have p1 : wr.cell? ⟨eb, eo + k * 2 + 1, none⟩ = some x1 := (hB.cell (World.block_lt_of_cell? w _ (hcc 1 _ rfl))).trans (hcc 1 _ rfl)
        have HXR := Lib.hid hxr; clear hxr hcc hcl
        go_wp2_with (go_at_call 19; refine call_sz (w := w) (szDir_c _ [x0, x1] x _ (rd_below HXR.out hB) (by omega) (by omega)) (by go_grown) ?_; intro w2 r2 hB2 hb hz hz2 hr2 hs; have HR2 := Lib.hid hr2; clear hr2 hb)
        · go_ret
          refine ⟨_, rfl, ?_, by go_grown⟩
          have u1 := HU.out; have u2 := HR2.out; have u3 := HR.out
          rw [HSZ.out]
          unfold szq at *
          go_light
          omega
        · go_roundw
          case rel => exact ⟨k + 1, _, by omega, by go_num, rfl, by omega, by omega, by
          show _ = _
          have u1 := HT.out; have u2 := HR2.out; have u3 := HR.out
          unfold szq at *
          rw [u1]
          omega, by go_grown⟩
          case measure => simp [intOf]; omega
      · obtain rfl : k = l.length := by omega
        go_wp2
        go_ret
        refine ⟨_, rfl, ?_, hB⟩
        have u3 := HR.out
        rw [List.take_length] at u3
        rw [HSZ.out]
        unfold szq
        omega
set_option maxRecDepth 100000 in
set_option maxHeartbeats 1000000 in
theorem szField_c (w : World) (ca : List Value) (a : FieldD) (left : Int) (ha : rd w ca a) (h0 : 0 ≤ left) (h1 : left ≤ 1048576) : Calls Tryz.prog 34 #[.agg ca.toArray, .int .i64 left] w (RetSz w (GoD.size a) left) := by
  obtain ⟨a1, a2⟩ := a
  obtain ⟨ac1, at1, rfl, ar1, ar2⟩ := ha
  obtain ⟨rfl, ar1⟩ := ar1
  obtain ⟨rfl, ar2⟩ := ar2
  dsimp only [List.cons_append, List.nil_append] at *
  unfold maxLen at ar1
  have ar1 : a1.size ≤ 9223372036854775807 := by omega
  clear ar2
  have hsz : GoD.size (a1, a2) = (a1.size + 0) := rfl
  have HSZ := Lib.hid hsz; clear hsz
  go_enter Tryz.func34, Tryz.ntmps34
  go_wp2
  all_goals
    go_ret
    refine ⟨_, rfl, ?_, by go_grown⟩
    rw [HSZ.out]
    unfold szq
    (try unfold szq at *)
    go_light
    omega
set_option maxRecDepth 100000 in
set_option maxHeartbeats 1000000 in
theorem szAttr_c (w : World) (ca : List Value) (a : AttrD) (left : Int) (ha : rd w ca a) (h0 : 0 ≤ left) (h1 : left ≤ 1048576) : Calls Tryz.prog 85 #[.agg ca.toArray, .int .i64 left] w (RetSz w (GoD.size a) left) := by
  obtain ⟨a1, a2⟩ := a
  obtain ⟨ac1, at1, rfl, ar1, ar2⟩ := ha
  obtain ⟨rfl, ar1⟩ := ar1
  obtain ⟨ax2_0, ax2_1, ax2_2, rfl⟩ := len3 (show _ = 3 from GoD.rd_len ar2)
  dsimp only [List.cons_append, List.nil_append] at *
  unfold maxLen at ar1
  have ar1 : a1.size ≤ 9223372036854775807 := by omega
  have AR2H := Lib.hid ar2; clear ar2
  have tok1 : True := trivial
  have hsz : GoD.size (a1, a2) = (a1.size + GoD.size a2) := rfl
  have HSZ := Lib.hid hsz; clear hsz
  go_enter Tryz.func85, Tryz.ntmps85
  go_wp2_with (first | (go_at_call 86; have tk := tok1; clear tok1; refine call_sz (w := w) (szValue_c _ [ax2_0, ax2_1, ax2_2] a2 _ (rd_below AR2H.out (by go_grown)) (by omega) (by omega)) (by go_grown) ?_; intro w1 r1 hB hb hz hz2 hr hs; have HR1 := Lib.hid hr; clear hr; (repeat (first | rewrite [World.size_alloc] at hz2 | rewrite [World.size_setCell] at hz2 | rewrite [World.size_drew] at hz2)); have c0 := fun o => bcell hb (w.heap.size) o (by go_size); clear hb))
  all_goals
    go_ret
    refine ⟨_, rfl, ?_, by go_grown⟩
    rw [HSZ.out]
    unfold szq
    (try have u1 := HR1.out)
    (try unfold szq at *)
    go_light
    omega
set_option maxRecDepth 100000 in
set_option maxHeartbeats 1000000 in
theorem szAttrS_c (w : World) (v : Value) (l : List AttrD) (left : Int) (ha : rd w [v] l) (h0 : 0 ≤ left) (h1 : left ≤ 1048576) : Calls Tryz.prog 56 #[v, .int .i64 left] w (RetSz w (GoD.size l) left) := by
  obtain ⟨oa, cap, e1, hl, hm, hel⟩ := ha
  obtain rfl : v = _ := by simpa using e1
  clear e1
  have HE := Lib.hid hel; clear hel
  unfold maxLen at hm
  have hlm : l.length ≤ 9223372036854775807 := by omega
  have hsz : GoD.size l = l.length + (l.map GoD.size).sum := rfl
  have HSZ := Lib.hid hsz; clear hsz
  by_cases hneg : left - l.length < 0
  · go_enter Tryz.func56, Tryz.ntmps56
    go_wp2
    go_ret
    refine ⟨_, rfl, ?_, Below.refl _ _⟩
    rw [HSZ.out]
    unfold szq
    omega
  · go_enter Tryz.func56, Tryz.ntmps56
    go_wp2
    go_loopw [1, 5] (fun q i wr => ∃ (k : Nat) (r : Int), k ≤ l.length ∧ i = .int .i64 k ∧ q = .int .i64 r ∧ 0 ≤ r ∧ r ≤ 1048576 ∧ Hid (r = left - l.length - ((l.take k).map GoD.size).sum) ∧ Below w.heap.size w wr) (fun _ i _ => l.length - (intOf i).toNat)
    case atStart => exact ⟨0, _, Nat.zero_le _, rfl, rfl, by omega, by omega, by show _ = _; simp, Below.refl _ _⟩
    case round =>
      obtain ⟨k, r, hk, rfl, rfl, hr0, hr1, HR, hB⟩ := hrel
      by_cases hkl : k < l.length
      · have hx := List.getElem?_eq_getElem hkl
        obtain ⟨eb, eo, ee, rfl, hcl, hcc, hxr⟩ := HE.out k _ hx
        have HT := Lib.hid (sum_take hx)
        have HU := Lib.hid (sum_take_le hx)
        clear hx
        generalize l[k] = x at *
        obtain ⟨x0, x1, x2, x3, rfl⟩ := len4 (show _ = 4 from hcl)
        have p0 : wr.cell? ⟨eb, eo + k * 4, none⟩ = some x0 := (hB.cell (World.block_lt_of_cell? w _ (hcc 0 _ rfl))).trans (hcc 0 _ rfl)
        have p1 : wr.cell? ⟨eb, eo + k * 4 + 1, none⟩ = some x1 := (hB.cell (World.block_lt_of_cell? w _ (hcc 1 _ rfl))).trans (hcc 1 _ rfl)
        have p2 : wr.cell? ⟨eb, eo + k * 4 + 2, none⟩ = some x2 := (hB.cell (World.block_lt_of_cell? w _ (hcc 2 _ rfl))).trans (hcc 2 _ rfl)
        have p3 : wr.cell? ⟨eb, eo + k * 4 + 3, none⟩ = some x3 := (hB.cell (World.block_lt_of_cell? w _ (hcc 3 _ rfl))).trans (hcc 3 _ rfl)
        have HXR := Lib.hid hxr; clear hxr hcc hcl
        go_wp2_with (go_at_call 85; refine call_sz (w := w) (szAttr_c _ [x0, x1, x2, x3] x _ (rd_below HXR.out hB) (by omega) (by omega)) (by go_grown) ?_; intro w2 r2 hB2 hb hz hz2 hr2 hs; have HR2 := Lib.hid hr2; clear hr2 hb)
        · go_ret
          refine ⟨_, rfl, ?_, by go_grown⟩
          have u1 := HU.out; have u2 := HR2.out; have u3 := HR.out
          rw [HSZ.out]
          unfold szq at *
          go_light
          omega
        · go_roundw
          case rel => exact ⟨k + 1, _, by omega, by go_num, rfl, by omega, by omega, by
          show _ = _
          have u1 := HT.out; have u2 := HR2.out; have u3 := HR.out
          unfold szq at *
          rw [u1]
          omega, by go_grown⟩
          case measure => simp [intOf]; omega
      · obtain rfl : k = l.length := by omega
        go_wp2
        go_ret
        refine ⟨_, rfl, ?_, hB⟩
        have u3 := HR.out
        rw [List.take_length] at u3
        rw [HSZ.out]
        unfold szq
        omega
set_option maxRecDepth 100000 in
set_option maxHeartbeats 1000000 in
theorem szFile_c (w : World) (ca : List Value) (a : FileD) (left : Int) (ha : rd w ca a) (h0 : 0 ≤ left) (h1 : left ≤ 1048576) : Calls Tryz.prog 35 #[.agg ca.toArray, .int .i64 left] w (RetSz w (GoD.size a) left) := by
  obtain ⟨a1, a2, a3, a4, a5⟩ := a
  obtain ⟨ac1, at1, rfl, ar1, ac2, at2, rfl, ar2, ac3, at3, rfl, ar3, ac4, at4, rfl, ar4, ar5⟩ := ha
  obtain ⟨rfl, ar1⟩ := ar1
  obtain ⟨rfl, ar2⟩ := ar2
  obtain rfl := ar3
  obtain ⟨rfl, ar4⟩ := ar4
  obtain ⟨ax5_0, rfl⟩ := len1 (show _ = 1 from GoD.rd_len ar5)
  dsimp only [List.cons_append, List.nil_append] at *
  clear ar1
  clear ar2
  clear ar4
  have AR5H := Lib.hid ar5; clear ar5
  have tok1 : True := trivial
  have hsz : GoD.size (a1, a2, a3, a4, a5) = (0 + (0 + (0 + (0 + GoD.size a5)))) := rfl
  have HSZ := Lib.hid hsz; clear hsz
  go_enter Tryz.func35, Tryz.ntmps35
  go_wp2_with (first | (go_at_call 56; have tk := tok1; clear tok1; refine call_sz (w := w) (szAttrS_c _ ax5_0 a5 _ (rd_below AR5H.out (by go_grown)) (by omega) (by omega)) (by go_grown) ?_; intro w1 r1 hB hb hz hz2 hr hs; have HR1 := Lib.hid hr; clear hr; (repeat (first | rewrite [World.size_alloc] at hz2 | rewrite [World.size_setCell] at hz2 | rewrite [World.size_drew] at hz2)); have c0 := fun o => bcell hb (w.heap.size) o (by go_size); clear hb))
  all_goals
    go_ret
    refine ⟨_, rfl, ?_, by go_grown⟩
    rw [HSZ.out]
    unfold szq
    (try have u1 := HR1.out)
    (try unfold szq at *)
    go_light
    omega
set_option maxRecDepth 100000 in
set_option maxHeartbeats 1000000 in
theorem szFileS_c (w : World) (v : Value) (l : List FileD) (left : Int) (ha : rd w [v] l) (h0 : 0 ≤ left) (h1 : left ≤ 1048576) : Calls Tryz.prog 18 #[v, .int .i64 left] w (RetSz w (GoD.size l) left) := by
  obtain ⟨oa, cap, e1, hl, hm, hel⟩ := ha
  obtain rfl : v = _ := by simpa using e1
  clear e1
  have HE := Lib.hid hel; clear hel
  unfold maxLen at hm
  have hlm : l.length ≤ 9223372036854775807 := by omega
  have hsz : GoD.size l = l.length + (l.map GoD.size).sum := rfl
  have HSZ := Lib.hid hsz; clear hsz
  by_cases hneg : left - l.length < 0
  · go_enter Tryz.func18, Tryz.ntmps18
    go_wp2
    go_ret
    refine ⟨_, rfl, ?_, Below.refl _ _⟩
    rw [HSZ.out]
    unfold szq
    omega
  · go_enter Tryz.func18, Tryz.ntmps18
    go_wp2
    go_loopw [1, 5] (fun q i wr => ∃ (k : Nat) (r : Int), k ≤ l.length ∧ i = .int .i64 k ∧ q = .int .i64 r ∧ 0 ≤ r ∧ r ≤ 1048576 ∧ Hid (r = left - l.length - ((l.take k).map GoD.size).sum) ∧ Below w.heap.size w wr) (fun _ i _ => l.length - (intOf i).toNat)
    case atStart => exact ⟨0, _, Nat.zero_le _, rfl, rfl, by omega, by omega, by show _ = _; simp, Below.refl _ _⟩
    case round =>
      obtain ⟨k, r, hk, rfl, rfl, hr0, hr1, HR, hB⟩ := hrel
      by_cases hkl : k < l.length
      · have hx := List.getElem?_eq_getElem hkl
        obtain ⟨eb, eo, ee, rfl, hcl, hcc, hxr⟩ := HE.out k _ hx
        have HT := Lib.hid (sum_take hx)
        have HU := Lib.hid (sum_take_le hx)
        clear hx
        generalize l[k] = x at *
        obtain ⟨x0, x1, x2, x3, x4, rfl⟩ := len5 (show _ = 5 from hcl)
        have p0 : wr.cell? ⟨eb, eo + k * 5, none⟩ = some x0 := (hB.cell (World.block_lt_of_cell? w _ (hcc 0 _ rfl))).trans (hcc 0 _ rfl)
        have p1 : wr.cell? ⟨eb, eo + k * 5 + 1, none⟩ = some x1 := (hB.cell (World.block_lt_of_cell? w _ (hcc 1 _ rfl))).trans (hcc 1 _ rfl)
        have p2 : wr.cell? ⟨eb, eo + k * 5 + 2, none⟩ = some x2 := (hB.cell (World.block_lt_of_cell? w _ (hcc 2 _ rfl))).trans (hcc 2 _ rfl)
        have p3 : wr.cell? ⟨eb, eo + k * 5 + 3, none⟩ = some x3 := (hB.cell (World.block_lt_of_cell? w _ (hcc 3 _ rfl))).trans (hcc 3 _ rfl)
        have p4 : wr.cell? ⟨eb, eo + k * 5 + 4, none⟩ = some x4 := (hB.cell (World.block_lt_of_cell? w _ (hcc 4 _ rfl))).trans (hcc 4 _ rfl)
        have HXR := Lib.hid hxr; clear hxr hcc hcl
        go_wp2_with (go_at_call 35; refine call_sz (w := w) (szFile_c _ [x0, x1, x2, x3, x4] x _ (rd_below HXR.out hB) (by omega) (by omega)) (by go_grown) ?_; intro w2 r2 hB2 hb hz hz2 hr2 hs; have HR2 := Lib.hid hr2; clear hr2 hb)
        · go_ret
          refine ⟨_, rfl, ?_, by go_grown⟩
          have u1 := HU.out; have u2 := HR2.out; have u3 := HR.out
          rw [HSZ.out]
          unfold szq at *
          go_light
          omega
        · go_roundw
          case rel => exact ⟨k + 1, _, by omega, by go_num, rfl, by omega, by omega, by
          show _ = _
          have u1 := HT.out; have u2 := HR2.out; have u3 := HR.out
          unfold szq at *
          rw [u1]
          omega, by go_grown⟩
          case measure => simp [intOf]; omega
      · obtain rfl : k = l.length := by omega
        go_wp2
        go_ret
        refine ⟨_, rfl, ?_, hB⟩
        have u3 := HR.out
        rw [List.take_length] at u3
        rw [HSZ.out]
        unfold szq
        omega
set_option maxRecDepth 100000 in
set_option maxHeartbeats 1000000 in
theorem szFieldS_c (w : World) (v : Value) (l : List FieldD) (left : Int) (ha : rd w [v] l) (h0 : 0 ≤ left) (h1 : left ≤ 1048576) : Calls Tryz.prog 17 #[v, .int .i64 left] w (RetSz w (GoD.size l) left) := by
  obtain ⟨oa, cap, e1, hl, hm, hel⟩ := ha
  obtain rfl : v = _ := by simpa using e1
  clear e1
  have HE := Lib.hid hel; clear hel
  unfold maxLen at hm
  have hlm : l.length ≤ 9223372036854775807 := by omega
  have hsz : GoD.size l = l.length + (l.map GoD.size).sum := rfl
  have HSZ := Lib.hid hsz; clear hsz
  by_cases hneg : left - l.length < 0
  · go_enter Tryz.func17, Tryz.ntmps17
    go_wp2
    go_ret
    refine ⟨_, rfl, ?_, Below.refl _ _⟩
    rw [HSZ.out]
    unfold szq
    omega
  · go_enter Tryz.func17, Tryz.ntmps17
    go_wp2
    go_loopw [1, 5] (fun q i wr => ∃ (k : Nat) (r : Int), k ≤ l.length ∧ i = .int .i64 k ∧ q = .int .i64 r ∧ 0 ≤ r ∧ r ≤ 1048576 ∧ Hid (r = left - l.length - ((l.take k).map GoD.size).sum) ∧ Below w.heap.size w wr) (fun _ i _ => l.length - (intOf i).toNat)
    case atStart => exact ⟨0, _, Nat.zero_le _, rfl, rfl, by omega, by omega, by show _ = _; simp, Below.refl _ _⟩
    case round =>
      obtain ⟨k, r, hk, rfl, rfl, hr0, hr1, HR, hB⟩ := hrel
      by_cases hkl : k < l.length
      · have hx := List.getElem?_eq_getElem hkl
        obtain ⟨eb, eo, ee, rfl, hcl, hcc, hxr⟩ := HE.out k _ hx
        have HT := Lib.hid (sum_take hx)
        have HU := Lib.hid (sum_take_le hx)
        clear hx
        generalize l[k] = x at *
        obtain ⟨x0, x1, rfl⟩ := len2 (show _ = 2 from hcl)
        have p0 : wr.cell? ⟨eb, eo + k * 2, none⟩ = some x0 := (hB.cell (World.block_lt_of_cell? w _ (hcc 0 _ rfl))).trans (hcc 0 _ rfl)
        have p1 : wr.cell? ⟨eb, eo + k * 2 + 1, none⟩ = some x1 := (hB.cell (World.block_lt_of_cell? w _ (hcc 1 _ rfl))).trans (hcc 1 _ rfl)
        have HXR := Lib.hid hxr; clear hxr hcc hcl
        go_wp2_with (go_at_call 34; refine call_sz (w := w) (szField_c _ [x0, x1] x _ (rd_below HXR.out hB) (by omega) (by omega)) (by go_grown) ?_; intro w2 r2 hB2 hb hz hz2 hr2 hs; have HR2 := Lib.hid hr2; clear hr2 hb)
        · go_ret
          refine ⟨_, rfl, ?_, by go_grown⟩
          have u1 := HU.out; have u2 := HR2.out; have u3 := HR.out
          rw [HSZ.out]
          unfold szq at *
          go_light
          omega
        · go_roundw
          case rel => exact ⟨k + 1, _, by omega, by go_num, rfl, by omega, by omega, by
          show _ = _
          have u1 := HT.out; have u2 := HR2.out; have u3 := HR.out
          unfold szq at *
          rw [u1]
          omega, by go_grown⟩
          case measure => simp [intOf]; omega
      · obtain rfl : k = l.length := by omega
        go_wp2
        go_ret
        refine ⟨_, rfl, ?_, hB⟩
        have u3 := HR.out
        rw [List.take_length] at u3
        rw [HSZ.out]
        unfold szq
        omega
set_option maxRecDepth 100000 in
set_option maxHeartbeats 1000000 in
theorem szStore_c (w : World) (ca : List Value) (a : StoreD) (left : Int) (ha : rd w ca a) (h0 : 0 ≤ left) (h1 : left ≤ 1048576) : Calls Tryz.prog 4 #[.agg ca.toArray, .int .i64 left] w (RetSz w (GoD.size a) left) := by
  obtain ⟨a1, a2, a3⟩ := a
  obtain ⟨ac1, at1, rfl, ar1, ac2, at2, rfl, ar2, ar3⟩ := ha
  obtain ⟨ax1_0, rfl⟩ := len1 (show _ = 1 from GoD.rd_len ar1)
  obtain ⟨ax2_0, rfl⟩ := len1 (show _ = 1 from GoD.rd_len ar2)
  obtain ⟨rfl, ar3⟩ := ar3
  dsimp only [List.cons_append, List.nil_append] at *
  have AR1H := Lib.hid ar1; clear ar1
  have AR2H := Lib.hid ar2; clear ar2
  clear ar3
  have tok1 : True := trivial
  have tok2 : True := trivial
  have hsz : GoD.size (a1, a2, a3) = (GoD.size a1 + (GoD.size a2 + 0)) := rfl
  have HSZ := Lib.hid hsz; clear hsz
  go_enter Tryz.func4, Tryz.ntmps4
  go_wp2_with (first | (go_at_call 17; have tk := tok1; clear tok1; refine call_sz (w := w) (szFieldS_c _ ax1_0 a1 _ (rd_below AR1H.out (by go_grown)) (by omega) (by omega)) (by go_grown) ?_; intro w1 r1 hB hb hz hz2 hr hs; have HR1 := Lib.hid hr; clear hr; (repeat (first | rewrite [World.size_alloc] at hz2 | rewrite [World.size_setCell] at hz2 | rewrite [World.size_drew] at hz2)); have c0 := fun o => bcell hb (w.heap.size) o (by go_size); clear hb) | (go_at_call 18; have tk := tok2; clear tok2; refine call_sz (w := w) (szFileS_c _ ax2_0 a2 _ (rd_below AR2H.out (by go_grown)) (by omega) (by omega)) (by go_grown) ?_; intro w2 r2 hB hb hz hz2 hr hs; have HR2 := Lib.hid hr; clear hr; (repeat (first | rewrite [World.size_alloc] at hz2 | rewrite [World.size_setCell] at hz2 | rewrite [World.size_drew] at hz2)); have c0 := fun o => bcell hb (w.heap.size) o (by go_size); clear hb))
  all_goals
    go_ret
    refine ⟨_, rfl, ?_, by go_grown⟩
    rw [HSZ.out]
    unfold szq
    (try have u1 := HR1.out)
    (try have u2 := HR2.out)
    (try unfold szq at *)
    go_light
    omega
end Go.Proofs.YtnhmnfmhnepjmaaGreatDoor
