/- Texts of this proof, put together by a program: Eva, Evb, Eua, Eub, Lid, Rp, Lia, Ir, Is, Wo, Wa, Rpa, Rpb, Rpc, Rpd, Fwc, Sca, Scb, Scc, Lw, Sz. -/
import Derived.Test.YtnhmnfmhnepjmaaGreatP5
import Derived.KernelRfl
import Derived.Lib.SlicesCompact
import Derived.Sort.Grow
import Derived.Test.YtnhmnfmhnepjmaaGreatProg
import Derived.Outline
import Derived.Lib.SliceRun
set_option linter.unusedVariables false
set_option linter.unusedSimpArgs false
namespace Go.Proofs.YtnhmnfmhnepjmaaGreat
open Go.RowKit
open GoE (enc wide)
def implDirNames_f0 (_ : Nat) (a0 : Zh) (s0 : (List ByteArray)) : Rd ((List ByteArray)) ((List ByteArray)) ((List ByteArray)) := (.next (s0 ++ [a0.1]))
def implDirNames_e0 (_ : Nat) (s0 : (List ByteArray)) : (List ByteArray) := s0
def Yf (d : (List Zh)) : (List ByteArray) := (Out.on (Xf implDirNames_f0 implDirNames_e0 d 0 []) (fun y0 => y0))
theorem implDirNames_a (d : (List Zh)) : ACalls Tryz.prog 135 [.h d] (.o 0 (Yf d)) := by
 refine Qn (tt := tt) Qb Tryz.func135 (fn := Tryz.f135) rfl (by unfold Js; kernel_rfl) (Nat.le_of_ble_eq_true rfl) fun w0 F0 => ?_
 refine Qa ?_
 refine rk Qb [(2, .e 0)] [] [] [] [] (o0) ?_
 refine Qa ?_
 refine rk Qb [(3, .one (.slc (.own true 384) 1 []))] [] [] [] [] (o0) ?_
 refine Qa ?_
 refine Qa ?_
 refine rk Qb [(7, .h d), (8, .i (d.length : Int)), (9, .i 0)] [0] [] [] [(1, .val (.i (d.length : Int)))] (o1 (Qe (Q7 d))) ?_
 refine wdT 7 0 .sh d (fun hw1 => ?_)
 have hl2 : List.length d ≤ 1073741824 := Qo (hw1)
 refine blk (fun (k0 : Nat) (s0 : (List ByteArray)) => [(3, .o 147201 s0), (9, .i ((k0 : Nat) : Int))]) [3, 9] (fun k0 s0 => []) [] (fun (y0 : (List ByteArray)) => [(3, .o 147351 y0)]) [3, 7, 8, 9] (fun y0 => []) [] (fun (k0 : Nat) (s0 : (List ByteArray)) => (Xf implDirNames_f0 implDirNames_e0 d 0 []) = Xf implDirNames_f0 implDirNames_e0 (List.drop k0 d) k0 s0 ∧ List.length s0 ≤ k0) (fun (y0 : (List ByteArray)) => (Xf implDirNames_f0 implDirNames_e0 d 0 []) = .brk y0) d.length [] (Zj [(384, 147201)] (by kernel_rfl)) ⟨rfl, (by simp)⟩ (fun k0 s0 hk0 hI0 => ?_) (fun k0 s0 hk0 hI0 => ?_) (fun y0 hD0 => ?_)
 ·
  have hA0_0 := hI0.2
  obtain ⟨a0, hx0⟩ := Xw (l := d) (i := k0) hk0
  refine Qa ?_
  refine rk Qb [(10, .b true)] [] [] [] [(0, .val (.b true))] (o1 (Qe (Qd (decide_eq_true (p := ((k0 : Nat) : Int) < (d.length : Int)) (by omega))))) ?_
  refine Qa ?_
  refine ckT ?_
  refine Qg ?_
  refine Qa ?_
  refine Qy ?_
  refine Qa ?_
  refine rk Qb [(5, .p 5 0)] [10] [(5, [.s a0.1, .h a0.2])] [] [(0, .row [.s a0.1, .h a0.2])] (o1 (Qk (Xe (i := ((k0 : Nat) : Int)) (by omega) rfl hx0))) ?_
  refine wdT 3 0 (.own true 147201) s0 (fun hw3 => ?_)
  have hl4 : List.length s0 ≤ 1073741824 := Qo (hw3)
  refine rk Qb [(3, .one (.slc (.own true 1088) 1 ((eL s0) ++ [[.s a0.1]])))] [3, 5] [] [5] [] (o1 (ob_len (len_of (Xb s0) (Xb [a0.1]) (by first | omega | (simp; omega) | simp)))) ?_
  refine eqn [(3, .o 1088 (s0 ++ [a0.1]))] [3] [] [] (by rw [show ((eL s0) ++ [[.s a0.1]]) = (eL (s0 ++ [a0.1])) from app_eL (rfl) (rfl)]; first | done | kernel_rfl) ?_
  refine rk Qb [(9, .i ((k0 + 1 : Nat) : Int))] [9] [] [] [(0, .val (.i ((k0 + 1 : Nat) : Int)))] (o1 (Qe (Ku (Qr k0 (by omega))))) ?_
  exact Exists.intro (s0 ++ [a0.1]) (And.intro (Zj [(1088, 147201)] (by kernel_rfl)) ⟨Qx hx0 (rfl) hI0.1, by first | omega | (simp; omega) | simp⟩)
 ·
  have hA0_0 := hI0.2
  refine Qa ?_
  refine rk Qb [(10, .b false)] [] [] [] [(0, .val (.b false))] (o1 (Qe (Qd (decide_eq_false (p := ((k0 : Nat) : Int) < (d.length : Int)) (by omega))))) ?_
  refine Qa ?_
  refine ckF ?_
  refine Xc ?_
  exact Exists.intro s0 (And.intro (Zj [(147201, 147351)] (by kernel_rfl)) (Xx hk0 (rfl) hI0.1))
 ·
  refine Qa ?_
  refine rk Qb [(2, .o 147351 y0)] [2, 3] [] [] [] (o0) ?_
  refine Qj ?_
  exact Y2 [] (congrArg (fun z => (.o 0 z : AV)) (show Yf d = y0 from on_b hD0 (rfl)).symm)
def Z4 (v : ByteArray) (k0 : Nat) (a0 : ByteArray) (_ : Unit) : Rd (Int) (Unit) (Unit) := (bif (v.toList == a0.toList) then (.ret ((k0 : Nat) : Int)) else (.next ()))
def J4 (_ : Nat) (_ : Unit) : Unit := ()
def Jg (s_ : (List ByteArray)) (v : ByteArray) : Int := (Out.on (Xf (Z4 v) J4 s_ 0 ()) (fun _ => -1))
theorem slicesIndex_string_a (s_ : (List ByteArray)) (v : ByteArray) : ACalls Tryz.prog 204 [.h s_, .s v] (.i (Jg s_ v)) := by
 refine Qn (tt := tt) Qb Tryz.func204 (fn := Tryz.f204) rfl (by unfold Js; kernel_rfl) (Nat.le_of_ble_eq_true rfl) fun w0 F0 => ?_
 refine Qa ?_
 refine rk Qb [(4, .i 0)] [] [] [] [] (o0) ?_
 refine Qa ?_
 refine Qa ?_
 refine rk Qb [(7, .i (s_.length : Int)), (8, .i 0)] [] [] [] [(1, .val (.i (s_.length : Int)))] (o1 (Qe (Q7 s_))) ?_
 refine wdT 0 0 .sh s_ (fun hw1 => ?_)
 have hl2 : List.length s_ ≤ 1073741824 := Qo (hw1)
 refine blk (fun (k0 : Nat) (s0 : Unit) => [(8, .i ((k0 : Nat) : Int))]) [8] (fun k0 s0 => []) [] (fun (y0 : Unit) => []) [0, 1, 7, 8] (fun y0 => []) [] (fun (k0 : Nat) (s0 : Unit) => (Xf (Z4 v) J4 s_ 0 ()) = Xf (Z4 v) J4 (List.drop k0 s_) k0 s0) (fun (y0 : Unit) => (Xf (Z4 v) J4 s_ 0 ()) = .brk y0) s_.length () (Qc (by kernel_rfl)) rfl (fun k0 s0 hk0 hI0 => ?_) (fun k0 s0 hk0 hI0 => ?_) (fun y0 hD0 => ?_)
 ·
  obtain ⟨a0, hx0⟩ := Xw (l := s_) (i := k0) hk0
  refine Qa ?_
  refine rk Qb [(9, .b true)] [] [] [] [(0, .val (.b true))] (o1 (Qe (Qd (decide_eq_true (p := ((k0 : Nat) : Int) < (s_.length : Int)) (by omega))))) ?_
  refine Qa ?_
  refine ckT ?_
  refine Qg ?_
  refine Qa ?_
  refine Qy ?_
  refine Qa ?_
  refine rk Qb [(5, .i ((k0 : Nat) : Int))] [9] [] [] [] (o0) ?_
  refine Qa ?_
  refine rk Qb [(16, .b (v.toList == a0.toList))] [] [] [] [(3, .row [.s a0])] (o1 (Qk (Xe (i := ((k0 : Nat) : Int)) (by omega) rfl hx0))) ?_
  refine ck (v.toList == a0.toList) (fun h3 => ?_) (fun h3 => ?_)
  ·
   refine Qa ?_
   refine rk Qb [(4, .i ((k0 : Nat) : Int))] [4, 5, 16] [] [] [] (o0) ?_
   refine Qj ?_
   have hr4 : (Xf (Z4 v) J4 s_ 0 ()) = .ret ((k0 : Nat) : Int) := Jd hx0 (X0 h3 (rfl)) hI0
   exact Y2 [] (congrArg (fun z => (.i z : AV)) (show Jg s_ v = ((k0 : Nat) : Int) from on_r hr4).symm)
  ·
   refine Qg ?_
   refine rk Qb [(8, .i ((k0 + 1 : Nat) : Int))] [5, 8, 16] [] [] [(0, .val (.i ((k0 + 1 : Nat) : Int)))] (o1 (Qe (Ku (Qr k0 (by omega))))) ?_
   exact Exists.intro () (And.intro (Qc (by kernel_rfl)) (Qx hx0 (Qv h3 (rfl)) hI0))
 ·
  refine Qa ?_
  refine rk Qb [(9, .b false)] [] [] [] [(0, .val (.b false))] (o1 (Qe (Qd (decide_eq_false (p := ((k0 : Nat) : Int) < (s_.length : Int)) (by omega))))) ?_
  refine Qa ?_
  refine ckF ?_
  refine Xc ?_
  exact Exists.intro () (And.intro (Qc (by kernel_rfl)) (Xx hk0 (rfl) hI0))
 ·
  refine Qa ?_
  refine rk Qb [(4, .i (-1))] [4] [] [] [] (o0) ?_
  refine Qj ?_
  exact Y2 [] (congrArg (fun z => (.i z : AV)) (show Jg s_ v = -1 from on_b hD0 (rfl)).symm)
def Q2 (s_ : (List ByteArray)) (v : ByteArray) : Bool := decide ((Jg s_ v) ≥ (0 : Int))
theorem slicesContains_string_a (s_ : (List ByteArray)) (v : ByteArray) : ACalls Tryz.prog 176 [.h s_, .s v] (.b (Q2 s_ v)) := by
 refine Qn (tt := tt) Qb Tryz.func176 (fn := Tryz.f176) rfl (by unfold Js; kernel_rfl) (Nat.le_of_ble_eq_true rfl) fun w0 F0 => ?_
 refine Qa ?_
 refine rk Qb [(4, .b false)] [] [] [] [] (o0) ?_
 refine Qa ?_
 refine rk Qb [(4, .b (decide ((Jg s_ v) ≥ (0 : Int))))] [0, 1, 4] [] [] [(2, .val (.i (Jg s_ v)))] (o1 (Qf (slicesIndex_string_a s_ v))) ?_
 refine Qj ?_
 exact Y2 [] (congrArg (fun z => (.b z : AV)) (show Q2 s_ v = decide ((Jg s_ v) ≥ (0 : Int)) from rfl).symm)
def Kp (x : (List Int)) (k0 : Nat) (s0 : Int) : Rd (Int) (Int) (Int) := (.next (max s0 (nth x (k0 + 1))))
def Wp (_ : Nat) (s0 : Int) : Int := s0
def Wx (x : (List Int)) : Int := (Out.on (forN (Kp x) Wp (x.length - 1) 0 (nth x 0)) (fun y0 => y0))
theorem slicesMax_int_a (x : (List Int)) (hp : 0 < x.length) : ACalls Tryz.prog 205 [.h x] (.i (Wx x)) := by
 refine Qn (tt := tt) Qb Tryz.func205 (fn := Tryz.f205) rfl (by unfold Js; kernel_rfl) (Nat.le_of_ble_eq_true rfl) fun w0 F0 => ?_
 refine Qa ?_
 refine rk Qb [(2, .i 0)] [] [] [] [] (o0) ?_
 refine Qa ?_
 refine Qa ?_
 refine rk Qb [(7, .b false)] [] [] [] [(1, .val (.i (x.length : Int))), (2, .val (.b false))] (o2 (Qe (Q7 x)) (o1 (Qe (show .b (decide ((x.length : Int) < (1 : Int))) = .b false from Qd (decide_eq_false (by omega)))))) ?_
 refine ckF ?_
 refine Qg ?_
 refine Qa ?_
 refine wdT 0 0 .sh x (fun hw2 => ?_)
 have hl3 : List.length x ≤ 1073741824 := Qo (hw2)
 have hx1 : x[0]? = some (nth x 0) := Xo (by omega)
 refine rk Qb [(3, .i (nth x 0))] [7] [] [] [(1, .row [.i (nth x 0)])] (o1 (Qk (Xe (i := 0) (by omega) rfl hx1))) ?_
 refine Qa ?_
 refine Qa ?_
 refine rk Qb [(4, .i 1)] [] [] [] [] (o0) ?_
 refine blk (fun (k0 : Nat) (s0 : Int) => [(3, .i s0), (4, .i ((k0 + 1 : Nat) : Int))]) [3, 4] (fun k0 s0 => []) [] (fun (y0 : Int) => [(3, .i y0)]) [0, 3, 4] (fun y0 => []) [] (fun (k0 : Nat) (s0 : Int) => (forN (Kp x) Wp (x.length - 1) 0 (nth x 0)) = forN (Kp x) Wp ((x.length - 1) - k0) k0 s0) (fun (y0 : Int) => (forN (Kp x) Wp (x.length - 1) 0 (nth x 0)) = .brk y0) (x.length - 1) (nth x 0) (Qc (by kernel_rfl)) rfl (fun k0 s0 hk0 hI0 => ?_) (fun k0 s0 hk0 hI0 => ?_) (fun y0 hD0 => ?_)
 ·
  refine Qa ?_
  refine Qa ?_
  refine rk Qb [(15, .b true)] [] [] [] [(2, .val (.i (x.length : Int))), (3, .val (.b true))] (o2 (Qe (Q7 x)) (o1 (Qe (Qd (decide_eq_true (p := ((k0 + 1 : Nat) : Int) < (x.length : Int)) (by omega)))))) ?_
  refine ckT ?_
  refine Qg ?_
  refine Qa ?_
  refine Qy ?_
  have hx4 : x[(k0 + 1)]? = some (nth x (k0 + 1)) := Xo (by omega)
  refine rk Qb [(3, .i (max s0 (nth x (k0 + 1))))] [3, 15] [] [] [(3, .row [.i (nth x (k0 + 1))])] (o1 (Qk (Xe (i := ((k0 + 1 : Nat) : Int)) (by omega) rfl hx4))) ?_
  refine rk Qb [(4, .i ((k0 + 2 : Nat) : Int))] [4] [] [] [(1, .val (.i ((k0 + 2 : Nat) : Int)))] (o1 (Qe (show .i (IntKind.i64.wrap (((k0 + 1 : Nat) : Int) + 1)) = .i ((k0 + 2 : Nat) : Int) from Ku ((IntWalk.i64_in _ (by omega)).trans (by omega))))) ?_
  exact Exists.intro (max s0 (nth x (k0 + 1))) (And.intro (Qc (by kernel_rfl)) (Vv hk0 (rfl) hI0))
 ·
  refine Qa ?_
  refine Qa ?_
  refine rk Qb [(15, .b false)] [] [] [] [(2, .val (.i (x.length : Int))), (3, .val (.b false))] (o2 (Qe (Q7 x)) (o1 (Qe (Qd (decide_eq_false (p := ((k0 + 1 : Nat) : Int) < (x.length : Int)) (by omega)))))) ?_
  refine ckF ?_
  refine Xc ?_
  exact Exists.intro s0 (And.intro (Qc (by kernel_rfl)) (forN_end hk0 (rfl) hI0))
 ·
  refine Qa ?_
  refine rk Qb [(2, .i y0)] [2, 3] [] [] [] (o0) ?_
  refine Qj ?_
  exact Y2 [] (congrArg (fun z => (.i z : AV)) (show Wx x = y0 from on_b hD0 (rfl)).symm)
def Y3 (d : (List Zh)) : Int := (bif ((!(((Ql d)).2)) || (((((Ql d)).1).length : Int) == (0 : Int))) then -1 else (Wx (((Ql d)).1)))
theorem implMaxStratum_a (d : (List Zh)) : ACalls Tryz.prog 177 [.h d] (.i (Y3 d)) := by
 refine Qn (tt := tt) Qb Tryz.func177 (fn := Tryz.f177) rfl (by unfold Js; kernel_rfl) (Nat.le_of_ble_eq_true rfl) fun w0 F0 => ?_
 refine Qa ?_
 refine rk Qb [(2, .i 0)] [] [] [] [] (o0) ?_
 refine Qa ?_
 refine rk Qb [(3, .o 448 (((Ql d)).1)), (4, .b (((Ql d)).2))] [0] [] [] [(1, .val (.tup [(false, [.o 0 (((Ql d)).1)]), (false, [.b (((Ql d)).2)])]))] (o1 (Qf (implStrata_a d))) ?_
 refine Qa ?_
 refine Qa ?_
 refine jn [(16, .b ((!(((Ql d)).2)) || (((((Ql d)).1).length : Int) == (0 : Int))))] [4] [] [] (!(((Ql d)).2)) (fun h1 => ?_) (fun h1 => ?_) ?_
 ·
  have h1n : (((Ql d)).2) = false := bnot_t h1
  refine rk Qb [(16, .b true)] [4] [] [] [(0, .val (.b false)), (1, .val (.b true))] (o2 (Qe (Qd h1n)) (o1 (Qe (show .b (!false) = .b true from rfl)))) ?_
  exact ⟨rfl, Qc (by rw [h1]; first | done | kernel_rfl)⟩
 ·
  have h1n : (((Ql d)).2) = true := Vw h1
  refine rk Qb [(16, .b (((((Ql d)).1).length : Int) == (0 : Int)))] [4] [] [] [(0, .val (.b true)), (1, .val (.b false)), (4, .val (.i ((((Ql d)).1).length : Int)))] (o2 (Qe (Qd h1n)) (o2 (Qe (show .b (!true) = .b false from rfl)) (o1 (Qe (Q7 (((Ql d)).1)))))) ?_
  exact ⟨rfl, Qc (by rw [h1]; first | done | kernel_rfl)⟩
 refine ck ((!(((Ql d)).2)) || (((((Ql d)).1).length : Int) == (0 : Int))) (fun h2 => ?_) (fun h2 => ?_)
 ·
  refine Qa ?_
  refine rk Qb [(2, .i (-1))] [2, 16] [] [] [] (o0) ?_
  refine Qj ?_
  exact Y2 [] (congrArg (fun z => (.i z : AV)) (show Y3 d = -1 from X0 h2 (rfl)).symm)
 ·
  have h2l : ((!(((Ql d)).2))) = false := or_l h2
  have h2ln : (((Ql d)).2) = true := Vw h2l
  have h2r : ((((((Ql d)).1).length : Int) == (0 : Int))) = false := or_r h2
  have h2rd := Zc h2r
  refine Qg ?_
  refine Qa ?_
  refine rk Qb [(2, .i (Wx (((Ql d)).1)))] [2, 3, 16] [] [] [(1, .val (.i (Wx (((Ql d)).1))))] (o1 (Qf (slicesMax_int_a (((Ql d)).1) (by first | omega | (simp_all; omega))))) ?_
  refine Qj ?_
  exact Y2 [] (congrArg (fun z => (.i z : AV)) (show Y3 d = (Wx (((Ql d)).1)) from Qv h2 (rfl)).symm)
def Wy (s2_ : (List Int)) (k0 : Nat) (a0 : Int) (_ : Unit) : Rd (Bool) (Unit) (Unit) := (bif (a0 != (nth s2_ k0)) then (.ret false) else (.next ()))
def slicesEqual_int_e0 (_ : Nat) (_ : Unit) : Unit := ()
def Yu (s1_ : (List Int)) (s2_ : (List Int)) : Bool := (bif ((s1_.length : Int) != (s2_.length : Int)) then false else (Out.on (Xf (Wy s2_) slicesEqual_int_e0 s1_ 0 ()) (fun _ => true)))
theorem slicesEqual_int_a (s1_ : (List Int)) (s2_ : (List Int)) : ACalls Tryz.prog 78 [.h s1_, .h s2_] (.b (Yu s1_ s2_)) := by
 refine Qn (tt := tt) Qb Tryz.func78 (fn := Tryz.f78) rfl (by unfold Js; kernel_rfl) (Nat.le_of_ble_eq_true rfl) fun w0 F0 => ?_
 refine Qa ?_
 refine rk Qb [(4, .b false)] [] [] [] [] (o0) ?_
 refine Qa ?_
 refine Qa ?_
 refine rk Qb [(10, .b ((s1_.length : Int) != (s2_.length : Int)))] [] [] [] [(1, .val (.i (s1_.length : Int))), (3, .val (.i (s2_.length : Int)))] (o2 (Qe (Q7 s1_)) (o1 (Qe (Q7 s2_)))) ?_
 refine ck ((s1_.length : Int) != (s2_.length : Int)) (fun h1 => ?_) (fun h1 => ?_)
 ·
  refine Qa ?_
  refine rk Qb [] [10] [] [] [] (o0) ?_
  refine Qj ?_
  exact Y2 [] (congrArg (fun z => (.b z : AV)) (show Yu s1_ s2_ = false from X0 h1 (rfl)).symm)
 ·
  have h1d := eq_of_bne h1
  refine Qg ?_
  refine Qa ?_
  refine Qa ?_
  refine rk Qb [(12, .i (s1_.length : Int)), (13, .i 0)] [10] [] [] [(1, .val (.i (s1_.length : Int)))] (o1 (Qe (Q7 s1_))) ?_
  refine wdT 0 0 .sh s1_ (fun hw2 => ?_)
  have hl3 : List.length s1_ ≤ 1073741824 := Qo (hw2)
  refine blk (fun (k0 : Nat) (s0 : Unit) => [(13, .i ((k0 : Nat) : Int))]) [13] (fun k0 s0 => []) [] (fun (y0 : Unit) => []) [0, 1, 12, 13] (fun y0 => []) [] (fun (k0 : Nat) (s0 : Unit) => (Xf (Wy s2_) slicesEqual_int_e0 s1_ 0 ()) = Xf (Wy s2_) slicesEqual_int_e0 (List.drop k0 s1_) k0 s0) (fun (y0 : Unit) => (Xf (Wy s2_) slicesEqual_int_e0 s1_ 0 ()) = .brk y0) s1_.length () (Qc (by kernel_rfl)) rfl (fun k0 s0 hk0 hI0 => ?_) (fun k0 s0 hk0 hI0 => ?_) (fun y0 hD0 => ?_)
  ·
   obtain ⟨a0, hx0⟩ := Xw (l := s1_) (i := k0) hk0
   refine Qa ?_
   refine rk Qb [(14, .b true)] [] [] [] [(0, .val (.b true))] (o1 (Qe (Qd (decide_eq_true (p := ((k0 : Nat) : Int) < (s1_.length : Int)) (by omega))))) ?_
   refine Qa ?_
   refine ckT ?_
   refine Qg ?_
   refine Qa ?_
   refine Qy ?_
   refine Qa ?_
   refine rk Qb [(5, .i ((k0 : Nat) : Int))] [14] [] [] [] (o0) ?_
   refine Qa ?_
   refine wdT 1 0 .sh s2_ (fun hw5 => ?_)
   have hl6 : List.length s2_ ≤ 1073741824 := Qo (hw5)
   have hx4 : s2_[k0]? = some (nth s2_ k0) := Xo (by omega)
   refine rd' Qb Zn [(24, .b (a0 != (nth s2_ k0)))] [5] [] [] [(2, .row [.i a0]), (6, .row [.i (nth s2_ k0)])] (o2 (Qk (Xe (i := ((k0 : Nat) : Int)) (by omega) rfl hx0)) (o1 (Qk (Xe (i := ((k0 : Nat) : Int)) (by omega) rfl hx4)))) ?_
   refine ck (a0 != (nth s2_ k0)) (fun h7 => ?_) (fun h7 => ?_)
   ·
    refine Qa ?_
    refine rk Qb [] [24] [] [] [] (o0) ?_
    refine Qj ?_
    have hr8 : (Xf (Wy s2_) slicesEqual_int_e0 s1_ 0 ()) = .ret false := Jd hx0 (X0 h7 (rfl)) hI0
    exact Y2 [] (congrArg (fun z => (.b z : AV)) (show Yu s1_ s2_ = false from Qv h1 (on_r hr8)).symm)
   ·
    have h7d := eq_of_bne h7
    refine Qg ?_
    refine rk Qb [(13, .i ((k0 + 1 : Nat) : Int))] [13, 24] [] [] [(0, .val (.i ((k0 + 1 : Nat) : Int)))] (o1 (Qe (Ku (Qr k0 (by omega))))) ?_
    exact Exists.intro () (And.intro (Qc (by kernel_rfl)) (Qx hx0 (Qv h7 (rfl)) hI0))
  ·
   refine Qa ?_
   refine rk Qb [(14, .b false)] [] [] [] [(0, .val (.b false))] (o1 (Qe (Qd (decide_eq_false (p := ((k0 : Nat) : Int) < (s1_.length : Int)) (by omega))))) ?_
   refine Qa ?_
   refine ckF ?_
   refine Xc ?_
   exact Exists.intro () (And.intro (Qc (by kernel_rfl)) (Xx hk0 (rfl) hI0))
  ·
   refine Qa ?_
   refine rk Qb [(4, .b true)] [4] [] [] [] (o0) ?_
   refine Qj ?_
   exact Y2 [] (congrArg (fun z => (.b z : AV)) (show Yu s1_ s2_ = true from Qv h1 (on_b hD0 (rfl))).symm)
def Jp (r : (List Qi)) (names : (List ByteArray)) (_ : Nat) (a0 : Zh) (s0 : (List Qi)) : Rd ((List Qi) × Int × Bool) ((List Qi)) ((List Qi)) := (bif (!(Q2 names a0.1)) then (.next (s0 ++ [(a0.1, (Q4 r a0.1))])) else (.next (s0 ++ [((a0.1, []) : Qi)])))
def Vs (_ : Nat) (s0 : (List Qi)) : (List Qi) := s0
def Z7 (s_ : Yn) (d : (List Zh)) (names : (List ByteArray)) (k1 : Nat) (k3 : Nat) (a3 : Zh) (s3 : (List Qi) × Bool) : Rd (Rd (Rd ((List Qi) × Int × Bool) ((List Qi) × Int) ((List Qi) × Int)) ((List Qi) × Int × Bool) ((List Qi) × Int)) ((List Qi) × Bool) ((List Qi) × Bool) := (bif (((nth (((Ql d)).1) k3) != ((k1 : Nat) : Int)) || (!(Q2 names a3.1))) then (.next (s3.1, s3.2)) else (bif (!(Yu (Xl s_ a3.2 s3.1) ((nth s3.1 k3).2))) then (.next (List.set s3.1 k3 ((nth s3.1 k3).1, (Xl s_ a3.2 s3.1)), true)) else (.next (s3.1, s3.2))))
def Wq (_ : Nat) (s3 : (List Qi) × Bool) : (List Qi) × Bool := (s3.1, s3.2)
def Jq (s_ : Yn) (d : (List Zh)) (names : (List ByteArray)) (k1 : Nat) (s2 : (List Qi) × Int × Bool) : Rd (Rd ((List Qi) × Int × Bool) ((List Qi) × Int) ((List Qi) × Int)) ((List Qi) × Int × Bool) ((List Qi) × Int) := (bif s2.2.2 then (Out.on (Xf (Z7 s_ d names k1) Wq d 0 (s2.1, false)) (fun y3 => (.next (y3.1, IntKind.i64.wrap (s2.2.1 + 1), y3.2)))) else (.brk (s2.1, s2.2.1)))
def Wr (s_ : Yn) (d : (List Zh)) (names : (List ByteArray)) (k1 : Nat) (s1 : (List Qi) × Int) : Rd ((List Qi) × Int × Bool) ((List Qi) × Int) ((List Qi) × Int) := (Out.on (whlD (Jq s_ d names k1) (List.length d * List.length s_.2.1 + 2) (s1.1, s1.2, true)) (fun y2 => (.next (y2.1, y2.2))))
def implevaluated_e1 (_ : Nat) (s1 : (List Qi) × Int) : (List Qi) × Int := (s1.1, s1.2)
def Y1 (s_ : Yn) (d : (List Zh)) (r : (List Qi)) (names : (List ByteArray)) : (List Qi) × Int × Bool := (bif ((!(((Ql d)).2)) || (!(X2 s_))) then ([], 0, false) else (Out.on (Xf (Jp r names) Vs d 0 []) (fun y0 => (Out.on (forN (Wr s_ d names) implevaluated_e1 (Int.toNat ((Y3 d) + 1)) 0 (y0, 0)) (fun y1 => (y1.1, y1.2, true))))))
theorem max_go {B : Int} {x : List Int} (hx : ∀ a, a ∈ x → a ≤ B) (hB : 0 ≤ B) : ∀ (n k : Nat) (s : Int), s ≤ B → ∃ t, forN (Kp x) Wp n k s = .brk t ∧ t ≤ B
 | 0, k, s, h => ⟨s, rfl, h⟩
 | n + 1, k, s, h => by
  obtain ⟨t, h1, h2⟩ := max_go hx hB n (k + 1) (max s (nth x (k + 1))) (by
   by_cases hk : k + 1 < x.length
   · have := hx _ (nth_mem hk); omega
   · rw [nth_out (by omega)]; omega)
  exact ⟨t, by simp only [forN, Kp]; exact h1, h2⟩
theorem strata_factsI {d : List Zh} (h : ((Ql d)).2 = true) : List.length ((Ql d)).1 = List.length d ∧ List.length d ≤ 5 ∧ Y3 d ≤ 5 := by
 obtain ⟨h1, h2, h3⟩ := strata_small h
 refine ⟨h1, h2, ?_⟩
 unfold Y3
 rw [h]
 simp only [Bool.not_true, Bool.false_or]
 cases hl : (((((Ql d)).1).length : Int) == (0 : Int)) with
 | true => simp only [cond_true]; omega
 | false =>
  simp only [cond_false]
  have hp : 0 < (((Ql d)).1).length := by have := Zc hl; omega
  unfold Wx
  obtain ⟨t, e, ht⟩ := max_go (B := 5) (x := ((Ql d)).1) (fun a ha => (h3 a ha).2) (by omega) ((((Ql d)).1).length - 1) 0 (nth ((Ql d)).1 0) (h3 _ (nth_mem hp)).2
  rw [e]; exact ht
theorem eqI_dec (a b : List Int) : Yu a b = decide (a = b) := ints_dec a b
def onD (d : List Zh) (names : List ByteArray) (j : Nat) : Bool := Q2 names (nth d j).1
theorem evaluated_step (s_ : Yn) (d : List Zh) (names : List ByteArray) (k1 : Nat) : StepE s_ d (Ql d).1 (onD d names) (k1 : Int) (Z7 s_ d names k1) := by
 intro k a o c hk
 have ha : nth d k = a := nth_of hk
 unfold Z7 actD onD
 rw [ha, eqI_dec]
 simp only [bne]
 cases (nth (Ql d).1 k == (k1 : Int)) <;> cases Q2 names a.1 <;> rfl
section
variable {s_ : Yn} {d : List Zh} {names : List ByteArray} {k1 : Nat} {o : List Qi} {p : Int}
theorem evaluated_run (hS : ((Ql d)).2 = true) (h : EvS d ((Ql d)).1 (onD d names) (List.length s_.2.1) (k1 : Int) o) : ∃ o' p', whl (Jq s_ d names k1) (List.length d * List.length s_.2.1 + 2) (o, p, true) = some (.brk (o', p')) ∧ EvS d ((Ql d)).1 (onD d names) (List.length s_.2.1) ((k1 : Int) + 1) o' :=
 ev_run (f := Z7 s_ d names k1) (e := Wq) (evaluated_step s_ d names k1) (fun _ _ => rfl) (fun _ => rfl) (Prod.ext rfl hS) h p
theorem evaluated_w (hS : ((Ql d)).2 = true) (h : EvS d ((Ql d)).1 (onD d names) (List.length s_.2.1) (((k1 : Nat)) : Int) o) : (whl (Jq s_ d names k1) (List.length d * List.length s_.2.1 + 2) (o, p, true)).isSome = true := by
 obtain ⟨o', p', h1, _⟩ := evaluated_run (p := p) hS h
 rw [h1]; rfl
theorem evaluated_next {y : List Qi × Int} (hS : ((Ql d)).2 = true) (h : EvS d ((Ql d)).1 (onD d names) (List.length s_.2.1) (((k1 : Nat)) : Int) o) (hy : whlD (Jq s_ d names k1) (List.length d * List.length s_.2.1 + 2) (o, p, true) = .brk y) : EvS d ((Ql d)).1 (onD d names) (List.length s_.2.1) ((((k1 + 1) : Nat)) : Int) y.1 := by
 obtain ⟨o', p', h1, h2⟩ := evaluated_run (p := p) hS h
 unfold whlD at hy
 rw [h1] at hy
 have e : (o', p') = y := by simpa using hy
 rw [← e, Int.natCast_add]; exact h2
def startG (r : List Qi) (names : List ByteArray) (a : Zh) : List Int := bif (!(Q2 names a.1)) then (Q4 r a.1) else []
theorem Vc {r : List Qi} (hy : Xf (Jp r names) Vs d 0 [] = .brk o) : EvS d ((Ql d)).1 (onD d names) (List.length s_.2.1) (((0 : Nat)) : Int) o := by
 obtain ⟨h1, h2⟩ := ev_start (L := ((Ql d)).1) (on := onD d names) (B := List.length s_.2.1) (g := startG r names) (f := Jp r names) (e := Vs) (d := d) (fun k a s => by
  unfold Jp startG
  cases Q2 names a.1 <;> rfl) (fun j _ hj => by unfold onD at hj; unfold startG; rw [hj]; rfl)
 rw [h1] at hy
 have e : (d.map fun a => ((a.1, startG r names a) : Qi)) = o := Out.brk.inj hy
 rw [← e]; exact h2
end
theorem implevaluated_a (s_ : Yn) (d : (List Zh)) (r : (List Qi)) (names : (List ByteArray)) : ACalls Tryz.prog 134 [.a [.h s_.1, .h s_.2.1, .i s_.2.2], .h d, .h r, .h names] (.tup [(false, [.o 0 (((Y1 s_ d r names)).1)]), (false, [.i (((Y1 s_ d r names)).2.1)]), (false, [.b (((Y1 s_ d r names)).2.2)])]) := by
 refine Qn (tt := tt) Qb Tryz.func134 (fn := Tryz.f134) rfl (by unfold Js; kernel_rfl) (Nat.le_of_ble_eq_true rfl) fun w0 F0 => ?_
 refine Qa ?_
 refine rk Qb [(4, .p 4 0), (8, .e 0), (9, .i 0), (10, .b false)] [0] [(4, [.h s_.1, .h s_.2.1, .i s_.2.2])] [] [] (o0) ?_
 refine Qa ?_
 refine rk Qb [(11, .o 1600 (((Ql d)).1)), (12, .b (((Ql d)).2))] [] [] [] [(1, .val (.tup [(false, [.o 0 (((Ql d)).1)]), (false, [.b (((Ql d)).2)])]))] (o1 (Qf (implStrata_a d))) ?_
 refine Qa ?_
 refine Qa ?_
 refine jn [(34, .b ((!(((Ql d)).2)) || (!(X2 s_))))] [12] [] [] (!(((Ql d)).2)) (fun h1 => ?_) (fun h1 => ?_) ?_
 ·
  have h1n : (((Ql d)).2) = false := bnot_t h1
  refine rk Qb [(34, .b true)] [12] [] [] [(0, .val (.b false)), (1, .val (.b true))] (o2 (Qe (Qd h1n)) (o1 (Qe (show .b (!false) = .b true from rfl)))) ?_
  exact ⟨rfl, Qc (by rw [h1]; first | done | kernel_rfl)⟩
 ·
  have h1n : (((Ql d)).2) = true := Vw h1
  have h1nsf := strata_factsI h1n
  refine rk Qb [(34, .b (!(X2 s_)))] [12] [] [] [(0, .val (.b true)), (1, .val (.b false)), (4, .val (.b (X2 s_)))] (o2 (Qe (Qd h1n)) (o2 (Qe (show .b (!true) = .b false from rfl)) (o1 (Qf (implIsValidStore_a s_))))) ?_
  exact ⟨rfl, Qc (by rw [h1]; first | done | kernel_rfl)⟩
 refine ck ((!(((Ql d)).2)) || (!(X2 s_))) (fun h2 => ?_) (fun h2 => ?_)
 ·
  refine Qa ?_
  refine rk Qb [] [34] [] [] [] (o0) ?_
  refine opn [(false, 8, 0, true, 384000, 2)] ?_
  refine Qj ?_
  exact Y2 [] (congrArg (fun z => (.tup [(false, [.o 0 z.1]), (false, [.i z.2.1]), (false, [.b z.2.2])] : AV)) (show Y1 s_ d r names = ([], 0, false) from X0 h2 (rfl)).symm)
 ·
  have h2l : ((!(((Ql d)).2))) = false := or_l h2
  have h2ln : (((Ql d)).2) = true := Vw h2l
  have h2lnsf := strata_factsI h2ln
  have h2r : ((!(X2 s_))) = false := or_r h2
  have h2rn : (X2 s_) = true := Vw h2r
  refine Qg ?_
  refine Qa ?_
  refine rk Qb [(13, .one (.slc (.own true 2240) 2 []))] [34] [] [] [] (o0) ?_
  refine Qa ?_
  refine Qa ?_
  refine rk Qb [(36, .h d), (37, .i (d.length : Int)), (38, .i 0)] [] [] [] [(1, .val (.i (d.length : Int)))] (o1 (Qe (Q7 d))) ?_
  refine wdT 1 0 .sh d (fun hw3 => ?_)
  have hl4 : List.length d ≤ 1073741824 := Qo (hw3)
  refine blk (fun (k0 : Nat) (s0 : (List Qi)) => [(13, .o 147208 s0), (38, .i ((k0 : Nat) : Int))]) [13, 38] (fun k0 s0 => []) [] (fun (y0 : (List Qi)) => [(13, .o 147358 y0)]) [2, 13, 36, 37, 38] (fun y0 => []) [] (fun (k0 : Nat) (s0 : (List Qi)) => (Xf (Jp r names) Vs d 0 []) = Xf (Jp r names) Vs (List.drop k0 d) k0 s0 ∧ List.length s0 ≤ k0) (fun (y0 : (List Qi)) => (Xf (Jp r names) Vs d 0 []) = .brk y0) d.length [] (Zj [(2240, 147208)] (by kernel_rfl)) ⟨rfl, (by simp)⟩ (fun k0 s0 hk0 hI0 => ?_) (fun k0 s0 hk0 hI0 => ?_) (fun y0 hD0 => ?_)
  ·
   have hA0_0 := hI0.2
   obtain ⟨a0, hx0⟩ := Xw (l := d) (i := k0) hk0
   refine Qa ?_
   refine rk Qb [(39, .b true)] [] [] [] [(0, .val (.b true))] (o1 (Qe (Qd (decide_eq_true (p := ((k0 : Nat) : Int) < (d.length : Int)) (by omega))))) ?_
   refine Qa ?_
   refine ckT ?_
   refine Qg ?_
   refine Qa ?_
   refine Qy ?_
   refine Qa ?_
   refine rk Qb [(15, .p 15 0)] [39] [(15, [.s a0.1, .h a0.2])] [] [(0, .row [.s a0.1, .h a0.2])] (o1 (Qk (Xe (i := ((k0 : Nat) : Int)) (by omega) rfl hx0))) ?_
   refine Qa ?_
   refine rk Qb [(16, .p 16 0)] [] [(16, [.s a0.1, .e 1])] [] [] (o0) ?_
   refine Qa ?_
   refine Qa ?_
   refine rk Qb [(49, .b (!(Q2 names a0.1)))] [] [] [] [(3, .val (.b (Q2 names a0.1)))] (o1 (Qf (slicesContains_string_a names a0.1))) ?_
   refine ck (!(Q2 names a0.1)) (fun h5 => ?_) (fun h5 => ?_)
   ·
    have h5n : (Q2 names a0.1) = false := bnot_t h5
    refine rk Qb [] [15, 49] [(16, [.s a0.1, .o 3392 (Q4 r a0.1)])] [15, 16] [(3, .val (.o 0 (Q4 r a0.1)))] (o1 (Qf (implResultIDs_a r a0.1))) ?_
    refine wdT 13 0 (.own true 147208) s0 (fun hw6 => ?_)
    have hl7 : List.length s0 ≤ 1073741824 := Qo (hw6)
    refine rk Qb [(13, .one (.slc (.own true 3712) 2 ((eL s0) ++ [[.s a0.1, .h (Q4 r a0.1)]])))] [13, 16] [] [16] [] (o1 (ob_len (len_of (Xb s0) (Xb [(a0.1, (Q4 r a0.1))]) (by first | omega | (simp; omega) | simp)))) ?_
    refine eqn [(13, .o 3712 (s0 ++ [(a0.1, (Q4 r a0.1))]))] [13] [] [] (by rw [show ((eL s0) ++ [[.s a0.1, .h (Q4 r a0.1)]]) = (eL (s0 ++ [(a0.1, (Q4 r a0.1))])) from app_eL (rfl) (rfl)]; first | done | kernel_rfl) ?_
    refine rk Qb [(38, .i ((k0 + 1 : Nat) : Int))] [38] [] [] [(0, .val (.i ((k0 + 1 : Nat) : Int)))] (o1 (Qe (Ku (Qr k0 (by omega))))) ?_
    exact Exists.intro (s0 ++ [(a0.1, (Q4 r a0.1))]) (And.intro (Zj [(3712, 147208)] (by kernel_rfl)) ⟨Qx hx0 (X0 h5 (rfl)) hI0.1, by first | omega | (simp; omega) | simp⟩)
   ·
    have h5n : (Q2 names a0.1) = true := Vw h5
    refine Qg ?_
    refine wdT 13 0 (.own true 147208) s0 (fun hw8 => ?_)
    have hl9 : List.length s0 ≤ 1073741824 := Qo (hw8)
    refine rk Qb [(13, .one (.slc (.own true 3712) 2 ((eL s0) ++ [[.s a0.1, .slc 1 []]])))] [13, 15, 16, 49] [] [15, 16] [] (o1 (ob_len (len_of (Xb s0) (Xb [((a0.1, []) : Qi)]) (by first | omega | (simp; omega) | simp)))) ?_
    refine eqn [(13, .o 3712 (s0 ++ [((a0.1, []) : Qi)]))] [13] [] [] (by rw [show ((eL s0) ++ [[.s a0.1, .slc 1 []]]) = (eL (s0 ++ [((a0.1, []) : Qi)])) from app_eL (rfl) (rfl)]; first | done | kernel_rfl) ?_
    refine rk Qb [(38, .i ((k0 + 1 : Nat) : Int))] [38] [] [] [(0, .val (.i ((k0 + 1 : Nat) : Int)))] (o1 (Qe (Ku (Qr k0 (by omega))))) ?_
    exact Exists.intro (s0 ++ [((a0.1, []) : Qi)]) (And.intro (Zj [(3712, 147208)] (by kernel_rfl)) ⟨Qx hx0 (Qv h5 (rfl)) hI0.1, by first | omega | (simp; omega) | simp⟩)
  ·
   have hA0_0 := hI0.2
   refine Qa ?_
   refine rk Qb [(39, .b false)] [] [] [] [(0, .val (.b false))] (o1 (Qe (Qd (decide_eq_false (p := ((k0 : Nat) : Int) < (d.length : Int)) (by omega))))) ?_
   refine Qa ?_
   refine ckF ?_
   refine Xc ?_
   exact Exists.intro s0 (And.intro (Zj [(147208, 147358)] (by kernel_rfl)) (Xx hk0 (rfl) hI0.1))
  ·
   refine Qa ?_
   refine rk Qb [(17, .i 0)] [] [] [] [] (o0) ?_
   refine Qa ?_
   refine Qa ?_
   refine rk Qb [(18, .i 0)] [] [] [] [] (o0) ?_
   refine blk (fun (k1 : Nat) (s1 : (List Qi) × Int) => [(13, .o 147358 s1.1), (17, .i s1.2), (18, .i ((k1 : Nat) : Int))]) [13, 17, 18] (fun k1 s1 => []) [] (fun (y1 : (List Qi) × Int) => [(13, .o 147358 y1.1), (17, .i y1.2)]) [1, 3, 4, 11, 13, 17, 18] (fun y1 => []) [4] (fun (k1 : Nat) (s1 : (List Qi) × Int) => (forN (Wr s_ d names) implevaluated_e1 (Int.toNat ((Y3 d) + 1)) 0 (y0, 0)) = forN (Wr s_ d names) implevaluated_e1 ((Int.toNat ((Y3 d) + 1)) - k1) k1 s1 ∧ EvS d ((Ql d)).1 (onD d names) (List.length s_.2.1) (((k1 : Nat)) : Int) s1.1 ∧ List.length s1.1 = List.length d) (fun (y1 : (List Qi) × Int) => (forN (Wr s_ d names) implevaluated_e1 (Int.toNat ((Y3 d) + 1)) 0 (y0, 0)) = .brk y1) (Int.toNat ((Y3 d) + 1)) (y0, 0) (Qc (by kernel_rfl)) ⟨rfl, (by first | exact Vc hD0 | exact Vc hD0.1 | exact evS_len (B := List.length s_.2.1) (Vc hD0) | exact evS_len (B := List.length s_.2.1) (Vc hD0.1)), (by first | exact Vc hD0 | exact Vc hD0.1 | exact evS_len (B := List.length s_.2.1) (Vc hD0) | exact evS_len (B := List.length s_.2.1) (Vc hD0.1))⟩ (fun k1 s1 hk1 hI1 => ?_) (fun k1 s1 hk1 hI1 => ?_) (fun y1 hD1 => ?_)
   ·
    have hA1_0 := hI1.2.1
    have hA1_1 := hI1.2.2
    refine Qa ?_
    refine Qa ?_
    refine rk Qb [(63, .b true)] [] [] [] [(2, .val (.i (Y3 d))), (3, .val (.b true))] (o2 (Qf (implMaxStratum_a d)) (o1 (Qe (Qd (decide_eq_true (p := ((k1 : Nat) : Int) ≤ (Y3 d)) (by omega)))))) ?_
    refine ckT ?_
    refine Qg ?_
    refine Qa ?_
    refine Qy ?_
    refine Qa ?_
    refine rk Qb [(19, .b true)] [63] [] [] [] (o0) ?_
    refine blw (fun (s2 : (List Qi) × Int × Bool) => [(13, .o 147358 s2.1), (17, .i s2.2.1), (19, .b s2.2.2)]) [13, 17, 19] (fun s2 => []) [] (fun (y2 : (List Qi) × Int) => [(13, .o 147358 y2.1), (17, .i y2.2)]) [13, 17, 19] (fun y2 => []) [] (fun (k2 : Nat) (s2 : (List Qi) × Int × Bool) => whl (Jq s_ d names k1) k2 s2 = some (whlD (Jq s_ d names k1) (List.length d * List.length s_.2.1 + 2) (s1.1, s1.2, true)) ∧ List.length s2.1 = List.length d) (fun (y2 : (List Qi) × Int) => (whlD (Jq s_ d names k1) (List.length d * List.length s_.2.1 + 2) (s1.1, s1.2, true)) = .brk y2) (List.length d * List.length s_.2.1 + 2) (s1.1, s1.2, true) (Qc (by kernel_rfl)) ⟨whl_some (evaluated_w (by assumption) (by assumption)), (by assumption)⟩ (fun _ h => whl_zero h.1) (fun k2 s2 hI2 => ?_) (fun y2 hD2 => ?_)
    ·
     have hA2_0 := hI2.2
     refine Qa ?_
     refine Qa ?_
     refine rk Qb [(66, .b s2.2.2)] [] [] [] [] (o0) ?_
     refine ck s2.2.2 (fun h10 => ?_) (fun h10 => ?_)
     ·
      refine Qg ?_
      refine Qy ?_
      refine Qa ?_
      refine rk Qb [(19, .b false)] [19, 66] [] [] [] (o0) ?_
      refine Qa ?_
      refine rk Qb [(17, .i (IntKind.i64.wrap (s2.2.1 + 1)))] [17] [] [] [] (o0) ?_
      refine Qa ?_
      refine rk Qb [(69, .h d), (70, .i (d.length : Int)), (71, .i 0)] [] [] [] [(1, .val (.i (d.length : Int)))] (o1 (Qe (Q7 d))) ?_
      refine blk (fun (k3 : Nat) (s3 : (List Qi) × Bool) => [(13, .o 147358 s3.1), (19, .b s3.2), (71, .i ((k3 : Nat) : Int))]) [13, 19, 71] (fun k3 s3 => []) [] (fun (y3 : (List Qi) × Bool) => [(13, .o 147358 y3.1), (19, .b y3.2)]) [13, 19, 69, 70, 71] (fun y3 => []) [] (fun (k3 : Nat) (s3 : (List Qi) × Bool) => (Xf (Z7 s_ d names k1) Wq d 0 (s2.1, false)) = Xf (Z7 s_ d names k1) Wq (List.drop k3 d) k3 s3 ∧ List.length s3.1 = List.length s2.1) (fun (y3 : (List Qi) × Bool) => (Xf (Z7 s_ d names k1) Wq d 0 (s2.1, false)) = .brk y3 ∧ List.length y3.1 = List.length s2.1) d.length (s2.1, false) (Qc (by kernel_rfl)) ⟨rfl, (by simp)⟩ (fun k3 s3 hk3 hI3 => ?_) (fun k3 s3 hk3 hI3 => ?_) (fun y3 hD3 => ?_)
      ·
       have hA3_0 := hI3.2
       obtain ⟨a3, hx3⟩ := Xw (l := d) (i := k3) hk3
       refine Qa ?_
       refine rk Qb [(72, .b true)] [] [] [] [(0, .val (.b true))] (o1 (Qe (Qd (decide_eq_true (p := ((k3 : Nat) : Int) < (d.length : Int)) (by omega))))) ?_
       refine Qa ?_
       refine ckT ?_
       refine Qg ?_
       refine Qa ?_
       refine Qy ?_
       refine Qa ?_
       refine rk Qb [(20, .i ((k3 : Nat) : Int)), (21, .p 21 0)] [72] [(21, [.s a3.1, .h a3.2])] [] [(1, .row [.s a3.1, .h a3.2])] (o1 (Qk (Xe (i := ((k3 : Nat) : Int)) (by omega) rfl hx3))) ?_
       refine Qa ?_
       refine Qa ?_
       refine jn [(88, .b (((nth (((Ql d)).1) k3) != ((k1 : Nat) : Int)) || (!(Q2 names a3.1))))] [] [] [] ((nth (((Ql d)).1) k3) != ((k1 : Nat) : Int)) (fun h11 => ?_) (fun h11 => ?_) ?_
       ·
        have h11d := ne_of_bne h11
        refine wdT 11 0 (.own true 1600) (((Ql d)).1) (fun hw13 => ?_)
        have hl14 : List.length (((Ql d)).1) ≤ 1073741824 := Qo (hw13)
        have hx12 : (((Ql d)).1)[k3]? = some (nth (((Ql d)).1) k3) := Xo (by omega)
        refine rk Qb [(88, .b true)] [] [] [] [(2, .rowE [.i (nth (((Ql d)).1) k3)]), (5, .val (.b true))] (o2 (Qk (Xe (i := ((k3 : Nat) : Int)) (by omega) rfl hx12)) (o1 (Qe (Qd h11)))) ?_
        exact ⟨rfl, Qc (by rw [h11]; first | done | kernel_rfl)⟩
       ·
        have h11d := eq_of_bne h11
        refine wdT 11 0 (.own true 1600) (((Ql d)).1) (fun hw16 => ?_)
        have hl17 : List.length (((Ql d)).1) ≤ 1073741824 := Qo (hw16)
        have hx15 : (((Ql d)).1)[k3]? = some (nth (((Ql d)).1) k3) := Xo (by omega)
        refine rk Qb [(88, .b (!(Q2 names a3.1)))] [] [] [] [(2, .rowE [.i (nth (((Ql d)).1) k3)]), (5, .val (.b false)), (10, .val (.b (Q2 names a3.1)))] (o2 (Qk (Xe (i := ((k3 : Nat) : Int)) (by omega) rfl hx15)) (o2 (Qe (Qd h11)) (o1 (Qf (slicesContains_string_a names a3.1))))) ?_
        exact ⟨rfl, Qc (by rw [h11]; first | done | kernel_rfl)⟩
       refine ck (((nth (((Ql d)).1) k3) != ((k1 : Nat) : Int)) || (!(Q2 names a3.1))) (fun h18 => ?_) (fun h18 => ?_)
       ·
        refine Xc ?_
        refine rk Qb [(71, .i ((k3 + 1 : Nat) : Int))] [20, 21, 71, 88] [] [21] [(0, .val (.i ((k3 + 1 : Nat) : Int)))] (o1 (Qe (Ku (Qr k3 (by omega))))) ?_
        exact Exists.intro (s3.1, s3.2) (And.intro (Qc (by kernel_rfl)) ⟨Qx hx3 (X0 h18 (rfl)) hI3.1, (by first | omega | (simp only [List.length_set]; omega))⟩)
       ·
        have h18l : (((nth (((Ql d)).1) k3) != ((k1 : Nat) : Int))) = false := or_l h18
        have h18ld := eq_of_bne h18l
        have h18r : ((!(Q2 names a3.1))) = false := or_r h18
        have h18rn : (Q2 names a3.1) = true := Vw h18r
        refine Qg ?_
        refine Qa ?_
        refine rk Qb [(22, .o 5952 (Xl s_ a3.2 s3.1))] [21, 88] [] [21] [(4, .val (.o 0 (Xl s_ a3.2 s3.1)))] (o1 (Qf (implSelectFiles_a s_ a3.2 s3.1))) ?_
        refine Qa ?_
        refine wdT 13 0 (.own true 147358) s3.1 (fun hw20 => ?_)
        have hl21 : List.length s3.1 ≤ 1073741824 := Qo (hw20)
        have hx19 : s3.1[k3]? = some (nth s3.1 k3) := Xo (by omega)
        refine rk Qb [(101, .b (!(Yu (Xl s_ a3.2 s3.1) ((nth s3.1 k3).2))))] [] [] [] [(3, .rowE [.s ((nth s3.1 k3).1), .h ((nth s3.1 k3).2)]), (6, .val (.b (Yu (Xl s_ a3.2 s3.1) ((nth s3.1 k3).2))))] (o2 (Qk (Xe (i := ((k3 : Nat) : Int)) (by omega) rfl hx19)) (o1 (Qf (slicesEqual_int_a (Xl s_ a3.2 s3.1) ((nth s3.1 k3).2))))) ?_
        refine ck (!(Yu (Xl s_ a3.2 s3.1) ((nth s3.1 k3).2))) (fun h22 => ?_) (fun h22 => ?_)
        ·
         have h22n : (Yu (Xl s_ a3.2 s3.1) ((nth s3.1 k3).2)) = false := bnot_t h22
         refine Qa ?_
         refine rk Qb [(13, .one (.slc (.own true 147358) 2 (setRow (eL s3.1) k3 1 [.h (Xl s_ a3.2 s3.1)])))] [13, 20, 22, 101] [] [] [(3, .rowE [.s ((nth s3.1 k3).1), .h ((nth s3.1 k3).2)])] (o1 (Qk (Xe (i := ((k3 : Nat) : Int)) (by omega) rfl hx19))) ?_
         refine eqn [(13, .o 147358 (List.set s3.1 k3 ((nth s3.1 k3).1, (Xl s_ a3.2 s3.1))))] [13] [] [] (by rw [J0 (y := ((nth s3.1 k3).1, (Xl s_ a3.2 s3.1))) hx19 rfl]; first | done | kernel_rfl) ?_
         refine rk Qb [(19, .b true)] [19] [] [] [] (o0) ?_
         refine rk Qb [(71, .i ((k3 + 1 : Nat) : Int))] [71] [] [] [(0, .val (.i ((k3 + 1 : Nat) : Int)))] (o1 (Qe (Ku (Qr k3 (by omega))))) ?_
         exact Exists.intro (List.set s3.1 k3 ((nth s3.1 k3).1, (Xl s_ a3.2 s3.1)), true) (And.intro (Qc (by kernel_rfl)) ⟨Qx hx3 (Qv h18 (X0 h22 (rfl))) hI3.1, (by first | omega | (simp only [List.length_set]; omega))⟩)
        ·
         have h22n : (Yu (Xl s_ a3.2 s3.1) ((nth s3.1 k3).2)) = true := Vw h22
         refine Qg ?_
         refine rk Qb [(71, .i ((k3 + 1 : Nat) : Int))] [20, 22, 71, 101] [] [] [(0, .val (.i ((k3 + 1 : Nat) : Int)))] (o1 (Qe (Ku (Qr k3 (by omega))))) ?_
         exact Exists.intro (s3.1, s3.2) (And.intro (Qc (by kernel_rfl)) ⟨Qx hx3 (Qv h18 (Qv h22 (rfl))) hI3.1, (by first | omega | (simp only [List.length_set]; omega))⟩)
      ·
       have hA3_0 := hI3.2
       refine Qa ?_
       refine rk Qb [(72, .b false)] [] [] [] [(0, .val (.b false))] (o1 (Qe (Qd (decide_eq_false (p := ((k3 : Nat) : Int) < (d.length : Int)) (by omega))))) ?_
       refine Qa ?_
       refine ckF ?_
       refine Xc ?_
       exact Exists.intro (s3.1, s3.2) (And.intro (Qc (by kernel_rfl)) ⟨Xx hk3 (rfl) hI3.1, by first | omega | (simp only [List.length_set]; omega)⟩)
      ·
       have hD3_0 := hD3.2
       exact Exists.intro (y3.1, IntKind.i64.wrap (s2.2.1 + 1), y3.2) (And.intro (Qc (by kernel_rfl)) ⟨whl_next (X0 h10 (on_b hD3.1 (rfl))) hI2.1, (by first | omega | (simp only [List.length_set]; omega))⟩)
     ·
      refine Xc ?_
      exact Exists.intro (s2.1, s2.2.1) (And.intro (Qc (by kernel_rfl)) (whl_brk (Qv h10 (rfl)) hI2.1))
    ·
     refine rk Qb [(18, .i ((k1 + 1 : Nat) : Int))] [18] [] [] [(1, .val (.i ((k1 + 1 : Nat) : Int)))] (o1 (Qe (Ku (Qr k1 (by omega))))) ?_
     exact Exists.intro (y2.1, y2.2) (And.intro (Qc (by kernel_rfl)) ⟨Vv hk1 (on_b hD2 (rfl)) hI1.1, (by first | exact evaluated_next (by assumption) (by assumption) (by assumption) | exact evS_len (B := List.length s_.2.1) (evaluated_next (by assumption) (by assumption) (by assumption))), (by first | exact evaluated_next (by assumption) (by assumption) (by assumption) | exact evS_len (B := List.length s_.2.1) (evaluated_next (by assumption) (by assumption) (by assumption)))⟩)
   ·
    have hA1_0 := hI1.2.1
    have hA1_1 := hI1.2.2
    refine Qa ?_
    refine Qa ?_
    refine rk Qb [(63, .b false)] [] [] [] [(2, .val (.i (Y3 d))), (3, .val (.b false))] (o2 (Qf (implMaxStratum_a d)) (o1 (Qe (Qd (decide_eq_false (p := ((k1 : Nat) : Int) ≤ (Y3 d)) (by omega)))))) ?_
    refine ckF ?_
    refine Xc ?_
    exact Exists.intro (s1.1, s1.2) (And.intro (Qc (by kernel_rfl)) (forN_end hk1 (rfl) hI1.1))
   ·
    refine Qa ?_
    refine rk Qb [(8, .o 147358 y1.1), (9, .i y1.2), (10, .b true)] [8, 9, 10, 13, 17] [] [] [] (o0) ?_
    refine Qj ?_
    exact Y2 [] (congrArg (fun z => (.tup [(false, [.o 0 z.1]), (false, [.i z.2.1]), (false, [.b z.2.2])] : AV)) (show Y1 s_ d r names = (y1.1, y1.2, true) from Qv h2 (on_b hD0 (on_b hD1 (rfl)))).symm)
def J5 (s_ : Yn) (d : (List Zh)) : (List Qi) × Bool := (((Y1 s_ d [] (Yf d))).1, ((Y1 s_ d [] (Yf d))).2.2)
theorem implEvaluate_a (s_ : Yn) (d : (List Zh)) : ACalls Tryz.prog 95 [.a [.h s_.1, .h s_.2.1, .i s_.2.2], .h d] (.tup [(false, [.o 0 (((J5 s_ d)).1)]), (false, [.b (((J5 s_ d)).2)])]) := by
 refine Qn (tt := tt) Qb Tryz.func95 (fn := Tryz.f95) rfl (by unfold Js; kernel_rfl) (Nat.le_of_ble_eq_true rfl) fun w0 F0 => ?_
 refine Qa ?_
 refine rk Qb [(2, .p 2 0), (4, .e 0), (5, .b false)] [0] [(2, [.h s_.1, .h s_.2.1, .i s_.2.2])] [] [] (o0) ?_
 refine Qa ?_
 refine rd' Qb Zn [(6, .o 896 (((Y1 s_ d [] (Yf d))).1)), (8, .b (((Y1 s_ d [] (Yf d))).2.2))] [1, 2] [] [2] [(3, .val (.o 0 (Yf d))), (4, .val (.tup [(false, [.o 0 (((Y1 s_ d [] (Yf d))).1)]), (false, [.i (((Y1 s_ d [] (Yf d))).2.1)]), (false, [.b (((Y1 s_ d [] (Yf d))).2.2)])]))] (o2 (Qf (implDirNames_a d)) (o1 (Qf (acalls_args (.cons (ArgLe.rfl _) ( .cons (ArgLe.rfl _) ( .cons (ArgLe.nil 2) ( .cons (ArgLe.rfl _) (.nil))))) (implevaluated_a s_ d [] (Yf d)))))) ?_
 refine Qa ?_
 refine rk Qb [(4, .o 896 (((Y1 s_ d [] (Yf d))).1)), (5, .b (((Y1 s_ d [] (Yf d))).2.2))] [4, 5, 6, 8] [] [] [] (o0) ?_
 refine Qj ?_
 exact Y2 [] (congrArg (fun z => (.tup [(false, [.o 0 z.1]), (false, [.b z.2])] : AV)) (show J5 s_ d = (((Y1 s_ d [] (Yf d))).1, ((Y1 s_ d [] (Yf d))).2.2) from rfl).symm)
def J6 (_ : Nat) (a0 : Int) (s0 : Int) : Rd (Int) (Int) (Int) := (bif decide (a0 > s0) then (.next a0) else (.next s0))
def V7 (_ : Nat) (s0 : Int) : Int := s0
def Zb (d : (List Zh)) : Int := (Out.on (Xf J6 V7 (((Q3 d)).1) 0 (-1)) (fun y0 => y0))
theorem specMaxStratum_a (d : (List Zh)) : ACalls Tryz.prog 169 [.h d] (.i (Zb d)) := by
 refine Qn (tt := tt) Qb Tryz.func169 (fn := Tryz.f169) rfl (by unfold Js; kernel_rfl) (Nat.le_of_ble_eq_true rfl) fun w0 F0 => ?_
 refine Qa ?_
 refine rk Qb [(2, .i 0)] [] [] [] [] (o0) ?_
 refine Qa ?_
 refine rk Qb [(3, .o 576 (((Q3 d)).1))] [0] [] [] [(1, .val (.tup [(false, [.o 0 (((Q3 d)).1)]), (false, [.b (((Q3 d)).2)])]))] (o1 (Qf (specStrata_a d))) ?_
 refine Qa ?_
 refine rk Qb [(5, .i (-1))] [] [] [] [] (o0) ?_
 refine Qa ?_
 refine Qa ?_
 refine rk Qb [(6, .i 0)] [] [] [] [] (o0) ?_
 refine wdT 3 0 (.own true 576) (((Q3 d)).1) (fun hw1 => ?_)
 have hl2 : List.length (((Q3 d)).1) ≤ 1073741824 := Qo (hw1)
 refine blk (fun (k0 : Nat) (s0 : Int) => [(5, .i s0), (6, .i ((k0 : Nat) : Int))]) [5, 6] (fun k0 s0 => []) [] (fun (y0 : Int) => [(5, .i y0)]) [3, 5, 6] (fun y0 => []) [] (fun (k0 : Nat) (s0 : Int) => (Xf J6 V7 (((Q3 d)).1) 0 (-1)) = Xf J6 V7 (List.drop k0 (((Q3 d)).1)) k0 s0) (fun (y0 : Int) => (Xf J6 V7 (((Q3 d)).1) 0 (-1)) = .brk y0) ((((Q3 d)).1).length) (-1) (Qc (by kernel_rfl)) rfl (fun k0 s0 hk0 hI0 => ?_) (fun k0 s0 hk0 hI0 => ?_) (fun y0 hD0 => ?_)
 ·
  obtain ⟨a0, hx0⟩ := Xw (l := ((Q3 d)).1) (i := k0) hk0
  refine Qa ?_
  refine Qa ?_
  refine rk Qb [(15, .b true)] [] [] [] [(2, .val (.i ((((Q3 d)).1).length : Int))), (3, .val (.b true))] (o2 (Qe (Q7 (((Q3 d)).1))) (o1 (Qe (Qd (decide_eq_true (p := ((k0 : Nat) : Int) < ((((Q3 d)).1).length : Int)) (by omega)))))) ?_
  refine ckT ?_
  refine Qg ?_
  refine Qa ?_
  refine Qy ?_
  refine Qa ?_
  refine rk Qb [(23, .b (decide (a0 > s0)))] [15] [] [] [(2, .rowE [.i a0])] (o1 (Qk (Xe (i := ((k0 : Nat) : Int)) (by omega) rfl hx0))) ?_
  refine ck (decide (a0 > s0)) (fun h3 => ?_) (fun h3 => ?_)
  ·
   have h3d := of_decide_eq_true h3
   refine rk Qb [(5, .i a0)] [5, 23] [] [] [(2, .rowE [.i a0])] (o1 (Qk (Xe (i := ((k0 : Nat) : Int)) (by omega) rfl hx0))) ?_
   refine rk Qb [(6, .i ((k0 + 1 : Nat) : Int))] [6] [] [] [(1, .val (.i ((k0 + 1 : Nat) : Int)))] (o1 (Qe (Ku (Qr k0 (by omega))))) ?_
   exact Exists.intro a0 (And.intro (Qc (by kernel_rfl)) (Qx hx0 (X0 h3 (rfl)) hI0))
  ·
   have h3d := of_decide_eq_false h3
   refine Qg ?_
   refine rk Qb [(6, .i ((k0 + 1 : Nat) : Int))] [6, 23] [] [] [(1, .val (.i ((k0 + 1 : Nat) : Int)))] (o1 (Qe (Ku (Qr k0 (by omega))))) ?_
   exact Exists.intro s0 (And.intro (Qc (by kernel_rfl)) (Qx hx0 (Qv h3 (rfl)) hI0))
 ·
  refine Qa ?_
  refine Qa ?_
  refine rk Qb [(15, .b false)] [] [] [] [(2, .val (.i ((((Q3 d)).1).length : Int))), (3, .val (.b false))] (o2 (Qe (Q7 (((Q3 d)).1))) (o1 (Qe (Qd (decide_eq_false (p := ((k0 : Nat) : Int) < ((((Q3 d)).1).length : Int)) (by omega)))))) ?_
  refine ckF ?_
  refine Xc ?_
  exact Exists.intro s0 (And.intro (Qc (by kernel_rfl)) (Xx hk0 (rfl) hI0))
 ·
  refine Qa ?_
  refine rk Qb [(2, .i y0)] [2, 5] [] [] [] (o0) ?_
  refine Qj ?_
  exact Y2 [] (congrArg (fun z => (.i z : AV)) (show Zb d = y0 from on_b hD0 (rfl)).symm)
def specl15Run_f0 (_ : Nat) (a0 : Zh) (s0 : (List Qi)) : Rd ((List Qi) × Int × Bool) ((List Qi)) ((List Qi)) := (.next (s0 ++ [((a0.1, []) : Qi)]))
def specl15Run_e0 (_ : Nat) (s0 : (List Qi)) : (List Qi) := s0
def K8 (s_ : Yn) (d : (List Zh)) (k1 : Nat) (k3 : Nat) (a3 : Zh) (s3 : (List Qi) × Bool) : Rd (Rd (Rd ((List Qi) × Int × Bool) ((List Qi) × Int) ((List Qi) × Int)) ((List Qi) × Int × Bool) ((List Qi) × Int)) ((List Qi) × Bool) ((List Qi) × Bool) := (bif ((nth (((Q3 d)).1) k3) != ((k1 : Nat) : Int)) then (.next (s3.1, s3.2)) else (bif (!(Yz (Ye s_ a3.2 s3.1) ((nth s3.1 k3).2))) then (.next (List.set s3.1 k3 ((nth s3.1 k3).1, (Ye s_ a3.2 s3.1)), true)) else (.next (s3.1, s3.2))))
def specl15Run_e3 (_ : Nat) (s3 : (List Qi) × Bool) : (List Qi) × Bool := (s3.1, s3.2)
def V2 (s_ : Yn) (d : (List Zh)) (k1 : Nat) (s2 : (List Qi) × Int × Bool) : Rd (Rd ((List Qi) × Int × Bool) ((List Qi) × Int) ((List Qi) × Int)) ((List Qi) × Int × Bool) ((List Qi) × Int) := (bif s2.2.2 then (Out.on (Xf (K8 s_ d k1) specl15Run_e3 d 0 (s2.1, false)) (fun y3 => (.next (y3.1, IntKind.i64.wrap (s2.2.1 + 1), y3.2)))) else (.brk (s2.1, s2.2.1)))
def specl15Run_f1 (s_ : Yn) (d : (List Zh)) (k1 : Nat) (s1 : (List Qi) × Int) : Rd ((List Qi) × Int × Bool) ((List Qi) × Int) ((List Qi) × Int) := (Out.on (whlD (V2 s_ d k1) (List.length d * List.length s_.2.1 + 2) (s1.1, s1.2, true)) (fun y2 => (.next (y2.1, y2.2))))
def specl15Run_e1 (_ : Nat) (s1 : (List Qi) × Int) : (List Qi) × Int := (s1.1, s1.2)
def Jl (s_ : Yn) (d : (List Zh)) : (List Qi) × Int × Bool := (bif ((!(((Q3 d)).2)) || (!(Yb s_))) then ([], 0, false) else (Out.on (Xf specl15Run_f0 specl15Run_e0 d 0 []) (fun y0 => (Out.on (forN (specl15Run_f1 s_ d) specl15Run_e1 (Int.toNat ((Zb d) + 1)) 0 (y0, 0)) (fun y1 => (y1.1, y1.2, true))))))
theorem maxS_go {B : Int} : ∀ (x : List Int) (k : Nat) (s : Int), (∀ a, a ∈ x → a ≤ B) → s ≤ B → ∃ t, Xf J6 V7 x k s = .brk t ∧ t ≤ B
 | [], k, s, _, h => ⟨s, rfl, h⟩
 | a :: x, k, s, hx, h => by
  simp only [Xf, J6]
  cases hc : decide (a > s) with
  | true => exact maxS_go x (k + 1) a (fun b hb => hx b (List.mem_cons_of_mem _ hb)) (hx a (List.mem_cons_self ..))
  | false => exact maxS_go x (k + 1) s (fun b hb => hx b (List.mem_cons_of_mem _ hb)) h
theorem strata_factsS {d : List Zh} (h : ((Q3 d)).2 = true) : List.length ((Q3 d)).1 = List.length d ∧ List.length d ≤ 5 ∧ Zb d ≤ 5 := by
 have h' := h
 rw [strata_alike] at h'
 obtain ⟨h1, h2, h3⟩ := strata_small h'
 unfold Zb
 rw [strata_alike]
 obtain ⟨t, e, ht⟩ := maxS_go (B := 5) ((Ql d)).1 0 (-1) (fun a ha => (h3 a ha).2) (by omega)
 refine ⟨h1, h2, ?_⟩
 rw [e]; exact ht
theorem l15Run_step (s_ : Yn) (d : List Zh) (k1 : Nat) : StepE s_ d (Ql d).1 (fun _ => true) (k1 : Int) (K8 s_ d k1) := by
 intro k a o c hk
 unfold K8 actD
 rw [ints_dec, strata_alike, ← select_eq]
 simp only [bne]
 cases (nth (Ql d).1 k == (k1 : Int)) <;> rfl
section
variable {s_ : Yn} {d : List Zh} {k1 : Nat} {o : List Qi} {p : Int}
theorem l15Run_run (hS : ((Q3 d)).2 = true) (h : EvS d ((Q3 d)).1 (fun _ => true) (List.length s_.2.1) (k1 : Int) o) : ∃ o' p', whl (V2 s_ d k1) (List.length d * List.length s_.2.1 + 2) (o, p, true) = some (.brk (o', p')) ∧ EvS d ((Q3 d)).1 (fun _ => true) (List.length s_.2.1) ((k1 : Int) + 1) o' := by
 rw [strata_alike] at hS h ⊢
 exact ev_run (f := K8 s_ d k1) (e := specl15Run_e3) (l15Run_step s_ d k1) (fun _ _ => rfl) (fun _ => rfl) (Prod.ext rfl hS) h p
theorem l15Run_w (hS : ((Q3 d)).2 = true) (h : EvS d ((Q3 d)).1 (fun _ => true) (List.length s_.2.1) (((k1 : Nat)) : Int) o) : (whl (V2 s_ d k1) (List.length d * List.length s_.2.1 + 2) (o, p, true)).isSome = true := by
 obtain ⟨o', p', h1, _⟩ := l15Run_run (p := p) hS h
 rw [h1]; rfl
theorem l15Run_next {y : List Qi × Int} (hS : ((Q3 d)).2 = true) (h : EvS d ((Q3 d)).1 (fun _ => true) (List.length s_.2.1) (((k1 : Nat)) : Int) o) (hy : whlD (V2 s_ d k1) (List.length d * List.length s_.2.1 + 2) (o, p, true) = .brk y) : EvS d ((Q3 d)).1 (fun _ => true) (List.length s_.2.1) ((((k1 + 1) : Nat)) : Int) y.1 := by
 obtain ⟨o', p', h1, h2⟩ := l15Run_run (p := p) hS h
 unfold whlD at hy
 rw [h1] at hy
 have e : (o', p') = y := by simpa using hy
 rw [← e, Int.natCast_add]; exact h2
theorem l15Run_start (hy : Xf specl15Run_f0 specl15Run_e0 d 0 [] = .brk o) : EvS d ((Q3 d)).1 (fun _ => true) (List.length s_.2.1) (((0 : Nat)) : Int) o := by
 obtain ⟨h1, h2⟩ := ev_start (L := ((Q3 d)).1) (on := fun _ => true) (B := List.length s_.2.1) (g := fun _ => []) (f := specl15Run_f0) (e := specl15Run_e0) (d := d) (fun k a s => rfl) (fun j _ hj => rfl)
 rw [h1] at hy
 have e : (d.map fun a => ((a.1, ([] : List Int)) : Qi)) = o := Out.brk.inj hy
 rw [← e]; exact h2
end
theorem specl15Run_a (s_ : Yn) (d : (List Zh)) : ACalls Tryz.prog 126 [.a [.h s_.1, .h s_.2.1, .i s_.2.2], .h d] (.tup [(false, [.o 0 (((Jl s_ d)).1)]), (false, [.i (((Jl s_ d)).2.1)]), (false, [.b (((Jl s_ d)).2.2)])]) := by
 refine Qn (tt := tt) Qb Tryz.func126 (fn := Tryz.f126) rfl (by unfold Js; kernel_rfl) (Nat.le_of_ble_eq_true rfl) fun w0 F0 => ?_
 refine Qa ?_
 refine rk Qb [(2, .p 2 0), (4, .e 0), (5, .i 0), (6, .b false)] [0] [(2, [.h s_.1, .h s_.2.1, .i s_.2.2])] [] [] (o0) ?_
 refine Qa ?_
 refine rk Qb [(7, .o 1152 (((Q3 d)).1)), (8, .b (((Q3 d)).2))] [] [] [] [(1, .val (.tup [(false, [.o 0 (((Q3 d)).1)]), (false, [.b (((Q3 d)).2)])]))] (o1 (Qf (specStrata_a d))) ?_
 refine Qa ?_
 refine Qa ?_
 refine jn [(27, .b ((!(((Q3 d)).2)) || (!(Yb s_))))] [8] [] [] (!(((Q3 d)).2)) (fun h1 => ?_) (fun h1 => ?_) ?_
 ·
  have h1n : (((Q3 d)).2) = false := bnot_t h1
  refine rk Qb [(27, .b true)] [8] [] [] [(0, .val (.b false)), (1, .val (.b true))] (o2 (Qe (Qd h1n)) (o1 (Qe (show .b (!false) = .b true from rfl)))) ?_
  exact ⟨rfl, Qc (by rw [h1]; first | done | kernel_rfl)⟩
 ·
  have h1n : (((Q3 d)).2) = true := Vw h1
  have h1nsf := strata_factsS h1n
  refine rk Qb [(27, .b (!(Yb s_)))] [8] [] [] [(0, .val (.b true)), (1, .val (.b false)), (4, .val (.b (Yb s_)))] (o2 (Qe (Qd h1n)) (o2 (Qe (show .b (!true) = .b false from rfl)) (o1 (Qf (specIsValidStore_a s_))))) ?_
  exact ⟨rfl, Qc (by rw [h1]; first | done | kernel_rfl)⟩
 refine ck ((!(((Q3 d)).2)) || (!(Yb s_))) (fun h2 => ?_) (fun h2 => ?_)
 ·
  refine Qa ?_
  refine rk Qb [(4, .one (.slc (.own true 1792) 2 []))] [4, 27] [] [] [] (o0) ?_
  refine Qj ?_
  exact Y2 [] (congrArg (fun z => (.tup [(false, [.o 0 z.1]), (false, [.i z.2.1]), (false, [.b z.2.2])] : AV)) (show Jl s_ d = ([], 0, false) from X0 h2 (rfl)).symm)
 ·
  have h2l : ((!(((Q3 d)).2))) = false := or_l h2
  have h2ln : (((Q3 d)).2) = true := Vw h2l
  have h2lnsf := strata_factsS h2ln
  have h2r : ((!(Yb s_))) = false := or_r h2
  have h2rn : (Yb s_) = true := Vw h2r
  refine Qg ?_
  refine Qa ?_
  refine rk Qb [(9, .one (.slc (.own true 1856) 2 []))] [27] [] [] [] (o0) ?_
  refine Qa ?_
  refine Qa ?_
  refine rk Qb [(10, .i 0)] [] [] [] [] (o0) ?_
  refine wdT 1 0 .sh d (fun hw3 => ?_)
  have hl4 : List.length d ≤ 1073741824 := Qo (hw3)
  refine blk (fun (k0 : Nat) (s0 : (List Qi)) => [(9, .o 147206 s0), (10, .i ((k0 : Nat) : Int))]) [9, 10] (fun k0 s0 => []) [] (fun (y0 : (List Qi)) => [(9, .o 147356 y0)]) [9, 10] (fun y0 => []) [] (fun (k0 : Nat) (s0 : (List Qi)) => (Xf specl15Run_f0 specl15Run_e0 d 0 []) = Xf specl15Run_f0 specl15Run_e0 (List.drop k0 d) k0 s0 ∧ List.length s0 ≤ k0) (fun (y0 : (List Qi)) => (Xf specl15Run_f0 specl15Run_e0 d 0 []) = .brk y0) d.length [] (Zj [(1856, 147206)] (by kernel_rfl)) ⟨rfl, (by simp)⟩ (fun k0 s0 hk0 hI0 => ?_) (fun k0 s0 hk0 hI0 => ?_) (fun y0 hD0 => ?_)
  ·
   have hA0_0 := hI0.2
   obtain ⟨a0, hx0⟩ := Xw (l := d) (i := k0) hk0
   refine Qa ?_
   refine Qa ?_
   refine rk Qb [(33, .b true)] [] [] [] [(2, .val (.i (d.length : Int))), (3, .val (.b true))] (o2 (Qe (Q7 d)) (o1 (Qe (Qd (decide_eq_true (p := ((k0 : Nat) : Int) < (d.length : Int)) (by omega)))))) ?_
   refine ckT ?_
   refine Qg ?_
   refine Qa ?_
   refine Qy ?_
   refine wdT 9 0 (.own true 147206) s0 (fun hw5 => ?_)
   have hl6 : List.length s0 ≤ 1073741824 := Qo (hw5)
   refine rk Qb [(9, .one (.slc (.own true 2880) 2 ((eL s0) ++ [[.s a0.1, .slc 1 []]])))] [9, 33] [] [] [(3, .row [.s a0.1, .h a0.2])] (o2 (Qk (Xe (i := ((k0 : Nat) : Int)) (by omega) rfl hx0)) (o1 (ob_len (len_of (Xb s0) (Xb [((a0.1, []) : Qi)]) (by first | omega | (simp; omega) | simp))))) ?_
   refine eqn [(9, .o 2880 (s0 ++ [((a0.1, []) : Qi)]))] [9] [] [] (by rw [show ((eL s0) ++ [[.s a0.1, .slc 1 []]]) = (eL (s0 ++ [((a0.1, []) : Qi)])) from app_eL (rfl) (rfl)]; first | done | kernel_rfl) ?_
   refine rk Qb [(10, .i ((k0 + 1 : Nat) : Int))] [10] [] [] [(1, .val (.i ((k0 + 1 : Nat) : Int)))] (o1 (Qe (Ku (Qr k0 (by omega))))) ?_
   exact Exists.intro (s0 ++ [((a0.1, []) : Qi)]) (And.intro (Zj [(2880, 147206)] (by kernel_rfl)) ⟨Qx hx0 (rfl) hI0.1, by first | omega | (simp; omega) | simp⟩)
  ·
   have hA0_0 := hI0.2
   refine Qa ?_
   refine Qa ?_
   refine rk Qb [(33, .b false)] [] [] [] [(2, .val (.i (d.length : Int))), (3, .val (.b false))] (o2 (Qe (Q7 d)) (o1 (Qe (Qd (decide_eq_false (p := ((k0 : Nat) : Int) < (d.length : Int)) (by omega)))))) ?_
   refine ckF ?_
   refine Xc ?_
   exact Exists.intro s0 (And.intro (Zj [(147206, 147356)] (by kernel_rfl)) (Xx hk0 (rfl) hI0.1))
  ·
   refine Qa ?_
   refine rk Qb [(11, .i 0)] [] [] [] [] (o0) ?_
   refine Qa ?_
   refine Qa ?_
   refine rk Qb [(12, .i 0)] [] [] [] [] (o0) ?_
   refine blk (fun (k1 : Nat) (s1 : (List Qi) × Int) => [(9, .o 147356 s1.1), (11, .i s1.2), (12, .i ((k1 : Nat) : Int))]) [9, 11, 12] (fun k1 s1 => []) [] (fun (y1 : (List Qi) × Int) => [(9, .o 147356 y1.1), (11, .i y1.2)]) [1, 2, 7, 9, 11, 12] (fun y1 => []) [2] (fun (k1 : Nat) (s1 : (List Qi) × Int) => (forN (specl15Run_f1 s_ d) specl15Run_e1 (Int.toNat ((Zb d) + 1)) 0 (y0, 0)) = forN (specl15Run_f1 s_ d) specl15Run_e1 ((Int.toNat ((Zb d) + 1)) - k1) k1 s1 ∧ EvS d ((Q3 d)).1 (fun _ => true) (List.length s_.2.1) (((k1 : Nat)) : Int) s1.1 ∧ List.length s1.1 = List.length d) (fun (y1 : (List Qi) × Int) => (forN (specl15Run_f1 s_ d) specl15Run_e1 (Int.toNat ((Zb d) + 1)) 0 (y0, 0)) = .brk y1) (Int.toNat ((Zb d) + 1)) (y0, 0) (Qc (by kernel_rfl)) ⟨rfl, (by first | exact l15Run_start hD0 | exact l15Run_start hD0.1 | exact evS_len (B := List.length s_.2.1) (l15Run_start hD0) | exact evS_len (B := List.length s_.2.1) (l15Run_start hD0.1)), (by first | exact l15Run_start hD0 | exact l15Run_start hD0.1 | exact evS_len (B := List.length s_.2.1) (l15Run_start hD0) | exact evS_len (B := List.length s_.2.1) (l15Run_start hD0.1))⟩ (fun k1 s1 hk1 hI1 => ?_) (fun k1 s1 hk1 hI1 => ?_) (fun y1 hD1 => ?_)
   ·
    have hA1_0 := hI1.2.1
    have hA1_1 := hI1.2.2
    refine Qa ?_
    refine Qa ?_
    refine rk Qb [(49, .b true)] [] [] [] [(2, .val (.i (Zb d))), (3, .val (.b true))] (o2 (Qf (specMaxStratum_a d)) (o1 (Qe (Qd (decide_eq_true (p := ((k1 : Nat) : Int) ≤ (Zb d)) (by omega)))))) ?_
    refine ckT ?_
    refine Qg ?_
    refine Qa ?_
    refine Qy ?_
    refine Qa ?_
    refine rk Qb [(13, .b true)] [49] [] [] [] (o0) ?_
    refine blw (fun (s2 : (List Qi) × Int × Bool) => [(9, .o 147356 s2.1), (11, .i s2.2.1), (13, .b s2.2.2)]) [9, 11, 13] (fun s2 => []) [] (fun (y2 : (List Qi) × Int) => [(9, .o 147356 y2.1), (11, .i y2.2)]) [9, 11, 13] (fun y2 => []) [] (fun (k2 : Nat) (s2 : (List Qi) × Int × Bool) => whl (V2 s_ d k1) k2 s2 = some (whlD (V2 s_ d k1) (List.length d * List.length s_.2.1 + 2) (s1.1, s1.2, true)) ∧ List.length s2.1 = List.length d) (fun (y2 : (List Qi) × Int) => (whlD (V2 s_ d k1) (List.length d * List.length s_.2.1 + 2) (s1.1, s1.2, true)) = .brk y2) (List.length d * List.length s_.2.1 + 2) (s1.1, s1.2, true) (Qc (by kernel_rfl)) ⟨whl_some (l15Run_w (by assumption) (by assumption)), (by assumption)⟩ (fun _ h => whl_zero h.1) (fun k2 s2 hI2 => ?_) (fun y2 hD2 => ?_)
    ·
     have hA2_0 := hI2.2
     refine Qa ?_
     refine Qa ?_
     refine rk Qb [(52, .b s2.2.2)] [] [] [] [] (o0) ?_
     refine ck s2.2.2 (fun h7 => ?_) (fun h7 => ?_)
     ·
      refine Qg ?_
      refine Qy ?_
      refine Qa ?_
      refine rk Qb [(13, .b false)] [13, 52] [] [] [] (o0) ?_
      refine Qa ?_
      refine rk Qb [(11, .i (IntKind.i64.wrap (s2.2.1 + 1)))] [11] [] [] [] (o0) ?_
      refine Qa ?_
      refine rk Qb [(14, .i 0)] [] [] [] [] (o0) ?_
      refine blk (fun (k3 : Nat) (s3 : (List Qi) × Bool) => [(9, .o 147356 s3.1), (13, .b s3.2), (14, .i ((k3 : Nat) : Int))]) [9, 13, 14] (fun k3 s3 => []) [] (fun (y3 : (List Qi) × Bool) => [(9, .o 147356 y3.1), (13, .b y3.2)]) [9, 13, 14] (fun y3 => []) [] (fun (k3 : Nat) (s3 : (List Qi) × Bool) => (Xf (K8 s_ d k1) specl15Run_e3 d 0 (s2.1, false)) = Xf (K8 s_ d k1) specl15Run_e3 (List.drop k3 d) k3 s3 ∧ List.length s3.1 = List.length s2.1) (fun (y3 : (List Qi) × Bool) => (Xf (K8 s_ d k1) specl15Run_e3 d 0 (s2.1, false)) = .brk y3 ∧ List.length y3.1 = List.length s2.1) d.length (s2.1, false) (Qc (by kernel_rfl)) ⟨rfl, (by simp)⟩ (fun k3 s3 hk3 hI3 => ?_) (fun k3 s3 hk3 hI3 => ?_) (fun y3 hD3 => ?_)
      ·
       have hA3_0 := hI3.2
       obtain ⟨a3, hx3⟩ := Xw (l := d) (i := k3) hk3
       refine Qa ?_
       refine Qa ?_
       refine rk Qb [(58, .b true)] [] [] [] [(2, .val (.i (d.length : Int))), (3, .val (.b true))] (o2 (Qe (Q7 d)) (o1 (Qe (Qd (decide_eq_true (p := ((k3 : Nat) : Int) < (d.length : Int)) (by omega)))))) ?_
       refine ckT ?_
       refine Qg ?_
       refine Qa ?_
       refine Qy ?_
       refine Qa ?_
       refine Qa ?_
       refine wdT 7 0 (.own true 1152) (((Q3 d)).1) (fun hw9 => ?_)
       have hl10 : List.length (((Q3 d)).1) ≤ 1073741824 := Qo (hw9)
       have hx8 : (((Q3 d)).1)[k3]? = some (nth (((Q3 d)).1) k3) := Xo (by omega)
       refine rk Qb [(66, .b ((nth (((Q3 d)).1) k3) != ((k1 : Nat) : Int)))] [58] [] [] [(2, .rowE [.i (nth (((Q3 d)).1) k3)])] (o1 (Qk (Xe (i := ((k3 : Nat) : Int)) (by omega) rfl hx8))) ?_
       refine ck ((nth (((Q3 d)).1) k3) != ((k1 : Nat) : Int)) (fun h11 => ?_) (fun h11 => ?_)
       ·
        have h11d := ne_of_bne h11
        refine Xc ?_
        refine rk Qb [(14, .i ((k3 + 1 : Nat) : Int))] [14, 66] [] [] [(1, .val (.i ((k3 + 1 : Nat) : Int)))] (o1 (Qe (Ku (Qr k3 (by omega))))) ?_
        exact Exists.intro (s3.1, s3.2) (And.intro (Qc (by kernel_rfl)) ⟨Qx hx3 (X0 h11 (rfl)) hI3.1, (by first | omega | (simp only [List.length_set]; omega))⟩)
       ·
        have h11d := eq_of_bne h11
        refine Qg ?_
        refine Qa ?_
        refine rd' Qb Zn [(15, .o 4736 (Ye s_ a3.2 s3.1))] [66] [] [] [(3, .row [.s a3.1, .h a3.2]), (7, .val (.o 0 (Ye s_ a3.2 s3.1)))] (o2 (Qk (Xe (i := ((k3 : Nat) : Int)) (by omega) rfl hx3)) (o1 (Qf (specSelectFiles_a s_ a3.2 s3.1)))) ?_
        refine Qa ?_
        refine wdT 9 0 (.own true 147356) s3.1 (fun hw13 => ?_)
        have hl14 : List.length s3.1 ≤ 1073741824 := Qo (hw13)
        have hx12 : s3.1[k3]? = some (nth s3.1 k3) := Xo (by omega)
        refine rk Qb [(82, .b (!(Yz (Ye s_ a3.2 s3.1) ((nth s3.1 k3).2))))] [] [] [] [(3, .rowE [.s ((nth s3.1 k3).1), .h ((nth s3.1 k3).2)]), (6, .val (.b (Yz (Ye s_ a3.2 s3.1) ((nth s3.1 k3).2))))] (o2 (Qk (Xe (i := ((k3 : Nat) : Int)) (by omega) rfl hx12)) (o1 (Qf (specl07Ints_a (Ye s_ a3.2 s3.1) ((nth s3.1 k3).2))))) ?_
        refine ck (!(Yz (Ye s_ a3.2 s3.1) ((nth s3.1 k3).2))) (fun h15 => ?_) (fun h15 => ?_)
        ·
         have h15n : (Yz (Ye s_ a3.2 s3.1) ((nth s3.1 k3).2)) = false := bnot_t h15
         refine Qa ?_
         refine rk Qb [(9, .one (.slc (.own true 147356) 2 (setRow (eL s3.1) k3 1 [.h (Ye s_ a3.2 s3.1)])))] [9, 15, 82] [] [] [(3, .rowE [.s ((nth s3.1 k3).1), .h ((nth s3.1 k3).2)])] (o1 (Qk (Xe (i := ((k3 : Nat) : Int)) (by omega) rfl hx12))) ?_
         refine eqn [(9, .o 147356 (List.set s3.1 k3 ((nth s3.1 k3).1, (Ye s_ a3.2 s3.1))))] [9] [] [] (by rw [J0 (y := ((nth s3.1 k3).1, (Ye s_ a3.2 s3.1))) hx12 rfl]; first | done | kernel_rfl) ?_
         refine rk Qb [(13, .b true)] [13] [] [] [] (o0) ?_
         refine rk Qb [(14, .i ((k3 + 1 : Nat) : Int))] [14] [] [] [(1, .val (.i ((k3 + 1 : Nat) : Int)))] (o1 (Qe (Ku (Qr k3 (by omega))))) ?_
         exact Exists.intro (List.set s3.1 k3 ((nth s3.1 k3).1, (Ye s_ a3.2 s3.1)), true) (And.intro (Qc (by kernel_rfl)) ⟨Qx hx3 (Qv h11 (X0 h15 (rfl))) hI3.1, (by first | omega | (simp only [List.length_set]; omega))⟩)
        ·
         have h15n : (Yz (Ye s_ a3.2 s3.1) ((nth s3.1 k3).2)) = true := Vw h15
         refine Qg ?_
         refine rk Qb [(14, .i ((k3 + 1 : Nat) : Int))] [14, 15, 82] [] [] [(1, .val (.i ((k3 + 1 : Nat) : Int)))] (o1 (Qe (Ku (Qr k3 (by omega))))) ?_
         exact Exists.intro (s3.1, s3.2) (And.intro (Qc (by kernel_rfl)) ⟨Qx hx3 (Qv h11 (Qv h15 (rfl))) hI3.1, (by first | omega | (simp only [List.length_set]; omega))⟩)
      ·
       have hA3_0 := hI3.2
       refine Qa ?_
       refine Qa ?_
       refine rk Qb [(58, .b false)] [] [] [] [(2, .val (.i (d.length : Int))), (3, .val (.b false))] (o2 (Qe (Q7 d)) (o1 (Qe (Qd (decide_eq_false (p := ((k3 : Nat) : Int) < (d.length : Int)) (by omega)))))) ?_
       refine ckF ?_
       refine Xc ?_
       exact Exists.intro (s3.1, s3.2) (And.intro (Qc (by kernel_rfl)) ⟨Xx hk3 (rfl) hI3.1, by first | omega | (simp only [List.length_set]; omega)⟩)
      ·
       have hD3_0 := hD3.2
       exact Exists.intro (y3.1, IntKind.i64.wrap (s2.2.1 + 1), y3.2) (And.intro (Qc (by kernel_rfl)) ⟨whl_next (X0 h7 (on_b hD3.1 (rfl))) hI2.1, (by first | omega | (simp only [List.length_set]; omega))⟩)
     ·
      refine Xc ?_
      exact Exists.intro (s2.1, s2.2.1) (And.intro (Qc (by kernel_rfl)) (whl_brk (Qv h7 (rfl)) hI2.1))
    ·
     refine rk Qb [(12, .i ((k1 + 1 : Nat) : Int))] [12] [] [] [(1, .val (.i ((k1 + 1 : Nat) : Int)))] (o1 (Qe (Ku (Qr k1 (by omega))))) ?_
     exact Exists.intro (y2.1, y2.2) (And.intro (Qc (by kernel_rfl)) ⟨Vv hk1 (on_b hD2 (rfl)) hI1.1, (by first | exact l15Run_next (by assumption) (by assumption) (by assumption) | exact evS_len (B := List.length s_.2.1) (l15Run_next (by assumption) (by assumption) (by assumption))), (by first | exact l15Run_next (by assumption) (by assumption) (by assumption) | exact evS_len (B := List.length s_.2.1) (l15Run_next (by assumption) (by assumption) (by assumption)))⟩)
   ·
    have hA1_0 := hI1.2.1
    have hA1_1 := hI1.2.2
    refine Qa ?_
    refine Qa ?_
    refine rk Qb [(49, .b false)] [] [] [] [(2, .val (.i (Zb d))), (3, .val (.b false))] (o2 (Qf (specMaxStratum_a d)) (o1 (Qe (Qd (decide_eq_false (p := ((k1 : Nat) : Int) ≤ (Zb d)) (by omega)))))) ?_
    refine ckF ?_
    refine Xc ?_
    exact Exists.intro (s1.1, s1.2) (And.intro (Qc (by kernel_rfl)) (forN_end hk1 (rfl) hI1.1))
   ·
    refine Qa ?_
    refine rk Qb [(4, .o 147356 y1.1), (5, .i y1.2), (6, .b true)] [4, 5, 6, 9, 11] [] [] [] (o0) ?_
    refine Qj ?_
    exact Y2 [] (congrArg (fun z => (.tup [(false, [.o 0 z.1]), (false, [.i z.2.1]), (false, [.b z.2.2])] : AV)) (show Jl s_ d = (y1.1, y1.2, true) from Qv h2 (on_b hD0 (on_b hD1 (rfl)))).symm)
def J7 (s_ : Yn) (d : (List Zh)) : (List Qi) × Bool := (((Jl s_ d)).1, ((Jl s_ d)).2.2)
theorem specEvaluate_a (s_ : Yn) (d : (List Zh)) : ACalls Tryz.prog 88 [.a [.h s_.1, .h s_.2.1, .i s_.2.2], .h d] (.tup [(false, [.o 0 (((J7 s_ d)).1)]), (false, [.b (((J7 s_ d)).2)])]) := by
 refine Qn (tt := tt) Qb Tryz.func88 (fn := Tryz.f88) rfl (by unfold Js; kernel_rfl) (Nat.le_of_ble_eq_true rfl) fun w0 F0 => ?_
 refine Qa ?_
 refine rk Qb [(2, .p 2 0), (4, .e 0), (5, .b false)] [0] [(2, [.h s_.1, .h s_.2.1, .i s_.2.2])] [] [] (o0) ?_
 refine Qa ?_
 refine rk Qb [(6, .o 768 (((Jl s_ d)).1)), (8, .b (((Jl s_ d)).2.2))] [1, 2] [] [2] [(2, .val (.tup [(false, [.o 0 (((Jl s_ d)).1)]), (false, [.i (((Jl s_ d)).2.1)]), (false, [.b (((Jl s_ d)).2.2)])]))] (o1 (Qf (specl15Run_a s_ d))) ?_
 refine Qa ?_
 refine rk Qb [(4, .o 768 (((Jl s_ d)).1)), (5, .b (((Jl s_ d)).2.2))] [4, 5, 6, 8] [] [] [] (o0) ?_
 refine Qj ?_
 exact Y2 [] (congrArg (fun z => (.tup [(false, [.o 0 z.1]), (false, [.b z.2])] : AV)) (show J7 s_ d = (((Jl s_ d)).1, ((Jl s_ d)).2.2) from rfl).symm)
end Go.Proofs.YtnhmnfmhnepjmaaGreat
namespace Go.Proofs.YtnhmnfmhnepjmaaGreat
open Go.RowKit
theorem contains_iff (v : ByteArray) (l : List ByteArray) : Q2 l v = true ↔ v ∈ l := by
  unfold Q2 Jg
  have key : ∀ (l : List ByteArray) (k : Nat), (0 : Int) ≤ ((Xf (Z4 v) J4 l k ()).on fun _ => -1) ↔ v ∈ l := by
    intro l
    induction l with
    | nil => intro k; simp [Xf, Out.on]
    | cons a l ih =>
      intro k
      simp only [Xf, Z4]
      have hab : (v.toList == a.toList) = decide (v = a) := toList_inj
      cases hc : (v.toList == a.toList) with
      | true =>
        obtain rfl : v = a := by rw [hc] at hab; exact of_decide_eq_true hab.symm
        simp [Out.on]
      | false =>
        have h : v ≠ a := by rw [hc] at hab; exact of_decide_eq_false hab.symm
        simp only [cond_false]
        refine (ih (k + 1)).trans ?_
        simp [h]
  exact decide_eq_true_iff.trans (key l 0)
theorem dirNames_eq (d : List Zh) : Yf d = d.map (·.1) := by
  unfold Yf
  rw [forL_map (f := implDirNames_f0) (g := fun a : Zh => a.1) (fun _ _ _ => rfl)]
  simp [Out.on, implDirNames_e0]
theorem contains_dir {d : List Zh} {i : Nat} {a : Zh} (h : d[i]? = some a) : Q2 (Yf d) a.1 = true := by
  rw [contains_iff, dirNames_eq]
  exact List.mem_map.2 ⟨a, List.mem_of_getElem? h, rfl⟩
/-! ### the greatest stratum -/
theorem max_fold (x : List Int) : ∀ (n k : Nat) (s : Int), k + 1 + n = x.length → forN (Kp x) Wp n k s = .brk ((x.drop (k + 1)).foldl max s)
  | 0, k, s, h => by rw [List.drop_eq_nil_of_le (by omega)]; rfl
  | n + 1, k, s, h => by
    have hg : x[k + 1]? = some (nth x (k + 1)) := Xo (by omega)
    rw [drop_at hg]
    simp only [forN, Kp, List.foldl_cons]
    exact max_fold x n (k + 1) _ (by omega)
theorem maxS_fold : ∀ (x : List Int) (k : Nat) (s : Int), Xf J6 V7 x k s = .brk (x.foldl max s)
  | [], k, s => rfl
  | a :: x, k, s => by
    simp only [Xf, J6, List.foldl_cons]
    by_cases h : a > s
    · rw [decide_eq_true h, cond_true, show max s a = a by omega]; exact maxS_fold x (k + 1) a
    · rw [decide_eq_false h, cond_false, show max s a = s by omega]; exact maxS_fold x (k + 1) s
theorem maxStratum_eq (d : List Zh) : Zb d = Y3 d := by
  unfold Zb Y3
  rw [strata_alike, maxS_fold]
  simp only [Out.on]
  cases hs : (Ql d).2 with
  | false =>
    have : (Ql d).1 = [] := by
      unfold Ql at hs ⊢
      cases hv : Yt d with
      | false => rfl
      | true =>
        rw [hv] at hs
        simp only [Bool.not_true, cond_false] at hs ⊢
        have h5 := vdirs_len hv
        have hw := whl_climb (d := d) (f := K5 d) (e := K6) (F := K7 d) (fun _ _ _ => rfl) (fun _ _ => rfl) (fun _ => rfl) (by omega) (d.length * d.length + 3) (List.replicate d.length 0) true (zeroL_ok _).1 (zeroL_ok _).2
        have hsome : (climb (Zv d) d.length d.length (d.length * d.length + 3) (true, List.replicate d.length 0)).isSome = true := by
          have := implStrata_w d h5
          rw [Int.toNat_natCast, hw, Option.isSome_map] at this
          exact this
        obtain ⟨r, hr⟩ := Option.isSome_iff_exists.1 hsome
        unfold whlD at hs ⊢
        rw [Int.toNat_natCast, hw, hr] at hs ⊢
        cases r with
        | none => rfl
        | some M => simp [endD, Out.on] at hs
    rw [this]; rfl
  | true =>
    obtain ⟨h1, h2, h3⟩ := strata_small hs
    simp only [Bool.not_true, Bool.false_or]
    generalize (Ql d).1 = x at h3
    cases x with
    | nil => rfl
    | cons a x =>
      have h0 := (h3 a (List.mem_cons_self ..)).1
      have e : ((((a :: x).length : Nat) : Int) == (0 : Int)) = false := by
        rw [beq_eq_false_iff_ne, List.length_cons]; omega
      rw [e, cond_false]
      unfold Wx
      rw [max_fold _ _ _ _ (by simp; omega)]
      simp only [Out.on, List.foldl_cons, Nat.zero_add, List.drop_succ_cons, List.drop_zero]
      have e2 : nth (a :: x) 0 = a := rfl
      rw [show max (-1) a = a by omega, e2]
/-! ### the evaluation -/
theorem l15_f3 (s : Yn) (d : List Zh) (k1 k : Nat) (a : Zh) (t : List Qi × Bool) (h : d[k]? = some a) : K8 s d k1 k a t = Z7 s d (Yf d) k1 k a t := by
  unfold K8 Z7
  rw [contains_dir h, strata_alike, ← select_eq, ints_dec, eqI_dec]
  simp
theorem l15_f2 (s : Yn) (d : List Zh) (k1 : Nat) : V2 s d k1 = Jq s d (Yf d) k1 := by
  funext t
  unfold V2 Jq
  rw [forL_congr (f := K8 s d k1) (g := Z7 s d (Yf d) k1) (e := specl15Run_e3) (e' := Wq) (fun _ _ => rfl) d 0 _ (fun i a t h => by rw [Nat.zero_add]; exact l15_f3 s d k1 i a t h)]
theorem l15_eq (s : Yn) (d : List Zh) : Jl s d = Y1 s d [] (Yf d) := by
  unfold Jl Y1
  rw [strata_alike, store_eq, maxStratum_eq]
  rw [forL_congr (f := specl15Run_f0) (g := Jp [] (Yf d)) (e := specl15Run_e0) (e' := Vs) (fun _ _ => rfl) d 0 _ (fun i a t h => by unfold specl15Run_f0 Jp; rw [contains_dir h]; rfl)]
  congr 1
  congr 1
  funext y
  rw [show specl15Run_f1 s d = Wr s d (Yf d) from by funext k t; unfold specl15Run_f1 Wr; rw [l15_f2]]
  rfl
theorem evaluate_eq (s : Yn) (d : List Zh) : J7 s d = J5 s d := by
  unfold J7 J5
  rw [l15_eq]
open GoE (enc wide)
def implCanRead (f : Yo) (user : Int) : Bool := ((J3 user) && ((f.2.1 == user) || f.2.2.1))
theorem implCanRead_a (f : Yo) (user : Int) : ACalls Tryz.prog 137 [.a [.i f.1, .i f.2.1, .b f.2.2.1, .i f.2.2.2.1, .h f.2.2.2.2], .i user] (.b (implCanRead f user)) := by
 refine Qn (tt := tt) Qb Tryz.func137 (fn := Tryz.f137) rfl (by unfold Js; kernel_rfl) (Nat.le_of_ble_eq_true rfl) fun w0 F0 => ?_
 refine Qa ?_
 refine rk Qb [(2, .p 2 0), (4, .b false)] [0] [(2, [.i f.1, .i f.2.1, .b f.2.2.1, .i f.2.2.2.1, .h f.2.2.2.2])] [] [] (o0) ?_
 refine Qa ?_
 refine jn [(4, .b ((J3 user) && ((f.2.1 == user) || f.2.2.1)))] [1, 2, 4] [] [2] (J3 user) (fun h1 => ?_) (fun h1 => ?_) ?_
 ·
  refine Xq (f.2.1 == user) (fun h2 => ?_) (fun h2 => ?_)
  ·
   refine rk Qb [(4, .b true)] [1, 2, 4] [] [2] [(1, .val (.b true)), (6, .val (.b true))] (o2 (Qf (cb h1 (implisUser_a user))) (o1 (Qe (Qd h2)))) ?_
   exact ⟨rfl, Qc (by rw [h1, h2]; first | done | kernel_rfl)⟩
  ·
   refine rk Qb [(4, .b f.2.2.1)] [1, 2, 4] [] [2] [(1, .val (.b true)), (6, .val (.b false))] (o2 (Qf (cb h1 (implisUser_a user))) (o1 (Qe (Qd h2)))) ?_
   exact ⟨rfl, Qc (by rw [h1, h2]; first | done | kernel_rfl)⟩
 ·
  refine rk Qb [] [1, 2] [] [2] [(1, .val (.b false))] (o1 (Qf (cb h1 (implisUser_a user)))) ?_
  exact ⟨rfl, Qc (by rw [h1]; first | done | kernel_rfl)⟩
 refine Qj ?_
 exact Y2 [] (congrArg (fun z => (.b z : AV)) (show implCanRead f user = ((J3 user) && ((f.2.1 == user) || f.2.2.1)) from rfl).symm)
def X5 (f : Yo) : Yo := f
theorem implcopyFile_a (f : Yo) : ACalls Tryz.prog 138 [.a [.i f.1, .i f.2.1, .b f.2.2.1, .i f.2.2.2.1, .h f.2.2.2.2]] (.a [.i ((X5 f).1), .i ((X5 f).2.1), .b ((X5 f).2.2.1), .i ((X5 f).2.2.2.1), .o 0 ((X5 f).2.2.2.2)]) := by
 refine Qn (tt := tt) Qb Tryz.func138 (fn := Tryz.f138) rfl (by unfold Js; kernel_rfl) (Nat.le_of_ble_eq_true rfl) fun w0 F0 => ?_
 refine Qa ?_
 refine rk Qb [(1, .p 1 0), (2, .p 2 0)] [0] [(1, [.i f.1, .i f.2.1, .b f.2.2.1, .i f.2.2.2.1, .h f.2.2.2.2]), (2, [.i 0, .i 0, .b false, .i 0, .e 4])] [] [] (o0) ?_
 refine Qa ?_
 refine rk Qb [] [] [(1, [.i f.1, .i f.2.1, .b f.2.2.1, .i f.2.2.2.1, .o 320 f.2.2.2.2])] [1] [(2, .val (.o 0 f.2.2.2.2))] (o1 (Qf (cloneAttr_a f.2.2.2.2))) ?_
 refine Qa ?_
 refine rk Qb [] [1] [(2, [.i f.1, .i f.2.1, .b f.2.2.1, .i f.2.2.2.1, .o 320 f.2.2.2.2])] [1, 2] [] (o0) ?_
 refine Qj ?_
 exact Y2 [] (congrArg (fun z => (.a [.i z.1, .i z.2.1, .b z.2.2.1, .i z.2.2.2.1, .o 0 z.2.2.2.2] : AV)) (show X5 f = f from rfl).symm)
def implfileAt_1 (f : Yo) (q0 : Int) : Bool := (f.1 == q0)
theorem implfileAt_1_a (f : Yo) (q0 : Int) : ACalls Tryz.prog 181 [.a [.i f.1, .i f.2.1, .b f.2.2.1, .i f.2.2.2.1, .h f.2.2.2.2], .one (.rptr .sh [.i q0])] (.b (implfileAt_1 f q0)) := by
 refine Qn (tt := tt) Qb Tryz.func181 (fn := Tryz.f181) rfl (by unfold Js; kernel_rfl) (Nat.le_of_ble_eq_true rfl) fun w0 F0 => ?_
 refine Qa ?_
 refine rk Qb [(2, .p 2 0), (3, .b false)] [0] [(2, [.i f.1, .i f.2.1, .b f.2.2.1, .i f.2.2.2.1, .h f.2.2.2.2])] [] [] (o0) ?_
 refine Qa ?_
 refine rk Qb [(3, .b (f.1 == q0))] [1, 2, 3] [] [2] [] (o0) ?_
 refine Qj ?_
 exact Y2 [] (congrArg (fun z => (.b z : AV)) (show implfileAt_1 f q0 = (f.1 == q0) from rfl).symm)
def Yv (c0 : Int) (k0 : Nat) (a0 : Yo) (_ : Unit) : Rd (Int) (Unit) (Unit) := (bif (implfileAt_1 a0 c0) then (.ret ((k0 : Nat) : Int)) else (.next ()))
def Yw (_ : Nat) (_ : Unit) : Unit := ()
def X7 (s_ : (List Yo)) (c0 : Int) : Int := (Out.on (Xf (Yv c0) Yw s_ 0 ()) (fun _ => -1))
theorem slicesIndexFunc_File_implfileAt_1_a (s_ : (List Yo)) (c0 : Int) : ACalls Tryz.prog 180 [.h s_, .one (.fnr 181 [[.i c0]])] (.i (X7 s_ c0)) := by
 refine Qn (tt := tt) Qb Tryz.func180 (fn := Tryz.f180) rfl (by unfold Js; kernel_rfl) (Nat.le_of_ble_eq_true rfl) fun w0 F0 => ?_
 refine Qa ?_
 refine rk Qb [(4, .i 0)] [] [] [] [] (o0) ?_
 refine Qa ?_
 refine Qa ?_
 refine rk Qb [(7, .i (s_.length : Int)), (8, .i 0)] [] [] [] [(1, .val (.i (s_.length : Int)))] (o1 (Qe (Q7 s_))) ?_
 refine wdT 0 0 .sh s_ (fun hw1 => ?_)
 have hl2 : List.length s_ ≤ 1073741824 := Qo (hw1)
 refine blk (fun (k0 : Nat) (s0 : Unit) => [(8, .i ((k0 : Nat) : Int))]) [8] (fun k0 s0 => []) [] (fun (y0 : Unit) => []) [0, 1, 7, 8] (fun y0 => []) [] (fun (k0 : Nat) (s0 : Unit) => (Xf (Yv c0) Yw s_ 0 ()) = Xf (Yv c0) Yw (List.drop k0 s_) k0 s0) (fun (y0 : Unit) => (Xf (Yv c0) Yw s_ 0 ()) = .brk y0) s_.length () (Qc (by kernel_rfl)) rfl (fun k0 s0 hk0 hI0 => ?_) (fun k0 s0 hk0 hI0 => ?_) (fun y0 hD0 => ?_)
 ·
  obtain ⟨a0, hx0⟩ := Xw (l := s_) (i := k0) hk0
  refine Qa ?_
  refine rk Qb [(9, .b true)] [] [] [] [(0, .val (.b true))] (o1 (Qe (Qd (decide_eq_true (p := ((k0 : Nat) : Int) < (s_.length : Int)) (by omega))))) ?_
  refine Qa ?_
  refine ckT ?_
  refine Qg ?_
  refine Qa ?_
  refine Qy ?_
  refine Qa ?_
  refine rk Qb [(5, .i ((k0 : Nat) : Int))] [9] [] [] [] (o0) ?_
  refine Qa ?_
  refine rk Qb [(16, .b (implfileAt_1 a0 c0))] [] [] [] [(3, .row [.i a0.1, .i a0.2.1, .b a0.2.2.1, .i a0.2.2.2.1, .h a0.2.2.2.2]), (5, .val (.b (implfileAt_1 a0 c0)))] (o2 (Qk (Xe (i := ((k0 : Nat) : Int)) (by omega) rfl hx0)) (o1 (Qf (implfileAt_1_a a0 c0)))) ?_
  refine ck (implfileAt_1 a0 c0) (fun h3 => ?_) (fun h3 => ?_)
  ·
   refine Qa ?_
   refine rk Qb [(4, .i ((k0 : Nat) : Int))] [4, 5, 16] [] [] [] (o0) ?_
   refine Qj ?_
   have hr4 : (Xf (Yv c0) Yw s_ 0 ()) = .ret ((k0 : Nat) : Int) := Jd hx0 (X0 h3 (rfl)) hI0
   exact Y2 [] (congrArg (fun z => (.i z : AV)) (show X7 s_ c0 = ((k0 : Nat) : Int) from on_r hr4).symm)
  ·
   refine Qg ?_
   refine rk Qb [(8, .i ((k0 + 1 : Nat) : Int))] [5, 8, 16] [] [] [(0, .val (.i ((k0 + 1 : Nat) : Int)))] (o1 (Qe (Ku (Qr k0 (by omega))))) ?_
   exact Exists.intro () (And.intro (Qc (by kernel_rfl)) (Qx hx0 (Qv h3 (rfl)) hI0))
 ·
  refine Qa ?_
  refine rk Qb [(9, .b false)] [] [] [] [(0, .val (.b false))] (o1 (Qe (Qd (decide_eq_false (p := ((k0 : Nat) : Int) < (s_.length : Int)) (by omega))))) ?_
  refine Qa ?_
  refine ckF ?_
  refine Xc ?_
  exact Exists.intro () (And.intro (Qc (by kernel_rfl)) (Xx hk0 (rfl) hI0))
 ·
  refine Qa ?_
  refine rk Qb [(4, .i (-1))] [4] [] [] [] (o0) ?_
  refine Qj ?_
  exact Y2 [] (congrArg (fun z => (.i z : AV)) (show X7 s_ c0 = -1 from on_b hD0 (rfl)).symm)
def implfileAt (s_ : Yn) (id : Int) : Int := (X7 s_.2.1 id)
theorem implfileAt_a (s_ : Yn) (id : Int) : ACalls Tryz.prog 139 [.a [.h s_.1, .h s_.2.1, .i s_.2.2], .i id] (.i (implfileAt s_ id)) := by
 refine Qn (tt := tt) Qb Tryz.func139 (fn := Tryz.f139) rfl (by unfold Js; kernel_rfl) (Nat.le_of_ble_eq_true rfl) fun w0 F0 => ?_
 refine Qa ?_
 refine rk Qb [(2, .p 2 0), (3, .p 3 0), (4, .i 0)] [0, 1] [(2, [.h s_.1, .h s_.2.1, .i s_.2.2]), (3, [.i id])] [] [] (o0) ?_
 refine Qa ?_
 refine rk Qb [(4, .i (X7 s_.2.1 id))] [2, 3, 4] [] [2, 3] [(3, .val (.i (X7 s_.2.1 id)))] (o1 (Qf (slicesIndexFunc_File_implfileAt_1_a s_.2.1 id))) ?_
 refine Qj ?_
 exact Y2 [] (congrArg (fun z => (.i z : AV)) (show implfileAt s_ id = (X7 s_.2.1 id) from rfl).symm)
def Wc (user : Int) (_ : Nat) (a0 : Yo) (s0 : (List Yo)) : Rd (Yn) ((List Yo)) ((List Yo)) := (bif (implCanRead a0 user) then (.next (s0 ++ [(X5 a0)])) else (.next s0))
def Wd (_ : Nat) (s0 : (List Yo)) : (List Yo) := s0
def We (s_ : Yn) (k1 : Nat) (_ : Yo) (s1 : (List Yo)) : Rd (Yn) ((List Yo)) ((List Yo)) := (bif decide ((implfileAt (s_.1, s1, s_.2.2) ((nth s1 k1).2.2.2.1)) < (0 : Int)) then (.next (List.set s1 k1 ((nth s1 k1).1, (nth s1 k1).2.1, (nth s1 k1).2.2.1, 0, (nth s1 k1).2.2.2.2))) else (.next s1))
def Wf (_ : Nat) (s1 : (List Yo)) : (List Yo) := s1
def X3 (s_ : Yn) (user : Int) : Yn := (Out.on (Xf (Wc user) Wd s_.2.1 0 []) (fun y0 => (Out.on (Xf (We s_) Wf y0 0 y0) (fun y1 => (s_.1, y1, s_.2.2)))))
theorem implVisibleStore_a (s_ : Yn) (user : Int) : ACalls Tryz.prog 96 [.a [.h s_.1, .h s_.2.1, .i s_.2.2], .i user] (.a [.o 0 ((X3 s_ user).1), .o 1 ((X3 s_ user).2.1), .i ((X3 s_ user).2.2)]) := by
 refine Qn (tt := tt) Qb Tryz.func96 (fn := Tryz.f96) rfl (by unfold Js; kernel_rfl) (Nat.le_of_ble_eq_true rfl) fun w0 F0 => ?_
 refine Qa ?_
 refine rk Qb [(2, .p 2 0), (4, .p 4 0)] [0] [(2, [.h s_.1, .h s_.2.1, .i s_.2.2]), (4, [.e 2, .e 5, .i 0])] [] [] (o0) ?_
 refine Qa ?_
 refine rd' Qb Zn [(5, .p 5 0)] [] [(5, [.o 768 s_.1, .e 5, .i s_.2.2])] [] [(2, .val (.o 0 s_.1))] (o1 (Qf (cloneField_a s_.1))) ?_
 refine Qa ?_
 refine Qa ?_
 refine rk Qb [(17, .h s_.2.1), (18, .i (s_.2.1.length : Int)), (19, .i 0)] [2] [] [2] [(2, .val (.i (s_.2.1.length : Int)))] (o1 (Qe (Q7 s_.2.1))) ?_
 refine wdT 17 0 .sh s_.2.1 (fun hw1 => ?_)
 have hl2 : List.length s_.2.1 ≤ 1073741824 := Qo (hw1)
 refine blk (fun (k0 : Nat) (s0 : (List Yo)) => [(19, .i ((k0 : Nat) : Int))]) [19] (fun k0 s0 => [(5, [.o 768 s_.1, .o 147210 s0, .i s_.2.2])]) [5] (fun (y0 : (List Yo)) => []) [1, 17, 18, 19] (fun y0 => [(5, [.o 768 s_.1, .o 147360 y0, .i s_.2.2])]) [5] (fun (k0 : Nat) (s0 : (List Yo)) => (Xf (Wc user) Wd s_.2.1 0 []) = Xf (Wc user) Wd (List.drop k0 s_.2.1) k0 s0 ∧ List.length s0 ≤ k0) (fun (y0 : (List Yo)) => (Xf (Wc user) Wd s_.2.1 0 []) = .brk y0) s_.2.1.length [] (weak_gf [(true, 5, 1, true, 320008, 5)] [] [] [(320008, 147210)] (by kernel_rfl)) ⟨rfl, (by simp)⟩ (fun k0 s0 hk0 hI0 => ?_) (fun k0 s0 hk0 hI0 => ?_) (fun y0 hD0 => ?_)
 ·
  have hA0_0 := hI0.2
  obtain ⟨a0, hx0⟩ := Xw (l := s_.2.1) (i := k0) hk0
  refine Qa ?_
  refine rk Qb [(20, .b true)] [] [] [] [(0, .val (.b true))] (o1 (Qe (Qd (decide_eq_true (p := ((k0 : Nat) : Int) < (s_.2.1.length : Int)) (by omega))))) ?_
  refine Qa ?_
  refine ckT ?_
  refine Qg ?_
  refine Qa ?_
  refine Qy ?_
  refine Qa ?_
  refine rk Qb [(7, .p 7 0)] [20] [(7, [.i a0.1, .i a0.2.1, .b a0.2.2.1, .i a0.2.2.2.1, .h a0.2.2.2.2])] [] [(0, .row [.i a0.1, .i a0.2.1, .b a0.2.2.1, .i a0.2.2.2.1, .h a0.2.2.2.2])] (o1 (Qk (Xe (i := ((k0 : Nat) : Int)) (by omega) rfl hx0))) ?_
  refine Qa ?_
  refine rk Qb [(25, .b (implCanRead a0 user))] [] [] [] [(2, .val (.b (implCanRead a0 user)))] (o1 (Qf (implCanRead_a a0 user))) ?_
  refine ck (implCanRead a0 user) (fun h3 => ?_) (fun h3 => ?_)
  ·
   refine wdB 5 1 (.own true 147210) s0 (fun hw4 => ?_)
   have hl5 : List.length s0 ≤ 1073741824 := Qo (hw4)
   refine rd' Qb Zn [] [7, 25] [(5, [.o 768 s_.1, .slc (.own true 1984) 5 ((eL s0) ++ [[.i ((X5 a0).1), .i ((X5 a0).2.1), .b ((X5 a0).2.2.1), .i ((X5 a0).2.2.2.1), .h ((X5 a0).2.2.2.2)]]), .i s_.2.2])] [5, 7] [(3, .val (.a [.i ((X5 a0).1), .i ((X5 a0).2.1), .b ((X5 a0).2.2.1), .i ((X5 a0).2.2.2.1), .o 0 ((X5 a0).2.2.2.2)]))] (o2 (Qf (implcopyFile_a a0)) (o1 (ob_len (len_of (Xb s0) (Xb [(X5 a0)]) (by first | omega | (simp; omega) | simp))))) ?_
   refine eqn [] [] [(5, [.o 768 s_.1, .o 1984 (s0 ++ [(X5 a0)]), .i s_.2.2])] [5] (by rw [show ((eL s0) ++ [[.i ((X5 a0).1), .i ((X5 a0).2.1), .b ((X5 a0).2.2.1), .i ((X5 a0).2.2.2.1), .h ((X5 a0).2.2.2.2)]]) = (eL (s0 ++ [(X5 a0)])) from app_eL (rfl) (rfl)]; first | done | kernel_rfl) ?_
   refine rk Qb [(19, .i ((k0 + 1 : Nat) : Int))] [19] [] [] [(0, .val (.i ((k0 + 1 : Nat) : Int)))] (o1 (Qe (Ku (Qr k0 (by omega))))) ?_
   exact Exists.intro (s0 ++ [(X5 a0)]) (And.intro (Zj [(1984, 147210)] (by kernel_rfl)) ⟨Qx hx0 (X0 h3 (rfl)) hI0.1, by first | omega | (simp; omega) | simp⟩)
  ·
   refine Qg ?_
   refine rk Qb [(19, .i ((k0 + 1 : Nat) : Int))] [7, 19, 25] [] [7] [(0, .val (.i ((k0 + 1 : Nat) : Int)))] (o1 (Qe (Ku (Qr k0 (by omega))))) ?_
   exact Exists.intro s0 (And.intro (Qc (by kernel_rfl)) ⟨Qx hx0 (Qv h3 (rfl)) hI0.1, by first | omega | (simp; omega) | simp⟩)
 ·
  have hA0_0 := hI0.2
  refine Qa ?_
  refine rk Qb [(20, .b false)] [] [] [] [(0, .val (.b false))] (o1 (Qe (Qd (decide_eq_false (p := ((k0 : Nat) : Int) < (s_.2.1.length : Int)) (by omega))))) ?_
  refine Qa ?_
  refine ckF ?_
  refine Xc ?_
  exact Exists.intro s0 (And.intro (Zj [(147210, 147360)] (by kernel_rfl)) (Xx hk0 (rfl) hI0.1))
 ·
  refine Qa ?_
  refine Qa ?_
  refine rk Qb [(35, .o 147360 y0), (36, .i (y0.length : Int)), (37, .i 0)] [] [] [] [(2, .val (.i (y0.length : Int)))] (o1 (Qe (Q7 y0))) ?_
  refine wdT 35 0 (.own true 147360) y0 (fun hw6 => ?_)
  have hl7 : List.length y0 ≤ 1073741824 := Qo (hw6)
  refine blk (fun (k1 : Nat) (s1 : (List Yo)) => [(35, .o 147360 s1), (37, .i ((k1 : Nat) : Int))]) [35, 37] (fun k1 s1 => [(5, [.o 768 s_.1, .o 147360 s1, .i s_.2.2])]) [5] (fun (y1 : (List Yo)) => []) [35, 36, 37] (fun y1 => [(5, [.o 768 s_.1, .o 147360 y1, .i s_.2.2])]) [5] (fun (k1 : Nat) (s1 : (List Yo)) => (Xf (We s_) Wf y0 0 y0) = Xf (We s_) Wf (List.drop k1 y0) k1 s1 ∧ List.length s1 = List.length y0) (fun (y1 : (List Yo)) => (Xf (We s_) Wf y0 0 y0) = .brk y1) y0.length y0 (Qc (by kernel_rfl)) ⟨rfl, (by simp)⟩ (fun k1 s1 hk1 hI1 => ?_) (fun k1 s1 hk1 hI1 => ?_) (fun y1 hD1 => ?_)
  ·
   have hA1_0 := hI1.2
   obtain ⟨a1, hx1⟩ := Xw (l := y0) (i := k1) hk1
   refine Qa ?_
   refine rk Qb [(38, .b true)] [] [] [] [(0, .val (.b true))] (o1 (Qe (Qd (decide_eq_true (p := ((k1 : Nat) : Int) < (y0.length : Int)) (by omega))))) ?_
   refine Qa ?_
   refine ckT ?_
   refine Qg ?_
   refine Qa ?_
   refine Qy ?_
   refine Qa ?_
   refine wdT 35 0 (.own true 147360) s1 (fun hw9 => ?_)
   have hl10 : List.length s1 ≤ 1073741824 := Qo (hw9)
   have hx8 : s1[k1]? = some (nth s1 k1) := Xo (by omega)
   refine rk Qb [(8, .i ((k1 : Nat) : Int)), (9, .p 9 0)] [38] [(9, [.i ((nth s1 k1).1), .i ((nth s1 k1).2.1), .b ((nth s1 k1).2.2.1), .i ((nth s1 k1).2.2.2.1), .v 147360 ((nth s1 k1).2.2.2.2)])] [] [(1, .rowE [.i ((nth s1 k1).1), .i ((nth s1 k1).2.1), .b ((nth s1 k1).2.2.1), .i ((nth s1 k1).2.2.2.1), .h ((nth s1 k1).2.2.2.2)])] (o1 (Qk (Xe (i := ((k1 : Nat) : Int)) (by omega) rfl hx8))) ?_
   refine Qa ?_
   refine rk Qb [(46, .b (decide ((implfileAt (s_.1, s1, s_.2.2) ((nth s1 k1).2.2.2.1)) < (0 : Int))))] [9] [] [9] [(3, .val (.i (implfileAt (s_.1, s1, s_.2.2) ((nth s1 k1).2.2.2.1))))] (o1 (Qf (implfileAt_a (s_.1, s1, s_.2.2) ((nth s1 k1).2.2.2.1)))) ?_
   refine ck (decide ((implfileAt (s_.1, s1, s_.2.2) ((nth s1 k1).2.2.2.1)) < (0 : Int))) (fun h11 => ?_) (fun h11 => ?_)
   ·
    have h11d := of_decide_eq_true h11
    refine rk Qb [(35, .one (.slc (.own true 147360) 5 (setRow (eL s1) k1 3 [.i 0])))] [8, 35, 46] [(5, [.o 768 s_.1, .slc (.own true 147360) 5 (setRow (eL s1) k1 3 [.i 0]), .i s_.2.2])] [5] [(3, .rowE [.i ((nth s1 k1).1), .i ((nth s1 k1).2.1), .b ((nth s1 k1).2.2.1), .i ((nth s1 k1).2.2.2.1), .h ((nth s1 k1).2.2.2.2)])] (o1 (Qk (Xe (i := ((k1 : Nat) : Int)) (by omega) rfl hx8))) ?_
    refine eqn [(35, .o 147360 (List.set s1 k1 ((nth s1 k1).1, (nth s1 k1).2.1, (nth s1 k1).2.2.1, 0, (nth s1 k1).2.2.2.2)))] [35] [(5, [.o 768 s_.1, .o 147360 (List.set s1 k1 ((nth s1 k1).1, (nth s1 k1).2.1, (nth s1 k1).2.2.1, 0, (nth s1 k1).2.2.2.2)), .i s_.2.2])] [5] (by rw [J0 (y := ((nth s1 k1).1, (nth s1 k1).2.1, (nth s1 k1).2.2.1, 0, (nth s1 k1).2.2.2.2)) hx8 rfl]; first | done | kernel_rfl) ?_
    refine rk Qb [(37, .i ((k1 + 1 : Nat) : Int))] [37] [] [] [(0, .val (.i ((k1 + 1 : Nat) : Int)))] (o1 (Qe (Ku (Qr k1 (by omega))))) ?_
    exact Exists.intro (List.set s1 k1 ((nth s1 k1).1, (nth s1 k1).2.1, (nth s1 k1).2.2.1, 0, (nth s1 k1).2.2.2.2)) (And.intro (Qc (by kernel_rfl)) ⟨Qx hx1 (X0 h11 (rfl)) hI1.1, (by first | omega | (simp only [List.length_set]; omega))⟩)
   ·
    have h11d := of_decide_eq_false h11
    refine Qg ?_
    refine rk Qb [(37, .i ((k1 + 1 : Nat) : Int))] [8, 37, 46] [] [] [(0, .val (.i ((k1 + 1 : Nat) : Int)))] (o1 (Qe (Ku (Qr k1 (by omega))))) ?_
    exact Exists.intro s1 (And.intro (Qc (by kernel_rfl)) ⟨Qx hx1 (Qv h11 (rfl)) hI1.1, (by first | omega | (simp only [List.length_set]; omega))⟩)
  ·
   have hA1_0 := hI1.2
   refine Qa ?_
   refine rk Qb [(38, .b false)] [] [] [] [(0, .val (.b false))] (o1 (Qe (Qd (decide_eq_false (p := ((k1 : Nat) : Int) < (y0.length : Int)) (by omega))))) ?_
   refine Qa ?_
   refine ckF ?_
   refine Xc ?_
   exact Exists.intro s1 (And.intro (Qc (by kernel_rfl)) (Xx hk1 (rfl) hI1.1))
  ·
   refine Qa ?_
   refine rk Qb [] [5] [(4, [.o 768 s_.1, .o 147360 y1, .i s_.2.2])] [4, 5] [] (o0) ?_
   refine Qj ?_
   exact Y2 [] (congrArg (fun z => (.a [.o 0 z.1, .o 1 z.2.1, .i z.2.2] : AV)) (show X3 s_ user = (s_.1, y1, s_.2.2) from on_b hD0 (on_b hD1 (rfl))).symm)
def X8 (s_ : Yn) (d : (List Zh)) (user : Int) : (List Qi) × Bool := (bif ((!(X2 s_)) || (!(J3 user))) then ([], false) else (((J5 (X3 s_ user) d)).1, ((J5 (X3 s_ user) d)).2))
theorem implEvaluateForUser_a (s_ : Yn) (d : (List Zh)) (user : Int) : ACalls Tryz.prog 42 [.a [.h s_.1, .h s_.2.1, .i s_.2.2], .h d, .i user] (.tup [(false, [.o 0 (((X8 s_ d user)).1)]), (false, [.b (((X8 s_ d user)).2)])]) := by
 refine Qn (tt := tt) Qb Tryz.func42 (fn := Tryz.f42) rfl (by unfold Js; kernel_rfl) (Nat.le_of_ble_eq_true rfl) fun w0 F0 => ?_
 refine Qa ?_
 refine rk Qb [(3, .p 3 0), (6, .e 0), (7, .b false)] [0] [(3, [.h s_.1, .h s_.2.1, .i s_.2.2])] [] [] (o0) ?_
 refine Qa ?_
 refine Qa ?_
 refine jn [(15, .b ((!(X2 s_)) || (!(J3 user))))] [] [] [] (!(X2 s_)) (fun h1 => ?_) (fun h1 => ?_) ?_
 ·
  have h1n : (X2 s_) = false := bnot_t h1
  refine rk Qb [(15, .b true)] [] [] [] [(1, .val (.b false)), (2, .val (.b true))] (o2 (Qf (cb h1n (implIsValidStore_a s_))) (o1 (Qe (show .b (!false) = .b true from rfl)))) ?_
  exact ⟨rfl, Qc (by rw [h1]; first | done | kernel_rfl)⟩
 ·
  have h1n : (X2 s_) = true := Vw h1
  refine rk Qb [(15, .b (!(J3 user)))] [] [] [] [(1, .val (.b true)), (2, .val (.b false)), (5, .val (.b (J3 user)))] (o2 (Qf (cb h1n (implIsValidStore_a s_))) (o2 (Qe (show .b (!true) = .b false from rfl)) (o1 (Qf (implisUser_a user))))) ?_
  exact ⟨rfl, Qc (by rw [h1]; first | done | kernel_rfl)⟩
 refine ck ((!(X2 s_)) || (!(J3 user))) (fun h2 => ?_) (fun h2 => ?_)
 ·
  refine Qa ?_
  refine rk Qb [] [15] [] [] [] (o0) ?_
  refine opn [(false, 6, 0, true, 384000, 2)] ?_
  refine Qj ?_
  exact Y2 [] (congrArg (fun z => (.tup [(false, [.o 0 z.1]), (false, [.b z.2])] : AV)) (show X8 s_ d user = ([], false) from X0 h2 (rfl)).symm)
 ·
  refine Qg ?_
  refine Qa ?_
  refine rk Qb [(6, .o 1280 (((J5 (X3 s_ user) d)).1)), (7, .b (((J5 (X3 s_ user) d)).2))] [1, 2, 3, 6, 7, 15] [] [3] [(2, .val (.a [.o 0 ((X3 s_ user).1), .o 1 ((X3 s_ user).2.1), .i ((X3 s_ user).2.2)])), (4, .val (.tup [(false, [.o 0 (((J5 (X3 s_ user) d)).1)]), (false, [.b (((J5 (X3 s_ user) d)).2)])]))] (o2 (Qf (implVisibleStore_a s_ user)) (o1 (Qf (implEvaluate_a (X3 s_ user) d)))) ?_
  refine Qj ?_
  exact Y2 [] (congrArg (fun z => (.tup [(false, [.o 0 z.1]), (false, [.b z.2])] : AV)) (show X8 s_ d user = (((J5 (X3 s_ user) d)).1, ((J5 (X3 s_ user) d)).2) from Qv h2 (rfl)).symm)
def Wg (s_ : Yn) (d : (List Zh)) (user : Int) (name : ByteArray) : (List Int) := (Q4 (((X8 s_ d user)).1) name)
theorem implListDir_a (s_ : Yn) (d : (List Zh)) (user : Int) (name : ByteArray) : ACalls Tryz.prog 53 [.a [.h s_.1, .h s_.2.1, .i s_.2.2], .h d, .i user, .s name] (.o 0 (Wg s_ d user name)) := by
 refine Qn (tt := tt) Qb Tryz.func53 (fn := Tryz.f53) rfl (by unfold Js; kernel_rfl) (Nat.le_of_ble_eq_true rfl) fun w0 F0 => ?_
 refine Qa ?_
 refine rk Qb [(4, .p 4 0), (8, .e 0)] [0] [(4, [.h s_.1, .h s_.2.1, .i s_.2.2])] [] [] (o0) ?_
 refine Qa ?_
 refine rk Qb [(9, .o 960 (((X8 s_ d user)).1))] [1, 2, 4] [] [4] [(3, .val (.tup [(false, [.o 0 (((X8 s_ d user)).1)]), (false, [.b (((X8 s_ d user)).2)])]))] (o1 (Qf (implEvaluateForUser_a s_ d user))) ?_
 refine Qa ?_
 refine rk Qb [(8, .o 1280 (Q4 (((X8 s_ d user)).1) name))] [3, 8, 9] [] [] [(2, .val (.o 0 (Q4 (((X8 s_ d user)).1) name)))] (o1 (Qf (implResultIDs_a (((X8 s_ d user)).1) name))) ?_
 refine Qj ?_
 exact Y2 [] (congrArg (fun z => (.o 0 z : AV)) (show Wg s_ d user name = (Q4 (((X8 s_ d user)).1) name) from rfl).symm)
def specCanRead (f : Yo) (u : Int) : Bool := ((Qq u 0 2) && ((f.2.1 == u) || f.2.2.1))
theorem specCanRead_a (f : Yo) (u : Int) : ACalls Tryz.prog 127 [.a [.i f.1, .i f.2.1, .b f.2.2.1, .i f.2.2.2.1, .h f.2.2.2.2], .i u] (.b (specCanRead f u)) := by
 refine Qn (tt := tt) Qb Tryz.func127 (fn := Tryz.f127) rfl (by unfold Js; kernel_rfl) (Nat.le_of_ble_eq_true rfl) fun w0 F0 => ?_
 refine Qa ?_
 refine rk Qb [(2, .p 2 0), (4, .b false)] [0] [(2, [.i f.1, .i f.2.1, .b f.2.2.1, .i f.2.2.2.1, .h f.2.2.2.2])] [] [] (o0) ?_
 refine Qa ?_
 refine jn [(4, .b ((Qq u 0 2) && ((f.2.1 == u) || f.2.2.1)))] [1, 2, 4] [] [2] (Qq u 0 2) (fun h1 => ?_) (fun h1 => ?_) ?_
 ·
  have h1w := l01In_iff.1 h1
  refine Xq (f.2.1 == u) (fun h2 => ?_) (fun h2 => ?_)
  ·
   refine rk Qb [(4, .b true)] [1, 2, 4] [] [2] [(1, .val (.b true)), (6, .val (.b true))] (o2 (Qf (cb h1 (Ys u 0 2))) (o1 (Qe (Qd h2)))) ?_
   exact ⟨rfl, Qc (by rw [h1, h2]; first | done | kernel_rfl)⟩
  ·
   refine rk Qb [(4, .b f.2.2.1)] [1, 2, 4] [] [2] [(1, .val (.b true)), (6, .val (.b false))] (o2 (Qf (cb h1 (Ys u 0 2))) (o1 (Qe (Qd h2)))) ?_
   exact ⟨rfl, Qc (by rw [h1, h2]; first | done | kernel_rfl)⟩
 ·
  refine rk Qb [] [1, 2] [] [2] [(1, .val (.b false))] (o1 (Qf (cb h1 (Ys u 0 2)))) ?_
  exact ⟨rfl, Qc (by rw [h1]; first | done | kernel_rfl)⟩
 refine Qj ?_
 exact Y2 [] (congrArg (fun z => (.b z : AV)) (show specCanRead f u = ((Qq u 0 2) && ((f.2.1 == u) || f.2.2.1)) from rfl).symm)
def Yp (f : Yo) : Yo := f
theorem specl04Copy_a (f : Yo) : ACalls Tryz.prog 128 [.a [.i f.1, .i f.2.1, .b f.2.2.1, .i f.2.2.2.1, .h f.2.2.2.2]] (.a [.i ((Yp f).1), .i ((Yp f).2.1), .b ((Yp f).2.2.1), .i ((Yp f).2.2.2.1), .o 0 ((Yp f).2.2.2.2)]) := by
 refine Qn (tt := tt) Qb Tryz.func128 (fn := Tryz.f128) rfl (by unfold Js; kernel_rfl) (Nat.le_of_ble_eq_true rfl) fun w0 F0 => ?_
 refine Qa ?_
 refine rk Qb [(1, .p 1 0), (2, .p 2 0)] [0] [(1, [.i f.1, .i f.2.1, .b f.2.2.1, .i f.2.2.2.1, .h f.2.2.2.2]), (2, [.i 0, .i 0, .b false, .i 0, .e 4])] [] [] (o0) ?_
 refine Qa ?_
 refine wdB 1 4 .sh f.2.2.2.2 (fun hw1 => ?_)
 have hl2 : List.length f.2.2.2.2 ≤ 1073741824 := Qo (hw1)
 refine rk Qb [] [] [(1, [.i f.1, .i f.2.1, .b f.2.2.1, .i f.2.2.2.1, .o 384 f.2.2.2.2])] [1] [(3, .flat)] (o2 (ob_len (n := (([] : List (List PV)).length + ((eL f.2.2.2.2) : List (List PV)).length)) (len_of (rfl) (Xb f.2.2.2.2) (by first | omega | (simp; omega) | simp))) (o1 (ob_flat (flat_eL f.2.2.2.2)))) ?_
 refine Qa ?_
 refine rk Qb [] [1] [(2, [.i f.1, .i f.2.1, .b f.2.2.1, .i f.2.2.2.1, .o 384 f.2.2.2.2])] [1, 2] [] (o0) ?_
 refine Qj ?_
 exact Y2 [] (congrArg (fun z => (.a [.i z.1, .i z.2.1, .b z.2.2.1, .i z.2.2.2.1, .o 0 z.2.2.2.2] : AV)) (show Yp f = f from rfl).symm)
def specl05Place_f0 (id : Int) (k0 : Nat) (a0 : Yo) (_ : Unit) : Rd (Int) (Unit) (Unit) := (bif (a0.1 == id) then (.ret ((k0 : Nat) : Int)) else (.next ()))
def specl05Place_e0 (_ : Nat) (_ : Unit) : Unit := ()
def specl05Place (s_ : Yn) (id : Int) : Int := (Out.on (Xf (specl05Place_f0 id) specl05Place_e0 s_.2.1 0 ()) (fun _ => -1))
theorem specl05Place_a (s_ : Yn) (id : Int) : ACalls Tryz.prog 129 [.a [.h s_.1, .h s_.2.1, .i s_.2.2], .i id] (.i (specl05Place s_ id)) := by
 refine Qn (tt := tt) Qb Tryz.func129 (fn := Tryz.f129) rfl (by unfold Js; kernel_rfl) (Nat.le_of_ble_eq_true rfl) fun w0 F0 => ?_
 refine Qa ?_
 refine rk Qb [(2, .p 2 0), (4, .i 0)] [0] [(2, [.h s_.1, .h s_.2.1, .i s_.2.2])] [] [] (o0) ?_
 refine Qa ?_
 refine Qa ?_
 refine rk Qb [(5, .i 0)] [] [] [] [] (o0) ?_
 refine wdB 2 1 .sh s_.2.1 (fun hw1 => ?_)
 have hl2 : List.length s_.2.1 ≤ 1073741824 := Qo (hw1)
 refine blk (fun (k0 : Nat) (s0 : Unit) => [(5, .i ((k0 : Nat) : Int))]) [5] (fun k0 s0 => []) [] (fun (y0 : Unit) => []) [1, 2, 5] (fun y0 => []) [2] (fun (k0 : Nat) (s0 : Unit) => (Xf (specl05Place_f0 id) specl05Place_e0 s_.2.1 0 ()) = Xf (specl05Place_f0 id) specl05Place_e0 (List.drop k0 s_.2.1) k0 s0) (fun (y0 : Unit) => (Xf (specl05Place_f0 id) specl05Place_e0 s_.2.1 0 ()) = .brk y0) s_.2.1.length () (Qc (by kernel_rfl)) rfl (fun k0 s0 hk0 hI0 => ?_) (fun k0 s0 hk0 hI0 => ?_) (fun y0 hD0 => ?_)
 ·
  obtain ⟨a0, hx0⟩ := Xw (l := s_.2.1) (i := k0) hk0
  refine Qa ?_
  refine Qa ?_
  refine rk Qb [(10, .b true)] [] [] [] [(3, .val (.i (s_.2.1.length : Int))), (4, .val (.b true))] (o2 (Qe (Q7 s_.2.1)) (o1 (Qe (Qd (decide_eq_true (p := ((k0 : Nat) : Int) < (s_.2.1.length : Int)) (by omega)))))) ?_
  refine ckT ?_
  refine Qg ?_
  refine Qa ?_
  refine Qy ?_
  refine Qa ?_
  refine rk Qb [(20, .b (a0.1 == id))] [10] [] [] [(3, .row [.i a0.1, .i a0.2.1, .b a0.2.2.1, .i a0.2.2.2.1, .h a0.2.2.2.2])] (o1 (Qk (Xe (i := ((k0 : Nat) : Int)) (by omega) rfl hx0))) ?_
  refine ck (a0.1 == id) (fun h3 => ?_) (fun h3 => ?_)
  ·
   refine Qa ?_
   refine rk Qb [(4, .i ((k0 : Nat) : Int))] [4, 20] [] [] [] (o0) ?_
   refine Qj ?_
   have hr4 : (Xf (specl05Place_f0 id) specl05Place_e0 s_.2.1 0 ()) = .ret ((k0 : Nat) : Int) := Jd hx0 (X0 h3 (rfl)) hI0
   exact Y2 [] (congrArg (fun z => (.i z : AV)) (show specl05Place s_ id = ((k0 : Nat) : Int) from on_r hr4).symm)
  ·
   have h3d := Zc h3
   refine Qg ?_
   refine rk Qb [(5, .i ((k0 + 1 : Nat) : Int))] [5, 20] [] [] [(1, .val (.i ((k0 + 1 : Nat) : Int)))] (o1 (Qe (Ku (Qr k0 (by omega))))) ?_
   exact Exists.intro () (And.intro (Qc (by kernel_rfl)) (Qx hx0 (Qv h3 (rfl)) hI0))
 ·
  refine Qa ?_
  refine Qa ?_
  refine rk Qb [(10, .b false)] [] [] [] [(3, .val (.i (s_.2.1.length : Int))), (4, .val (.b false))] (o2 (Qe (Q7 s_.2.1)) (o1 (Qe (Qd (decide_eq_false (p := ((k0 : Nat) : Int) < (s_.2.1.length : Int)) (by omega)))))) ?_
  refine ckF ?_
  refine Xc ?_
  exact Exists.intro () (And.intro (Qc (by kernel_rfl)) (Xx hk0 (rfl) hI0))
 ·
  refine Qa ?_
  refine rk Qb [(4, .i (-1))] [4] [] [] [] (o0) ?_
  refine Qj ?_
  exact Y2 [] (congrArg (fun z => (.i z : AV)) (show specl05Place s_ id = -1 from on_b hD0 (rfl)).symm)
def Wh (u : Int) (_ : Nat) (a0 : Yo) (s0 : (List Yo)) : Rd (Yn) ((List Yo)) ((List Yo)) := (bif (specCanRead a0 u) then (.next (s0 ++ [(Yp a0)])) else (.next s0))
def Wi (_ : Nat) (s0 : (List Yo)) : (List Yo) := s0
def Wj (s_ : Yn) (k1 : Nat) (s1 : (List Yo)) : Rd (Yn) ((List Yo)) ((List Yo)) := (bif decide ((specl05Place (s_.1, s1, s_.2.2) ((nth s1 k1).2.2.2.1)) < (0 : Int)) then (.next (List.set s1 k1 ((nth s1 k1).1, (nth s1 k1).2.1, (nth s1 k1).2.2.1, 0, (nth s1 k1).2.2.2.2))) else (.next s1))
def Wk (_ : Nat) (s1 : (List Yo)) : (List Yo) := s1
def X4 (s_ : Yn) (u : Int) : Yn := (Out.on (Xf (Wh u) Wi s_.2.1 0 []) (fun y0 => (Out.on (forN (Wj s_) Wk (List.length y0) 0 y0) (fun y1 => (s_.1, y1, s_.2.2)))))
theorem specVisibleStore_a (s_ : Yn) (u : Int) : ACalls Tryz.prog 89 [.a [.h s_.1, .h s_.2.1, .i s_.2.2], .i u] (.a [.o 0 ((X4 s_ u).1), .o 1 ((X4 s_ u).2.1), .i ((X4 s_ u).2.2)]) := by
 refine Qn (tt := tt) Qb Tryz.func89 (fn := Tryz.f89) rfl (by unfold Js; kernel_rfl) (Nat.le_of_ble_eq_true rfl) fun w0 F0 => ?_
 refine Qa ?_
 refine rk Qb [(2, .p 2 0), (4, .p 4 0)] [0] [(2, [.h s_.1, .h s_.2.1, .i s_.2.2]), (4, [.e 2, .e 5, .i 0])] [] [] (o0) ?_
 refine Qa ?_
 refine wdB 2 0 .sh s_.1 (fun hw1 => ?_)
 have hl2 : List.length s_.1 ≤ 1073741824 := Qo (hw1)
 refine rd' Qb Zn [(5, .p 5 0)] [] [(5, [.o 704 s_.1, .e 5, .i s_.2.2])] [] [(3, .flat)] (o2 (ob_len (n := (([] : List (List PV)).length + ((eL s_.1) : List (List PV)).length)) (len_of (rfl) (Xb s_.1) (by first | omega | (simp; omega) | simp))) (o1 (ob_flat (flat_eL s_.1)))) ?_
 refine Qa ?_
 refine Qa ?_
 refine rk Qb [(6, .i 0)] [] [] [] [] (o0) ?_
 refine wdB 2 1 .sh s_.2.1 (fun hw3 => ?_)
 have hl4 : List.length s_.2.1 ≤ 1073741824 := Qo (hw3)
 refine blk (fun (k0 : Nat) (s0 : (List Yo)) => [(6, .i ((k0 : Nat) : Int))]) [6] (fun k0 s0 => [(5, [.o 704 s_.1, .o 147212 s0, .i s_.2.2])]) [5] (fun (y0 : (List Yo)) => []) [1, 2, 6] (fun y0 => [(5, [.o 704 s_.1, .o 147362 y0, .i s_.2.2])]) [2, 5] (fun (k0 : Nat) (s0 : (List Yo)) => (Xf (Wh u) Wi s_.2.1 0 []) = Xf (Wh u) Wi (List.drop k0 s_.2.1) k0 s0 ∧ List.length s0 ≤ k0) (fun (y0 : (List Yo)) => (Xf (Wh u) Wi s_.2.1 0 []) = .brk y0) s_.2.1.length [] (weak_gf [(true, 5, 1, true, 320008, 5)] [] [] [(320008, 147212)] (by kernel_rfl)) ⟨rfl, (by simp)⟩ (fun k0 s0 hk0 hI0 => ?_) (fun k0 s0 hk0 hI0 => ?_) (fun y0 hD0 => ?_)
 ·
  have hA0_0 := hI0.2
  obtain ⟨a0, hx0⟩ := Xw (l := s_.2.1) (i := k0) hk0
  refine Qa ?_
  refine Qa ?_
  refine rk Qb [(19, .b true)] [] [] [] [(3, .val (.i (s_.2.1.length : Int))), (4, .val (.b true))] (o2 (Qe (Q7 s_.2.1)) (o1 (Qe (Qd (decide_eq_true (p := ((k0 : Nat) : Int) < (s_.2.1.length : Int)) (by omega)))))) ?_
  refine ckT ?_
  refine Qg ?_
  refine Qa ?_
  refine Qy ?_
  refine Qa ?_
  refine rk Qb [(28, .b (specCanRead a0 u))] [19] [] [] [(3, .row [.i a0.1, .i a0.2.1, .b a0.2.2.1, .i a0.2.2.2.1, .h a0.2.2.2.2]), (6, .val (.b (specCanRead a0 u)))] (o2 (Qk (Xe (i := ((k0 : Nat) : Int)) (by omega) rfl hx0)) (o1 (Qf (specCanRead_a a0 u)))) ?_
  refine ck (specCanRead a0 u) (fun h5 => ?_) (fun h5 => ?_)
  ·
   refine wdB 5 1 (.own true 147212) s0 (fun hw6 => ?_)
   have hl7 : List.length s0 ≤ 1073741824 := Qo (hw6)
   refine rd' Qb Zn [] [28] [(5, [.o 704 s_.1, .slc (.own true 2432) 5 ((eL s0) ++ [[.i ((Yp a0).1), .i ((Yp a0).2.1), .b ((Yp a0).2.2.1), .i ((Yp a0).2.2.2.1), .h ((Yp a0).2.2.2.2)]]), .i s_.2.2])] [5] [(5, .row [.i a0.1, .i a0.2.1, .b a0.2.2.1, .i a0.2.2.2.1, .h a0.2.2.2.2]), (7, .val (.a [.i ((Yp a0).1), .i ((Yp a0).2.1), .b ((Yp a0).2.2.1), .i ((Yp a0).2.2.2.1), .o 0 ((Yp a0).2.2.2.2)]))] (o2 (Qk (Xe (i := ((k0 : Nat) : Int)) (by omega) rfl hx0)) (o2 (Qf (specl04Copy_a a0)) (o1 (ob_len (len_of (Xb s0) (Xb [(Yp a0)]) (by first | omega | (simp; omega) | simp)))))) ?_
   refine eqn [] [] [(5, [.o 704 s_.1, .o 2432 (s0 ++ [(Yp a0)]), .i s_.2.2])] [5] (by rw [show ((eL s0) ++ [[.i ((Yp a0).1), .i ((Yp a0).2.1), .b ((Yp a0).2.2.1), .i ((Yp a0).2.2.2.1), .h ((Yp a0).2.2.2.2)]]) = (eL (s0 ++ [(Yp a0)])) from app_eL (rfl) (rfl)]; first | done | kernel_rfl) ?_
   refine rk Qb [(6, .i ((k0 + 1 : Nat) : Int))] [6] [] [] [(1, .val (.i ((k0 + 1 : Nat) : Int)))] (o1 (Qe (Ku (Qr k0 (by omega))))) ?_
   exact Exists.intro (s0 ++ [(Yp a0)]) (And.intro (Zj [(2432, 147212)] (by kernel_rfl)) ⟨Qx hx0 (X0 h5 (rfl)) hI0.1, by first | omega | (simp; omega) | simp⟩)
  ·
   refine Qg ?_
   refine rk Qb [(6, .i ((k0 + 1 : Nat) : Int))] [6, 28] [] [] [(1, .val (.i ((k0 + 1 : Nat) : Int)))] (o1 (Qe (Ku (Qr k0 (by omega))))) ?_
   exact Exists.intro s0 (And.intro (Qc (by kernel_rfl)) ⟨Qx hx0 (Qv h5 (rfl)) hI0.1, by first | omega | (simp; omega) | simp⟩)
 ·
  have hA0_0 := hI0.2
  refine Qa ?_
  refine Qa ?_
  refine rk Qb [(19, .b false)] [] [] [] [(3, .val (.i (s_.2.1.length : Int))), (4, .val (.b false))] (o2 (Qe (Q7 s_.2.1)) (o1 (Qe (Qd (decide_eq_false (p := ((k0 : Nat) : Int) < (s_.2.1.length : Int)) (by omega)))))) ?_
  refine ckF ?_
  refine Xc ?_
  exact Exists.intro s0 (And.intro (Zj [(147212, 147362)] (by kernel_rfl)) (Xx hk0 (rfl) hI0.1))
 ·
  refine Qa ?_
  refine Qa ?_
  refine rk Qb [(7, .i 0)] [] [] [] [] (o0) ?_
  refine blk (fun (k1 : Nat) (s1 : (List Yo)) => [(7, .i ((k1 : Nat) : Int))]) [7] (fun k1 s1 => [(5, [.o 704 s_.1, .o 147362 s1, .i s_.2.2])]) [5] (fun (y1 : (List Yo)) => []) [7] (fun y1 => [(5, [.o 704 s_.1, .o 147362 y1, .i s_.2.2])]) [5] (fun (k1 : Nat) (s1 : (List Yo)) => (forN (Wj s_) Wk (List.length y0) 0 y0) = forN (Wj s_) Wk ((List.length y0) - k1) k1 s1 ∧ List.length s1 = List.length y0) (fun (y1 : (List Yo)) => (forN (Wj s_) Wk (List.length y0) 0 y0) = .brk y1 ∧ List.length y1 = List.length y0) (List.length y0) y0 (Qc (by kernel_rfl)) ⟨rfl, (by simp)⟩ (fun k1 s1 hk1 hI1 => ?_) (fun k1 s1 hk1 hI1 => ?_) (fun y1 hD1 => ?_)
  ·
   have hA1_0 := hI1.2
   refine Qa ?_
   refine Qa ?_
   refine rk Qb [(44, .b true)] [] [] [] [(3, .val (.i (s1.length : Int))), (4, .val (.b true))] (o2 (Qe (Q7 s1)) (o1 (Qe (Qd (decide_eq_true (p := ((k1 : Nat) : Int) < (s1.length : Int)) (by omega)))))) ?_
   refine ckT ?_
   refine Qg ?_
   refine Qa ?_
   refine Qy ?_
   refine Qa ?_
   refine wdB 5 1 (.own true 147362) s1 (fun hw9 => ?_)
   have hl10 : List.length s1 ≤ 1073741824 := Qo (hw9)
   have hx8 : s1[k1]? = some (nth s1 k1) := Xo (by omega)
   refine rd' Qb Zn [(55, .b (decide ((specl05Place (s_.1, s1, s_.2.2) ((nth s1 k1).2.2.2.1)) < (0 : Int))))] [44] [] [] [(4, .rowE [.i ((nth s1 k1).1), .i ((nth s1 k1).2.1), .b ((nth s1 k1).2.2.1), .i ((nth s1 k1).2.2.2.1), .h ((nth s1 k1).2.2.2.2)]), (7, .val (.i (specl05Place (s_.1, s1, s_.2.2) ((nth s1 k1).2.2.2.1))))] (o2 (Qk (Xe (i := ((k1 : Nat) : Int)) (by omega) rfl hx8)) (o1 (Qf (specl05Place_a (s_.1, s1, s_.2.2) ((nth s1 k1).2.2.2.1))))) ?_
   refine ck (decide ((specl05Place (s_.1, s1, s_.2.2) ((nth s1 k1).2.2.2.1)) < (0 : Int))) (fun h11 => ?_) (fun h11 => ?_)
   ·
    have h11d := of_decide_eq_true h11
    refine rk Qb [] [55] [(5, [.o 704 s_.1, .slc (.own true 147362) 5 (setRow (eL s1) k1 3 [.i 0]), .i s_.2.2])] [5] [(3, .rowE [.i ((nth s1 k1).1), .i ((nth s1 k1).2.1), .b ((nth s1 k1).2.2.1), .i ((nth s1 k1).2.2.2.1), .h ((nth s1 k1).2.2.2.2)])] (o1 (Qk (Xe (i := ((k1 : Nat) : Int)) (by omega) rfl hx8))) ?_
    refine eqn [] [] [(5, [.o 704 s_.1, .o 147362 (List.set s1 k1 ((nth s1 k1).1, (nth s1 k1).2.1, (nth s1 k1).2.2.1, 0, (nth s1 k1).2.2.2.2)), .i s_.2.2])] [5] (by rw [J0 (y := ((nth s1 k1).1, (nth s1 k1).2.1, (nth s1 k1).2.2.1, 0, (nth s1 k1).2.2.2.2)) hx8 rfl]; first | done | kernel_rfl) ?_
    refine rk Qb [(7, .i ((k1 + 1 : Nat) : Int))] [7] [] [] [(1, .val (.i ((k1 + 1 : Nat) : Int)))] (o1 (Qe (Ku (Qr k1 (by omega))))) ?_
    exact Exists.intro (List.set s1 k1 ((nth s1 k1).1, (nth s1 k1).2.1, (nth s1 k1).2.2.1, 0, (nth s1 k1).2.2.2.2)) (And.intro (Qc (by kernel_rfl)) ⟨Vv hk1 (X0 h11 (rfl)) hI1.1, (by first | omega | (simp only [List.length_set]; omega))⟩)
   ·
    have h11d := of_decide_eq_false h11
    refine Qg ?_
    refine rk Qb [(7, .i ((k1 + 1 : Nat) : Int))] [7, 55] [] [] [(1, .val (.i ((k1 + 1 : Nat) : Int)))] (o1 (Qe (Ku (Qr k1 (by omega))))) ?_
    exact Exists.intro s1 (And.intro (Qc (by kernel_rfl)) ⟨Vv hk1 (Qv h11 (rfl)) hI1.1, (by first | omega | (simp only [List.length_set]; omega))⟩)
  ·
   have hA1_0 := hI1.2
   refine Qa ?_
   refine Qa ?_
   refine rk Qb [(44, .b false)] [] [] [] [(3, .val (.i (s1.length : Int))), (4, .val (.b false))] (o2 (Qe (Q7 s1)) (o1 (Qe (Qd (decide_eq_false (p := ((k1 : Nat) : Int) < (s1.length : Int)) (by omega)))))) ?_
   refine ckF ?_
   refine Xc ?_
   exact Exists.intro s1 (And.intro (Qc (by kernel_rfl)) ⟨forN_end hk1 (rfl) hI1.1, by first | omega | (simp only [List.length_set]; omega)⟩)
  ·
   have hD1_0 := hD1.2
   refine Qa ?_
   refine rk Qb [] [5] [(4, [.o 704 s_.1, .o 147362 y1, .i s_.2.2])] [4, 5] [] (o0) ?_
   refine Qj ?_
   exact Y2 [] (congrArg (fun z => (.a [.o 0 z.1, .o 1 z.2.1, .i z.2.2] : AV)) (show X4 s_ u = (s_.1, y1, s_.2.2) from on_b hD0 (on_b hD1.1 (rfl))).symm)
def X9 (s_ : Yn) (d : (List Zh)) (u : Int) : (List Qi) × Bool := (bif ((!(Qq u 0 2)) || (!(Yb s_))) then ([], false) else (((J7 (X4 s_ u) d)).1, ((J7 (X4 s_ u) d)).2))
theorem specEvaluateForUser_a (s_ : Yn) (d : (List Zh)) (u : Int) : ACalls Tryz.prog 37 [.a [.h s_.1, .h s_.2.1, .i s_.2.2], .h d, .i u] (.tup [(false, [.o 0 (((X9 s_ d u)).1)]), (false, [.b (((X9 s_ d u)).2)])]) := by
 refine Qn (tt := tt) Qb Tryz.func37 (fn := Tryz.f37) rfl (by unfold Js; kernel_rfl) (Nat.le_of_ble_eq_true rfl) fun w0 F0 => ?_
 refine Qa ?_
 refine rk Qb [(3, .p 3 0), (6, .e 0), (7, .b false)] [0] [(3, [.h s_.1, .h s_.2.1, .i s_.2.2])] [] [] (o0) ?_
 refine Qa ?_
 refine Qa ?_
 refine jn [(15, .b ((!(Qq u 0 2)) || (!(Yb s_))))] [] [] [] (!(Qq u 0 2)) (fun h1 => ?_) (fun h1 => ?_) ?_
 ·
  have h1n : (Qq u 0 2) = false := bnot_t h1
  refine rk Qb [(15, .b true)] [] [] [] [(1, .val (.b false)), (2, .val (.b true))] (o2 (Qf (cb h1n (Ys u 0 2))) (o1 (Qe (show .b (!false) = .b true from rfl)))) ?_
  exact ⟨rfl, Qc (by rw [h1]; first | done | kernel_rfl)⟩
 ·
  have h1n : (Qq u 0 2) = true := Vw h1
  have h1nw := l01In_iff.1 h1n
  refine rk Qb [(15, .b (!(Yb s_)))] [] [] [] [(1, .val (.b true)), (2, .val (.b false)), (5, .val (.b (Yb s_)))] (o2 (Qf (cb h1n (Ys u 0 2))) (o2 (Qe (show .b (!true) = .b false from rfl)) (o1 (Qf (specIsValidStore_a s_))))) ?_
  exact ⟨rfl, Qc (by rw [h1]; first | done | kernel_rfl)⟩
 refine ck ((!(Qq u 0 2)) || (!(Yb s_))) (fun h2 => ?_) (fun h2 => ?_)
 ·
  refine Qa ?_
  refine rk Qb [(6, .one (.slc (.own true 1024) 2 []))] [6, 15] [] [] [] (o0) ?_
  refine Qj ?_
  exact Y2 [] (congrArg (fun z => (.tup [(false, [.o 0 z.1]), (false, [.b z.2])] : AV)) (show X9 s_ d u = ([], false) from X0 h2 (rfl)).symm)
 ·
  have h2l : ((!(Qq u 0 2))) = false := or_l h2
  have h2ln : (Qq u 0 2) = true := Vw h2l
  have h2lnw := l01In_iff.1 h2ln
  refine Qg ?_
  refine Qa ?_
  refine rk Qb [(6, .o 1344 (((J7 (X4 s_ u) d)).1)), (7, .b (((J7 (X4 s_ u) d)).2))] [1, 2, 3, 6, 7, 15] [] [3] [(2, .val (.a [.o 0 ((X4 s_ u).1), .o 1 ((X4 s_ u).2.1), .i ((X4 s_ u).2.2)])), (4, .val (.tup [(false, [.o 0 (((J7 (X4 s_ u) d)).1)]), (false, [.b (((J7 (X4 s_ u) d)).2)])]))] (o2 (Qf (specVisibleStore_a s_ u)) (o1 (Qf (specEvaluate_a (X4 s_ u) d)))) ?_
  refine Qj ?_
  exact Y2 [] (congrArg (fun z => (.tup [(false, [.o 0 z.1]), (false, [.b z.2])] : AV)) (show X9 s_ d u = (((J7 (X4 s_ u) d)).1, ((J7 (X4 s_ u) d)).2) from Qv h2 (rfl)).symm)
def Wl (s_ : Yn) (d : (List Zh)) (u : Int) (name : ByteArray) : (List Int) := (Yl (((X9 s_ d u)).1) name)
theorem specListDir_a (s_ : Yn) (d : (List Zh)) (u : Int) (name : ByteArray) : ACalls Tryz.prog 52 [.a [.h s_.1, .h s_.2.1, .i s_.2.2], .h d, .i u, .s name] (.o 0 (Wl s_ d u name)) := by
 refine Qn (tt := tt) Qb Tryz.func52 (fn := Tryz.f52) rfl (by unfold Js; kernel_rfl) (Nat.le_of_ble_eq_true rfl) fun w0 F0 => ?_
 refine Qa ?_
 refine rk Qb [(4, .p 4 0), (8, .e 0)] [0] [(4, [.h s_.1, .h s_.2.1, .i s_.2.2])] [] [] (o0) ?_
 refine Qa ?_
 refine rk Qb [(9, .o 960 (((X9 s_ d u)).1))] [1, 2, 4] [] [4] [(3, .val (.tup [(false, [.o 0 (((X9 s_ d u)).1)]), (false, [.b (((X9 s_ d u)).2)])]))] (o1 (Qf (specEvaluateForUser_a s_ d u))) ?_
 refine Qa ?_
 refine rk Qb [(8, .o 1280 (Yl (((X9 s_ d u)).1) name))] [3, 8, 9] [] [] [(2, .val (.o 0 (Yl (((X9 s_ d u)).1) name)))] (o1 (Qf (specResultIDs_a (((X9 s_ d u)).1) name))) ?_
 refine Qj ?_
 exact Y2 [] (congrArg (fun z => (.o 0 z : AV)) (show Wl s_ d u name = (Yl (((X9 s_ d u)).1) name) from rfl).symm)
end Go.Proofs.YtnhmnfmhnepjmaaGreat
namespace Go.Proofs.YtnhmnfmhnepjmaaGreat
open Go.RowKit
theorem forL_forN {α R S T : Type} {f : Nat → α → S → Rd R S T} {g : Nat → S → Rd R S T} {e e' : Nat → S → T} (hf : ∀ k a s, f k a s = g k s) (he : ∀ k s, e k s = e' k s) : ∀ (l : List α) (k : Nat) (s : S), Xf f e l k s = forN g e' l.length k s
  | [], k, s => by simp [Xf, forN, he]
  | a :: l, k, s => by
    simp only [Xf, forN, List.length_cons, hf]
    cases g k s with
    | next s' => exact forL_forN hf he l (k + 1) s'
    | brk t => rfl
    | ret r => rfl
theorem visible_eq (s : Yn) (u : Int) : X4 s u = X3 s u := by
  unfold X4 X3
  rw [forL_congr (f := Wh u) (g := Wc u) (e := Wi) (e' := Wd) (fun _ _ => rfl) s.2.1 0 _ (fun i a t _ => rfl)]
  congr 1
  funext y
  rw [forL_forN (f := We s) (g := Wj s) (e := Wf) (e' := Wk) (fun _ _ _ => rfl) (fun _ _ => rfl)]
theorem evalUser_eq (s : Yn) (d : List Zh) (u : Int) : X9 s d u = X8 s d u := by
  unfold X9 X8
  rw [store_eq, visible_eq, evaluate_eq]
  have h : Qq u 0 2 = J3 u := rfl
  rw [h, Bool.or_comm]
theorem listDir_eq (s : Yn) (d : List Zh) (u : Int) (n : ByteArray) : Wl s d u n = Wg s d u n := by
  unfold Wl Wg
  rw [evalUser_eq]
  rfl
theorem ints_size (l : List Int) : GoD.size l = l.length := size_plain (fun _ => rfl)
open GoE (enc wide)
def specl07PutId_f0 (n : Int) (k0 : Nat) (a0 : Int) (_ : Unit) : Rd ((List Int)) (Unit) (Int) := (bif decide (a0 < n) then (.next ()) else (.brk ((k0 : Nat) : Int)))
def specl07PutId_e0 (k0 : Nat) (_ : Unit) : Int := ((k0 : Nat) : Int)
def Jh (list : (List Int)) (n : Int) : (List Int) := (Out.on (Xf (specl07PutId_f0 n) specl07PutId_e0 list 0 ()) (fun y0 => (bif (decide (y0 < (list.length : Int)) && ((nth list (Int.toNat y0)) == n)) then list else List.take (Int.toNat y0) list ++ [n] ++ (List.drop (Int.toNat y0) list))))
theorem specl07PutId_a (list : (List Int)) (n : Int) (hp : list.length < 1073741824) : ACalls Tryz.prog 38 [.h list, .i n] (.h (Jh list n)) := by
 refine Qn (tt := tt) Qb Tryz.func38 (fn := Tryz.f38) rfl (by unfold Js; kernel_rfl) (Nat.le_of_ble_eq_true rfl) fun w0 F0 => ?_
 refine Qa ?_
 refine rk Qb [(4, .e 0)] [] [] [] [] (o0) ?_
 refine Qa ?_
 refine rk Qb [(5, .i 0)] [] [] [] [] (o0) ?_
 refine Qa ?_
 refine wdT 0 0 .sh list (fun hw1 => ?_)
 have hl2 : List.length list ≤ 1073741824 := Qo (hw1)
 refine blk (fun (k0 : Nat) (s0 : Unit) => [(5, .i ((k0 : Nat) : Int))]) [5] (fun k0 s0 => []) [] (fun (y0 : Int) => [(5, .i y0)]) [5] (fun y0 => []) [] (fun (k0 : Nat) (s0 : Unit) => (Xf (specl07PutId_f0 n) specl07PutId_e0 list 0 ()) = Xf (specl07PutId_f0 n) specl07PutId_e0 (List.drop k0 list) k0 s0) (fun (y0 : Int) => (Xf (specl07PutId_f0 n) specl07PutId_e0 list 0 ()) = .brk y0 ∧ 0 ≤ y0 ∧ y0 ≤ (list.length : Int)) list.length () (Qc (by kernel_rfl)) rfl (fun k0 s0 hk0 hI0 => ?_) (fun k0 s0 hk0 hI0 => ?_) (fun y0 hD0 => ?_)
 ·
  obtain ⟨a0, hx0⟩ := Xw (l := list) (i := k0) hk0
  refine Qa ?_
  refine Qa ?_
  refine rk Qb [(18, .b (decide (a0 < n)))] [] [] [] [(2, .val (.i (list.length : Int))), (3, .val (.b true)), (7, .row [.i a0])] (o2 (Qe (Q7 list)) (o2 (Qe (Qd (decide_eq_true (p := ((k0 : Nat) : Int) < (list.length : Int)) (by omega)))) (o1 (Qk (Xe (i := ((k0 : Nat) : Int)) (by omega) rfl hx0))))) ?_
  refine ck (decide (a0 < n)) (fun h3 => ?_) (fun h3 => ?_)
  ·
   have h3d := of_decide_eq_true h3
   refine Qg ?_
   refine Qy ?_
   refine rk Qb [(5, .i ((k0 + 1 : Nat) : Int))] [5, 18] [] [] [(1, .val (.i ((k0 + 1 : Nat) : Int)))] (o1 (Qe (Ku (Qr k0 (by omega))))) ?_
   exact Exists.intro () (And.intro (Qc (by kernel_rfl)) (Qx hx0 (X0 h3 (rfl)) hI0))
  ·
   have h3d := of_decide_eq_false h3
   refine Xc ?_
   exact Exists.intro ((k0 : Nat) : Int) (And.intro (Qc (by kernel_rfl)) ⟨forL_brk hx0 (Qv h3 (rfl)) hI0, by first | omega | (simp only [List.length_set]; omega)⟩)
 ·
  refine Qa ?_
  refine Qa ?_
  refine rk Qb [(18, .b false)] [] [] [] [(2, .val (.i (list.length : Int))), (3, .val (.b false))] (o2 (Qe (Q7 list)) (o1 (Qe (Qd (decide_eq_false (p := ((k0 : Nat) : Int) < (list.length : Int)) (by omega)))))) ?_
  refine ckF ?_
  refine Xc ?_
  exact Exists.intro ((k0 : Nat) : Int) (And.intro (Qc (by kernel_rfl)) ⟨Xx hk0 (rfl) hI0, by first | omega | (simp only [List.length_set]; omega)⟩)
 ·
  have hD0_0 := hD0.2
  refine Qa ?_
  refine Qa ?_
  refine jn [(32, .b (decide (y0 < (list.length : Int)) && ((nth list (Int.toNat y0)) == n)))] [] [] [] (decide (y0 < (list.length : Int))) (fun h4 => ?_) (fun h4 => ?_) ?_
  ·
   have h4d := of_decide_eq_true h4
   have hx5 : list[(Int.toNat y0)]? = some (nth list (Int.toNat y0)) := Xo (by omega)
   refine rk Qb [(32, .b ((nth list (Int.toNat y0)) == n))] [] [] [] [(2, .val (.i (list.length : Int))), (3, .val (.b true)), (7, .row [.i (nth list (Int.toNat y0))])] (o2 (Qe (Q7 list)) (o2 (Qe (Qd h4)) (o1 (Qk (Xe (i := y0) (by omega) rfl hx5))))) ?_
   exact ⟨rfl, Qc (by rw [h4]; first | done | kernel_rfl)⟩
  ·
   refine rk Qb [(32, .b false)] [] [] [] [(2, .val (.i (list.length : Int))), (3, .val (.b false))] (o2 (Qe (Q7 list)) (o1 (Qe (Qd h4)))) ?_
   exact ⟨rfl, Qc (by rw [h4]; first | done | kernel_rfl)⟩
  refine ck (decide (y0 < (list.length : Int)) && ((nth list (Int.toNat y0)) == n)) (fun h6 => ?_) (fun h6 => ?_)
  ·
   refine Qa ?_
   refine rk Qb [(4, .h list)] [4, 32] [] [] [] (o0) ?_
   refine Qj ?_
   exact Y2 [] (congrArg (fun z => (.h z : AV)) (show Jh list n = list from on_b hD0.1 (X0 h6 (rfl))).symm)
  ·
   refine Qg ?_
   refine Qa ?_
   refine rk Qb [(6, .one (.slc (.own true 2624) 1 (([] ++ (eL (List.take (Int.toNat y0) list))) ++ [[.i n]])))] [1, 32] [] [] [(3, .val (.h (List.take (Int.toNat y0) list))), (4, .flat)] (o2 (Qe (av_take .sh 1 (Int.toNat y0) y0 list rfl)) (o2 (ob_rng (lo := 0) (hi := y0) (n := (List.length (eL list))) (rng_of (by omega) (by omega) (by omega))) (o2 (ob_len (n := (([] : List (List PV)).length + ((eL (List.take (Int.toNat y0) list)) : List (List PV)).length)) (len_of (rfl) (Xb (List.take (Int.toNat y0) list)) (by first | omega | (simp; omega) | simp))) (o2 (ob_flat (flat_eL (List.take (Int.toNat y0) list))) (o1 (ob_len (n := ((([] ++ (eL (List.take (Int.toNat y0) list))) : List (List PV)).length + ([[.i n]] : List (List PV)).length)) (by simp [Xb]; omega))))))) ?_
   refine eqn [(6, .o 2624 (List.take (Int.toNat y0) list ++ [n]))] [6] [] [] (by rw [show (([] ++ (eL (List.take (Int.toNat y0) list))) ++ [[.i n]]) = (eL (List.take (Int.toNat y0) list ++ [n])) from app_eL (rfl) (rfl)]; first | done | kernel_rfl) ?_
   refine Qa ?_
   refine wdT 6 0 (.own true 2624) (List.take (Int.toNat y0) list ++ [n]) (fun hw7 => ?_)
   have hl8 : List.length (List.take (Int.toNat y0) list ++ [n]) ≤ 1073741824 := Qo (hw7)
   refine rk Qb [(4, .one (.slc (.own true 2944) 1 ((eL (List.take (Int.toNat y0) list ++ [n])) ++ (eL (List.drop (Int.toNat y0) list)))))] [0, 4, 5, 6] [] [] [(3, .val (.h (List.drop (Int.toNat y0) list))), (4, .flat)] (o2 (Qe (av_drop .sh 1 (Int.toNat y0) y0 list rfl)) (o2 (ob_rng (lo := y0) (hi := (((eL list) : List (List PV)).length : Int)) (n := (List.length (eL list))) (rng_all (by omega) (by omega))) (o2 (ob_len (len_of (Xb (List.take (Int.toNat y0) list ++ [n])) (Xb (List.drop (Int.toNat y0) list)) (by first | omega | (simp; omega) | simp))) (o1 (ob_flat (flat_eL (List.drop (Int.toNat y0) list))))))) ?_
   refine eqn [(4, .o 2944 (List.take (Int.toNat y0) list ++ [n] ++ (List.drop (Int.toNat y0) list)))] [4] [] [] (by rw [show ((eL (List.take (Int.toNat y0) list ++ [n])) ++ (eL (List.drop (Int.toNat y0) list))) = (eL (List.take (Int.toNat y0) list ++ [n] ++ (List.drop (Int.toNat y0) list))) from app_eL (rfl) (rfl)]; first | done | kernel_rfl) ?_
   refine Qj ?_
   exact Y2 [2944] (congrArg (fun z => (.h z : AV)) (show Jh list n = List.take (Int.toNat y0) list ++ [n] ++ (List.drop (Int.toNat y0) list) from on_b hD0.1 (Qv h6 (rfl))).symm)
end Go.Proofs.YtnhmnfmhnepjmaaGreat
namespace Go.Proofs.YtnhmnfmhnepjmaaGreat
open Go.RowKit
theorem asc_ext : ∀ (a b : List Int), a.Pairwise (· < ·) → b.Pairwise (· < ·) → (∀ x, x ∈ a ↔ x ∈ b) → a = b
  | [], [], _, _, _ => rfl
  | [], y :: b, _, _, h => by have := (h y).2 (by simp); simp at this
  | x :: a, [], _, _, h => by have := (h x).1 (by simp); simp at this
  | x :: a, y :: b, ha, hb, h => by
    rw [List.pairwise_cons] at ha hb
    have h1 : x = y := by
      have hx := (h x).1 (by simp)
      have hy := (h y).2 (by simp)
      simp only [List.mem_cons] at hx hy
      rcases hx with e | hx
      · exact e
      · rcases hy with e | hy
        · exact e.symm
        · have h1 := ha.1 y hy
          have h2 := hb.1 x hx
          omega
    subst h1
    congr 1
    refine asc_ext a b ha.2 hb.2 fun z => ?_
    have hz := h z
    simp only [List.mem_cons] at hz
    constructor
    · intro hm
      have hlt := ha.1 z hm
      rcases hz.1 (.inr hm) with e | e
      · omega
      · exact e
    · intro hm
      have hlt := hb.1 z hm
      rcases hz.2 (.inr hm) with e | e
      · omega
      · exact e
def putId : List Int → Int → List Int
  | [], n => [n]
  | x :: l, n => if x < n then x :: putId l n else if x = n then x :: l else n :: x :: l
theorem mem_putId (n x : Int) : ∀ l : List Int, x ∈ putId l n ↔ x = n ∨ x ∈ l
  | [] => by simp [putId]
  | y :: l => by
    unfold putId
    by_cases h1 : y < n
    · rw [if_pos h1, List.mem_cons, mem_putId n x l, List.mem_cons]
      constructor
      · rintro (h | h | h)
        · exact .inr (.inl h)
        · exact .inl h
        · exact .inr (.inr h)
      · rintro (h | h | h)
        · exact .inr (.inl h)
        · exact .inl h
        · exact .inr (.inr h)
    · rw [if_neg h1]
      by_cases h2 : y = n
      · rw [if_pos h2, h2]; simp
      · rw [if_neg h2]; simp
theorem asc_putId (n : Int) : ∀ l : List Int, l.Pairwise (· < ·) → (putId l n).Pairwise (· < ·)
  | [], _ => by simp [putId]
  | y :: l, h => by
    rw [List.pairwise_cons] at h
    unfold putId
    by_cases h1 : y < n
    · rw [if_pos h1, List.pairwise_cons]
      refine ⟨fun z hz => ?_, asc_putId n l h.2⟩
      rcases (mem_putId n z l).1 hz with e | e
      · omega
      · exact h.1 z e
    · rw [if_neg h1]
      by_cases h2 : y = n
      · rw [if_pos h2, List.pairwise_cons]; exact h
      · rw [if_neg h2, List.pairwise_cons, List.pairwise_cons]
        refine ⟨fun z hz => ?_, h⟩
        rcases List.mem_cons.1 hz with e | e
        · omega
        · have := h.1 z e; omega
theorem len_putId (n : Int) : ∀ l : List Int, (putId l n).length ≤ l.length + 1
  | [] => by simp [putId]
  | y :: l => by
    have h := len_putId n l
    unfold putId
    split
    · simp only [List.length_cons]; omega
    · split
      · simp
      · simp
def placeOf (l : List Int) (n : Int) : Nat := (l.takeWhile (fun x => decide (x < n))).length
theorem putId_eq (n : Int) : ∀ l : List Int, putId l n = if l[placeOf l n]? = some n then l else l.take (placeOf l n) ++ [n] ++ l.drop (placeOf l n)
  | [] => by simp [putId, placeOf]
  | y :: l => by
    have ih := putId_eq n l
    unfold putId placeOf
    by_cases h1 : y < n
    · rw [if_pos h1, ih]
      simp only [List.takeWhile_cons, h1, decide_true, if_true, List.length_cons, List.getElem?_cons_succ, List.take_succ_cons, List.drop_succ_cons]
      unfold placeOf
      split <;> simp
    · rw [if_neg h1]
      simp only [List.takeWhile_cons, h1, decide_false, List.length_nil, List.getElem?_cons_zero, Option.some.injEq, List.take_zero, List.drop_zero]
      by_cases h2 : y = n
      · rw [if_pos h2]; simp [h2]
      · rw [if_neg h2]; simp [h2]
def putAll (l : List Int) (xs : List Int) : List Int := xs.foldl putId l
theorem mem_putAll (x : Int) : ∀ (xs l : List Int), x ∈ putAll l xs ↔ x ∈ xs ∨ x ∈ l
  | [], l => by simp [putAll]
  | n :: xs, l => by
    have h := mem_putAll x xs (putId l n)
    unfold putAll at h ⊢
    rw [List.foldl_cons, h, mem_putId, List.mem_cons]
    constructor
    · rintro (h | h | h)
      · exact .inl (.inr h)
      · exact .inl (.inl h)
      · exact .inr h
    · rintro ((h | h) | h)
      · exact .inr (.inl h)
      · exact .inl h
      · exact .inr (.inr h)
theorem asc_putAll : ∀ (xs l : List Int), l.Pairwise (· < ·) → (putAll l xs).Pairwise (· < ·)
  | [], _, h => h
  | n :: xs, l, h => asc_putAll xs (putId l n) (asc_putId n l h)
def less (ids removed : List Int) : List Int := ids.filter (fun x => !removed.contains x)
def replay1 (ids added removed : List Int) : List Int := putAll (putAll [] (less ids removed)) added
theorem less_len (ids removed : List Int) : (less ids removed).length ≤ ids.length := List.length_filter_le _ _
theorem compact_asc (d : Array Int) (hs : ∀ i j, i ≤ j → j < d.size → d[i]! ≤ d[j]!) : ∀ m, m ≤ d.size → (Lib.compactUpTo d m).Pairwise (· < ·) ∧ ∀ x, x ∈ Lib.compactUpTo d m ↔ ∃ j, j < m ∧ d[j]! = x
  | 0, _ => by simp [Lib.compactUpTo]
  | m + 1, hm => by
    obtain ⟨h1, h2⟩ := compact_asc d hs m (by omega)
    rw [Lib.compactUpTo_succ]
    by_cases hk : Lib.keeps d m = true
    · rw [if_pos hk]
      refine ⟨?_, fun x => ?_⟩
      · rw [List.pairwise_append]
        refine ⟨h1, by simp, fun a ha b hb => ?_⟩
        obtain ⟨j, hj, rfl⟩ := (h2 a).1 ha
        obtain rfl : b = d[m]! := by simpa using hb
        have hle := hs j (m - 1) (by omega) (by omega)
        have hle2 := hs (m - 1) m (by omega) (by omega)
        have hne : d[m]! ≠ d[m - 1]! := by
          unfold Lib.keeps at hk
          simp only [Bool.or_eq_true, beq_iff_eq, bne_iff_ne, decide_eq_true_eq] at hk
          rcases hk with h | h
          · omega
          · exact h
        omega
      · rw [List.mem_append, h2 x]
        constructor
        · rintro (⟨j, hj, e⟩ | h)
          · exact ⟨j, by omega, e⟩
          · exact ⟨m, by omega, by simpa using (by simpa using h : x = d[m]!).symm⟩
        · rintro ⟨j, hj, e⟩
          by_cases hjm : j = m
          · subst hjm; exact .inr (by simp [e])
          · exact .inl ⟨j, by omega, e⟩
    · rw [if_neg hk, List.append_nil]
      refine ⟨h1, fun x => ?_⟩
      rw [h2 x]
      have hm0 : m ≠ 0 ∧ d[m]! = d[m - 1]! := by
        unfold Lib.keeps at hk
        simp only [Bool.or_eq_true, beq_iff_eq, bne_iff_ne, decide_eq_true_eq, not_or, Decidable.not_not] at hk
        exact hk
      constructor
      · rintro ⟨j, hj, e⟩; exact ⟨j, by omega, e⟩
      · rintro ⟨j, hj, e⟩
        by_cases hjm : j = m
        · subst hjm; exact ⟨j - 1, by omega, hm0.2 ▸ e⟩
        · exact ⟨j, by omega, e⟩
theorem compact_sort (l : List Int) (a : List Int) (ha : a.Pairwise (· < ·)) (hm : ∀ x, x ∈ a ↔ x ∈ l) : Lib.compact (l.mergeSort fun x y => decide (x ≤ y)) = a := by
  have hp := List.mergeSort_perm l (fun x y => decide (x ≤ y))
  have hs := List.pairwise_mergeSort (le := fun (x y : Int) => decide (x ≤ y)) (fun a b c h1 h2 => by simp at h1 h2 ⊢; omega) (fun a b => by simp; omega) l
  generalize (l.mergeSort fun x y => decide (x ≤ y)) = s at hp hs
  have hsz : s.toArray.size = s.length := by simp
  have hget : ∀ j, j < s.length → s.toArray[j]! = s[j]! := fun j hj => by simp
  have hmono : ∀ i j, i ≤ j → j < s.toArray.size → s.toArray[i]! ≤ s.toArray[j]! := fun i j hij hj => by
    rw [hsz] at hj
    rw [hget i (by omega), hget j hj, getElem!_pos s i (by omega), getElem!_pos s j hj]
    by_cases e : i = j
    · subst e; exact Int.le_refl _
    · have := List.pairwise_iff_getElem.1 hs i j (by omega) hj (by omega)
      simpa using this
  obtain ⟨h1, h2⟩ := compact_asc s.toArray hmono s.length (by omega)
  refine asc_ext _ _ h1 ha fun x => ?_
  show x ∈ Lib.compactUpTo s.toArray s.length ↔ _
  rw [h2 x, hm x, ← hp.mem_iff]
  constructor
  · rintro ⟨j, hj, e⟩
    rw [hget j hj, getElem!_pos s j hj] at e
    exact e ▸ List.getElem_mem hj
  · intro h
    obtain ⟨j, hj, e⟩ := List.getElem_of_mem h
    exact ⟨j, hj, by rw [hget j hj, getElem!_pos s j hj]; exact e⟩
theorem replay1_eq (ids added removed : List Int) : Lib.compact ((less ids removed ++ added).mergeSort fun x y => decide (x ≤ y)) = replay1 ids added removed :=
  compact_sort _ _ (asc_putAll _ _ (asc_putAll _ _ (by simp))) fun x => by
    unfold replay1
    rw [mem_putAll, mem_putAll, List.mem_append]
    simp only [List.not_mem_nil, or_false]
    exact Or.comm
end Go.Proofs.YtnhmnfmhnepjmaaGreat
namespace Go.Proofs.YtnhmnfmhnepjmaaGreat
open Go.RowKit
theorem putI_loop (n : Int) : ∀ (l : List Int) (k : Nat), Xf (specl07PutId_f0 n) specl07PutId_e0 l k () = .brk (((k + placeOf l n : Nat)) : Int)
  | [], k => by simp [Xf, specl07PutId_e0, placeOf]
  | a :: l, k => by
    simp only [Xf, specl07PutId_f0]
    by_cases h : a < n
    · have e : placeOf (a :: l) n = placeOf l n + 1 := by simp [placeOf, h]
      rw [decide_eq_true h, e]
      simp only [cond_true]
      rw [putI_loop n l (k + 1), show k + 1 + placeOf l n = k + (placeOf l n + 1) by omega]
    · have e : placeOf (a :: l) n = 0 := by simp [placeOf, h]
      rw [decide_eq_false h, e]
      rfl
theorem l07Put_eq (l : List Int) (n : Int) : Jh l n = putId l n := by
  unfold Jh
  rw [putI_loop, putId_eq]
  simp only [Out.on, Nat.zero_add, Int.toNat_natCast]
  by_cases h : l[placeOf l n]? = some n
  · obtain ⟨hlt, _⟩ := List.getElem?_eq_some_iff.1 h
    rw [if_pos h, decide_eq_true (by omega : ((placeOf l n : Nat) : Int) < (l.length : Int)), nth_of h]
    simp
  · rw [if_neg h]
    have hc : (decide (((placeOf l n : Nat) : Int) < (l.length : Int)) && (nth l (placeOf l n) == n)) = false := by
      by_cases hlt : placeOf l n < l.length
      · have : nth l (placeOf l n) ≠ n := fun e => h (by rw [Xo hlt, e])
        rw [beq_eq_false_iff_ne.2 this, Bool.and_false]
      · rw [decide_eq_false (by omega), Bool.false_and]
    rw [hc, cond_false]
theorem putI_len (l : List Int) (n : Int) : List.length (Jh l n) ≤ List.length l + 1 := by rw [l07Put_eq]; exact len_putId n l
end Go.Proofs.YtnhmnfmhnepjmaaGreat
namespace Go.Proofs.YtnhmnfmhnepjmaaGreat
open Go.RowKit
open GoD (rd own)
def IRow (e : TypeId) (B : Nat) (w : World) (v : Value) (l : List Int) : Prop :=
  (∀ x, x ∈ l → I64 x) ∧ ((v = .slice none 0 0 ∧ l = []) ∨ ∃ (g cap : Nat) (cur : Array Value), v = .slice (some ⟨g, 0, none⟩) l.length cap ∧ B ≤ g ∧ w.heap[g]? = some (.cells cur e (0, 0)) ∧ l.length ≤ cap ∧ cap ≤ maxLen ∧ cur.size = cap ∧ cur.toList.take l.length = l.map (Value.int .i64))
theorem IRow.keep {e : TypeId} {B : Nat} {w w' : World} {v : Value} {l : List Int} (h : IRow e B w v l) (hb : Below w.heap.size w w') : IRow e B w' v l := by
  refine ⟨h.1, ?_⟩
  rcases h.2 with h | ⟨g, cap, cur, hv, hB, hg, h1, h2, h3, h4⟩
  · exact .inl h
  · exact .inr ⟨g, cap, cur, hv, hB, (hb.block g (Xa hg)).trans hg, h1, h2, h3, h4⟩
theorem IRow.mono {e : TypeId} {B B' : Nat} {w : World} {v : Value} {l : List Int} (h : IRow e B w v l) (hb : B' ≤ B) : IRow e B' w v l := by
  refine ⟨h.1, ?_⟩
  rcases h.2 with h | ⟨g, cap, cur, hv, hB, hg, h1, h2, h3, h4⟩
  · exact .inl h
  · exact .inr ⟨g, cap, cur, hv, Nat.le_trans hb hB, hg, h1, h2, h3, h4⟩
theorem IRow.slice {e : TypeId} {B : Nat} {w : World} {v : Value} {l : List Int} (h : IRow e B w v l) : ∃ oa cap, v = .slice oa l.length cap := by
  rcases h.2 with ⟨rfl, rfl⟩ | ⟨g, cap, cur, rfl, _⟩
  · exact ⟨_, _, rfl⟩
  · exact ⟨_, _, rfl⟩
theorem IRow.row {e : TypeId} {B : Nat} {w : World} {v : Value} {l : List Int} (h : IRow e B w v l) : w.ownsRow B e 1 v l.length (l.map (Value.int .i64)) := by
  refine ⟨by simp, ?_⟩
  rcases h.2 with ⟨rfl, rfl⟩ | ⟨g, cap, cur, rfl, hB, hg, h1, h2, h3, h4⟩
  · exact .inl ⟨rfl, rfl⟩
  · exact .inr ⟨g, cap, cur, rfl, hB, hg, h1, h2, by rw [h3, Nat.mul_one], by rw [Nat.mul_one, h4]⟩
theorem IRow.of_row {e : TypeId} {B n : Nat} {w : World} {v : Value} {l : List Int} (h : w.ownsRow B e 1 v n (l.map (Value.int .i64))) (hi : ∀ x, x ∈ l → I64 x) : IRow e B w v l := by
  have hn : l.length = n := by have := h.1; simpa using this
  subst hn
  refine ⟨hi, ?_⟩
  rcases h.2 with ⟨h1, h2⟩ | ⟨g, cap, cur, h1, hB, hg, h2, h3, h4, h5⟩
  · refine .inl ⟨h1, ?_⟩
    first
      | (simpa using h2)
      | (cases l with | nil => rfl | cons a l => simp at h2)
  · exact .inr ⟨g, cap, cur, h1, hB, hg, h2, h3, by rw [h4, Nat.mul_one], by rw [Nat.mul_one] at h5; exact h5⟩
theorem IRow.own {e : TypeId} {B : Nat} {w : World} {v : Value} {l : List Int} (h : IRow e B w v l) : ∃ L, own L w [v] l ∧ (∀ b, b ∈ L → B ≤ b ∧ b < w.heap.size) ∧ L = v.ownBlock.toList := by
  obtain ⟨hi, h⟩ := h
  rcases h with ⟨rfl, rfl⟩ | ⟨g, cap, cur, rfl, hB, hg, h1, h2, h3, h4⟩
  · exact ⟨[], ⟨by simp, .inl ⟨rfl, rfl, none, rfl⟩⟩, by simp, rfl⟩
  · refine ⟨[g], ⟨by simp, .inr ⟨g, cap, cur, e, List.replicate l.length [], rfl, hg, h1, h2, by show cur.size = cap * 1; omega, by simp, by simp, ?_⟩⟩, fun b hb => ?_, rfl⟩
    · intro i Li a hLi ha
      have hL0 : Li = [] := (List.mem_replicate.1 (List.mem_of_getElem? hLi)).2
      subst hL0
      have hil : i < l.length := (List.getElem?_eq_some_iff.1 ha).1
      refine ⟨rfl, ?_, hi a (List.mem_of_getElem? ha)⟩
      have hc : cur.toList[i]? = some (Value.int .i64 a) := by
        have h5 : (cur.toList.take l.length)[i]? = (l.map (Value.int .i64))[i]? := by rw [h4]
        rw [List.getElem?_take, if_pos hil, List.getElem?_map, ha] at h5
        exact h5
      show (cur.toList.drop (i * 1)).take 1 = _
      rw [Nat.mul_one]
      obtain ⟨hlt, he⟩ := List.getElem?_eq_some_iff.1 hc
      rw [List.drop_eq_getElem_cons hlt, he]
      rfl
    · obtain rfl : b = g := by simpa using hb
      exact ⟨hB, Xa hg⟩
theorem IRow.rd {e : TypeId} {B : Nat} {w : World} {v : Value} {l : List Int} (h : IRow e B w v l) : GoD.rd w [v] l := by
  obtain ⟨L, ho, _⟩ := h.own
  exact GoD.own_rd ho
theorem IRow.fresh {e : TypeId} {B : Nat} (w : World) (hB : B ≤ w.heap.size) : IRow e B (w.alloc (.cells #[] e)) (.slice (some ⟨w.heap.size, 0, none⟩) 0 0) [] :=
  ⟨by simp, .inr ⟨w.heap.size, 0, #[], rfl, hB, heap_alloc_new w _, Nat.le_refl _, Nat.zero_le _, rfl, rfl⟩⟩
theorem IRow.nil {e : TypeId} {B : Nat} (w : World) : IRow e B w (.slice none 0 0) [] := ⟨by simp, .inl ⟨rfl, rfl⟩⟩
theorem rd_i64 {w : World} {v : Value} {l : List Int} (h : GoD.rd w [v] l) : ∀ x, x ∈ l → I64 x := by
  obtain ⟨oa, cap, _, _, _, hel⟩ := h
  intro x hx
  obtain ⟨i, hi, rfl⟩ := List.getElem_of_mem hx
  obtain ⟨b, off, ce, _, _, _, h2⟩ := hel i _ (List.getElem?_eq_getElem hi)
  exact h2.2
theorem rd_ints {w : World} {oa : Option Addr} {cap : Nat} {l : List Int} (h : GoD.rd w [.slice oa l.length cap] l) : l = [] ∨ ∃ (b off : Nat), oa = some ⟨b, off, none⟩ ∧ ∀ j, j < l.length → w.cell? ⟨b, off + j, none⟩ = some (.int .i64 (l.getD j 0)) := by
  obtain ⟨oa', cap', e, hl, hm, hel⟩ := h
  obtain ⟨rfl, rfl⟩ : oa = oa' ∧ cap = cap' := by simpa using e
  cases hcase : l with
  | nil => exact .inl rfl
  | cons a0 l0 =>
    right
    obtain ⟨b, off, _, rfl, _⟩ := hel 0 a0 (by simp [hcase])
    rw [← hcase]
    refine ⟨b, off, rfl, fun j hj => ?_⟩
    obtain ⟨b', off', ce, e', hcl, hcc, hr⟩ := hel j _ (List.getElem?_eq_getElem hj)
    obtain ⟨rfl, rfl⟩ : b = b' ∧ off = off' := by simpa using e'
    have := hcc 0 (.int .i64 l[j]) (by rw [hr.1]; rfl)
    rw [List.getD_eq_getElem?_getD, List.getElem?_eq_getElem hj]
    simpa [show GoD.n Int = 1 from rfl] using this
section
variable {α : Type} [GoD α]
end
/-! ### append of a whole slice of integers -/
theorem run_appInts {P : Program} (w : World) (B : Nat) (t ty e : TypeId) (ht : P.underlying t = some (.slice e))
    (hinf : (P.info? e).map (fun i => (i.zero.map (·.cells.size), i.size, decide (i.bytes ≤ 1000))) = some (some 1, 1, true)) (hB : B ≤ w.heap.size)
    {v y : Value} {l l2 : List Int} (hv : IRow e B w v l) (hr : GoD.rd w [y] l2) (hl : l.length + l2.length ≤ 1073741824) :
    ∃ v' w', (Builtin.append_ #[t, t] ty #[v, y]).run P w = .ok v' w' ∧ IRow e B w' v' (l ++ l2) ∧ Chg v.ownBlock.toList w w' ∧ (∀ g, v'.ownBlock = some g → v.ownBlock = some g ∨ w.heap.size ≤ g) := by
  obtain ⟨i, z, hi, hz, hsize, hzn, hb⟩ := info_ok hinf
  obtain ⟨oa, cap, rfl⟩ := slice_of_rd hr
  have hi2 := rd_i64 hr
  rcases rd_ints hr with rfl | ⟨b, off, rfl, hcells⟩
  · refine ⟨v, w, ?_, by rw [List.append_nil]; exact hv, Chg.refl _ _, fun g hg => .inl hg⟩
    obtain ⟨oa', cap', hs⟩ := hv.slice
    rcases hv.2 with ⟨rfl, rfl⟩ | ⟨g, c0, cur, rfl, _, _, h1, _⟩
    · cases oa <;> simp [Builtin.append_, run_underlying ht, sizeOf, typeInfo, hi, Builtin.lenOf, Builtin.firstCells, loadCells, loadCellsFrom, storeCells]
    · cases oa <;> simp [Builtin.append_, run_underlying ht, sizeOf, typeInfo, hi, Builtin.lenOf, Builtin.firstCells, loadCells, loadCellsFrom, storeCells, h1]
  · have hi1 := hv.1
    obtain ⟨v', w', hr', hw, hgr, hvb, _⟩ := run_app (P := P) w B t ty e i z ht hi hz (by rw [hsize]; exact hzn) (by rw [hsize]; exact Nat.one_pos) hb (by rw [hsize]; exact hv.row) ⟨b, off, none⟩ l2.length cap (l2.map (Value.int .i64)) (by simp [hsize]) (fun j u hj => by
        rw [List.getElem?_map] at hj
        obtain ⟨x, hx, rfl⟩ := Option.map_eq_some_iff.1 hj
        have hjl : j < l2.length := (List.getElem?_eq_some_iff.1 hx).1
        have := hcells j hjl
        rw [List.getD_eq_getElem?_getD, hx] at this
        unfold Addr.add
        by_cases hj0 : j = 0
        · subst hj0; simpa using this
        · simpa [hj0] using this) (by intro u hu; obtain ⟨x, _, rfl⟩ := List.mem_map.1 hu; simp [Value.oneCell']) (by omega) hB
    rw [hsize, ← List.map_append] at hw
    refine ⟨v', w', hr', IRow.of_row hw (fun x hx => ?_), ⟨hgr.os, hgr.tape, hgr.output, hgr.size, fun k hk hn => hgr.block k hk (fun e => hn (by rw [← e]; simp))⟩, hvb⟩
    rcases List.mem_append.1 hx with h | h
    · exact hi1 x h
    · exact hi2 x h
theorem IRow.below {e : TypeId} {B : Nat} {w w' : World} {v : Value} {l : List Int} (h : IRow e B w v l) (hc : Chg v.ownBlock.toList w w') (hB : B ≤ w.heap.size) : Below B w w' :=
  hc.below hB fun b hb => by
    rcases h.2 with ⟨rfl, rfl⟩ | ⟨g, cap, cur, rfl, hg, _⟩
    · simp [Value.ownBlock] at hb
    · obtain rfl : b = g := by simpa [Value.ownBlock] using hb
      exact hg
theorem wpList_appInts {P : Program} {w : World} {ops : Array Oper} {rest : List Oper} {o : Oper} {a : Act} {Q : Exit → Act → World → Prop} (s x : Operand) (t e : TypeId) (B : Nat) {v y : Value} {l l2 : List Int}
    (hv : IRow e B w v l) (hr : GoD.rd w [y] l2) (hl : l.length + l2.length ≤ 1073741824) (hB : B ≤ w.heap.size)
    (hgd : o.guard = none) (ho : o.op = .call { callee := .builtin .append, args := #[s, x], argTypes := #[t, t] }) (ht : P.underlying t = some (.slice e))
    (hinf : (P.info? e).map (fun i => (i.zero.map (·.cells.size), i.size, decide (i.bytes ≤ 1000))) = some (some 1, 1, true)) (hs : a.eval s = v) (hx : a.eval x = y)
    (k : ∀ v' w', IRow e B w' v' (l ++ l2) → Below B w w' → w.heap.size ≤ w'.heap.size → wpList P ops Q rest (a.put o.dst v') w') : wpList P ops Q (o :: rest) a w := by
  refine wpList_plain hgd fun _ hK => ?_
  obtain ⟨v', w', hr', h1, h2, _⟩ := run_appInts (P := P) w B t o.type e ht hinf hB hv hr hl
  unfold Oper.wp execOp
  simp only [ho, resolve, invoke, builtin, Sem.run_bind, Sem.run_pure, Result.andThen_ok, List.map_toArray, List.map_cons, List.map_nil, hs, hx, hr']
  exact hK _ _ (k v' w' h1 (hv.below h2 hB) h2.size)
/-! ### rows that the library writes over -/
open Go.Sort in
theorem heap_putRow {w : World} {g : Nat} {cur : Array Value} {e : TypeId} (hg : w.heap[g]? = some (.cells cur e (0, 0))) (q : Nat) (d : Array Int) (os : Array Obj) :
    (grow (putRow (Value.int .i64) (Sort.ahead w q) g 0 d) os).heap[g]? = some (.cells (Go.Sort.putCells (Value.int .i64) 0 d cur) e (0, 0)) := by
  have hlt : g < w.heap.size := Xa hg
  unfold grow putRow mapBlock Sort.ahead
  simp only [Array.getElem?_append, Array.size_modify]
  rw [if_pos hlt, Array.getElem?_modify, if_pos rfl, hg]
  rfl
open Go.Sort in
theorem chg_putRow (w : World) (g q : Nat) (d : Array Int) (os : Array Obj) : Chg [g] w (grow (putRow (Value.int .i64) (Sort.ahead w q) g 0 d) os) := by
  refine ⟨rfl, rfl, rfl, ?_, fun b hb hn => ?_⟩
  · unfold grow putRow mapBlock Sort.ahead
    simp
  · unfold grow putRow mapBlock Sort.ahead
    simp only [Array.getElem?_append, Array.size_modify]
    rw [if_pos hb, Array.getElem?_modify, if_neg (fun e => hn (by simp [e]))]
open Go.Sort in
theorem take_putCells (d : Array Int) (cur : Array Value) (k : Nat) (h : d.size ≤ cur.size) (hk : k ≤ d.size) : (Go.Sort.putCells (Value.int .i64) 0 d cur).toList.take k = (d.toList.take k).map (Value.int .i64) := by
  apply List.ext_getElem?
  intro j
  rw [List.getElem?_take, List.getElem?_map, List.getElem?_take]
  by_cases hj : j < k
  · rw [if_pos hj, if_pos hj]
    have h1 : j < d.size := by omega
    unfold Go.Sort.putCells
    rw [Array.getElem?_toList, Array.getElem?_mapIdx, Array.getElem?_eq_getElem (by omega : j < cur.size), Array.getElem?_toList, Array.getElem?_eq_getElem h1]
    simp only [Option.map_some]
    rw [if_pos ⟨Nat.zero_le _, by omega⟩, Nat.sub_zero, getElem!_pos d j h1]
  · rw [if_neg hj, if_neg hj]; rfl
open Go.Sort in
theorem IRow.put {e : TypeId} {B g cap : Nat} {w : World} {cur : Array Value} (hB : B ≤ g) (hg : w.heap[g]? = some (.cells cur e (0, 0))) (hcap : cap ≤ maxLen) (hcs : cur.size = cap) (q : Nat) (d : Array Int) (os : Array Obj) (hd : d.size ≤ cap)
    (k : List Int) (hk : k = d.toList.take k.length) (hi : ∀ x, x ∈ k → I64 x) :
    IRow e B (grow (putRow (Value.int .i64) (Sort.ahead w q) g 0 d) os) (.slice (some ⟨g, 0, none⟩) k.length cap) k := by
  have hkl : k.length ≤ d.size := by
    have h := List.length_take_le' k.length d.toList
    rw [← hk, Array.length_toList] at h
    exact h
  refine ⟨hi, .inr ⟨g, cap, _, rfl, hB, heap_putRow hg q d os, by omega, hcap, ?_, ?_⟩⟩
  · simp [Go.Sort.putCells, hcs]
  · rw [take_putCells d cur k.length (by omega) hkl, ← hk]
open Go.Sort in
theorem IRow.holds {e : TypeId} {g : Nat} {w : World} {cur : Array Value} {l : List Int} (hg : w.heap[g]? = some (.cells cur e (0, 0))) (ht : cur.toList.take l.length = l.map (Value.int .i64)) : Holds (Value.int .i64) w g 0 l.toArray := by
  intro j hj
  have hjl : j < l.length := by simpa using hj
  have hc : cur[j]? = some (Value.int .i64 l[j]) := by
    have h5 : (cur.toList.take l.length)[j]? = (l.map (Value.int .i64))[j]? := by rw [ht]
    rw [List.getElem?_take, if_pos hjl, List.getElem?_map, List.getElem?_eq_getElem hjl, Array.getElem?_toList] at h5
    exact h5
  refine ⟨?_, ?_⟩
  · rw [Nat.zero_add]
    simp only [World.cell?, hg]
    rw [getElem!_pos _ j hj]
    simpa using hc
  · rw [Nat.zero_add]
    simp [World.frozen?, hg]
end Go.Proofs.YtnhmnfmhnepjmaaGreat
namespace Go.Proofs.YtnhmnfmhnepjmaaGreat
open Go.RowKit
open GoD (rd own)
end Go.Proofs.YtnhmnfmhnepjmaaGreat
namespace Go.Proofs.YtnhmnfmhnepjmaaGreat
open Go.RowKit
open GoD (rd own)
theorem deleteI_c {e : TypeId} {B : Nat} (w : World) (v : Value) (l : List Int) (h : IRow e B w v l) (hsz : l.length ≤ 1073741824) (p : Int → Bool) (g : Nat) (lb : Array Value)
    (eg : ∀ args w, (callFunc g args).run Tryz.prog w = .ok (.enter g args) w) (hp : ∀ W x, Chg v.ownBlock.toList w W → FnGives Tryz.prog g lb #[.int .i64 x] (.bool (p x)) W) :
    Calls Tryz.prog 154 #[v, .func (.func g) #[] lb] w fun e' w' => ∃ v', e' = .returned v' ∧ IRow e B w' v' (l.filter fun x => !p x) ∧ Chg v.ownBlock.toList w w' := by
  obtain ⟨hi, h2⟩ := h
  rcases h2 with ⟨rfl, rfl⟩ | ⟨b, cap, cur, rfl, hB, hg, h1, hm, h3, h4⟩
  · clear hp eg
    go_enter Tryz.func154, Tryz.ntmps154
    go_wp2_with (go_at_call 190; refine (Sh.slices_IndexFunc_empty (α := Int) none 0 _ _).mono ?_; rintro e' w' ⟨rfl, rfl⟩)
    go_ret
    exact ⟨_, rfl, ⟨by simp, .inl ⟨rfl, rfl⟩⟩, Chg.refl _ _⟩
  · have hl : l = l.toArray.toList := by simp
    have hs : l.toArray.size = l.length := by simp
    have hcon := Sh.slices_DeleteFunc (Value.int .i64) (fun _ => rfl) p g lb eg 0 Tryz.zeroValue3 b 0 cap l.toArray w (fun W x hb => hp W x (Chg.of_below hb)) (fun n os dk x _ => hp _ x (chg_putRow w b n dk os)) (IRow.holds hg h4) (by rw [hs]; omega) (by rw [hs]; exact h1)
    rw [hs] at hcon
    refine hcon.mono ?_
    rintro e' w' ⟨rfl, q, rfl⟩
    have hle : (l.filter fun x => !p x).length ≤ l.length := List.length_filter_le _ _
    have hc := chg_putRow w b q ((l.filter fun x => !p x) ++ List.replicate (l.length - (l.filter fun x => !p x).length) 0).toArray #[]
    have hp := IRow.put hB hg hm h3 q ((l.filter fun x => !p x) ++ List.replicate (l.length - (l.filter fun x => !p x).length) 0).toArray #[] (by simp only [List.size_toArray, List.length_append, List.length_replicate]; omega) (l.filter fun x => !p x) (by simp) (fun x hx => hi x (List.mem_filter.1 hx).1)
    rw [Go.Sort.grow_empty] at hc hp
    exact ⟨_, rfl, hp, hc⟩
theorem cloneI_c (w : World) (v : Value) (l : List Int) (ha : rd w [v] l) (hl : l.length ≤ 1073741824) : Calls Tryz.prog 112 #[v] w fun e' w' => ∃ v', e' = .returned v' ∧ IRow 3 w.heap.size w' v' l ∧ Below w.heap.size w w' := by
  have HA := Lib.hid ha
  obtain ⟨oa, cap, rfl⟩ := slice_of_rd ha
  have hcs := rd_ints ha
  clear ha
  have q22 : ∀ (w : World) (a : Option Addr) (n c n' c' : Nat), (binOp .eql 29 (.slice a n c) (.slice none n' c')).run Tryz.prog w = .ok (.bool a.isNone) w := fun w a n c n' c' => Lib.run_eql_slice_nil w _ _ a n c n' c' Tryz.underlying29
  cases oa with
  | none =>
    have hnil : l = [] := by
      rcases hcs with rfl | ⟨b, off, h, _⟩
      · rfl
      · cases h
    clear hcs
    subst hnil
    go_enter Tryz.func112, Tryz.ntmps112
    go_wp2
    go_ret
    all_goals exact ⟨_, rfl, IRow.nil _, Below.refl _ _⟩
  | some ad =>
    clear hcs
    go_enter Tryz.func112, Tryz.ntmps112
    go_wp2_with (at_builtin; refine wpList_appInts _ _ 29 3 w.heap.size (l := []) (l2 := l) (IRow.fresh w (Nat.le_refl _)) (Qh HA.out (by go_grown)) (by (try simp only [List.length_nil]); omega) (by go_size) rfl rfl Tryz.underlying29 (by kernel_rfl) rfl rfl ?_; intro v2 w2 h2 c2 _; rw [List.nil_append] at h2; have H2 := Lib.hid h2; clear h2; have C2 := Lib.hid c2; clear c2)
    go_ret
    exact ⟨v2, rfl, H2.out, (show Below w.heap.size w _ by go_grown).trans C2.out⟩
theorem withoutFn_c (W : World) (C : Nat) (vb : Value) (bl : List Int) (x : Int) (hc : W.cell? ⟨C, 0, none⟩ = some vb) (hr : rd W [vb] bl) : FnGives Tryz.prog 155 #[.pointer (some ⟨C, 0, none⟩)] #[.int .i64 x] (.bool (bl.contains x)) W := by
  show Calls Tryz.prog 155 #[.int .i64 x, .pointer (some ⟨C, 0, none⟩)] W _
  obtain ⟨oa, cap, rfl⟩ := slice_of_rd hr
  have hn := len_of_rd hr
  have hcon : Calls Tryz.prog 156 #[.slice oa bl.length cap, .int .i64 x] W fun e w' => e = .returned (.bool (bl.contains x)) ∧ w' = W := by
    rcases rd_ints hr with rfl | ⟨b, off, rfl, hcs⟩
    · exact Sh.slices_Contains_int_empty oa cap x W
    · have := Sh.slices_Contains_int b off bl.length cap bl x W (Nat.le_refl _) hn hcs
      rw [List.take_length] at this
      exact this
  generalize bl.contains x = r at hcon ⊢
  clear hr
  go_enter Tryz.func155, Tryz.ntmps155
  go_wp2_with (go_at_call 156; refine hcon.mono ?_; rintro e w' ⟨rfl, rfl⟩)
  go_ret
  exact ⟨rfl, 0, rfl⟩
theorem own_lt_of_row {e : TypeId} {B : Nat} {w : World} {v : Value} {l : List Int} (h : IRow e B w v l) : ∀ b, b ∈ v.ownBlock.toList → B ≤ b ∧ b < w.heap.size := by
  obtain ⟨L, _, h1, rfl⟩ := h.own
  exact h1
theorem pred_ok {w w0 w1 : World} {v1 : Value} {oa : Option Addr} {cap : Nat} {a bl : List Int} (hw : w0 = w.alloc (.cells #[.slice oa bl.length cap] 29))
    (H1 : IRow 3 (w.alloc (.cells #[.slice oa bl.length cap] 29)).heap.size w1 v1 a) (C1 : Below (w.alloc (.cells #[.slice oa bl.length cap] 29)).heap.size (w.alloc (.cells #[.slice oa bl.length cap] 29)) w1)
    (HB : rd w [.slice oa bl.length cap] bl) (HZ : w0.cell? ⟨w.heap.size, 0, none⟩ = some (.slice oa bl.length cap)) {W : World} {x : Int} (hch : Chg v1.ownBlock.toList w1 W) :
    FnGives Tryz.prog 155 #[.pointer (some ⟨w.heap.size, 0, none⟩)] #[.int .i64 x] (.bool (bl.contains x)) W := by
  rw [← hw] at H1 C1
  have hs : w0.heap.size = w.heap.size + 1 := by rw [hw]; simp
  have h1 : Below w0.heap.size w0 W := C1.trans (hch.below C1.size (fun b hb => (own_lt_of_row H1 b hb).1))
  have h0 : Below w.heap.size w w0 := by rw [hw]; go_grown
  exact withoutFn_c W w.heap.size _ bl x ((h1.cell (p := ⟨w.heap.size, 0, none⟩) (show w.heap.size < w0.heap.size by omega)).trans HZ) (Qh HB (h0.trans (h1.mono (by omega))))
theorem without_c (w : World) (va vb : Value) (a bl : List Int) (ha : rd w [va] a) (hb : rd w [vb] bl) (hl : a.length ≤ 1073741824) :
    Calls Tryz.prog 113 #[va, vb] w fun e' w' => ∃ v', e' = .returned v' ∧ IRow 3 w.heap.size w' v' (less a bl) ∧ Below w.heap.size w w' := by
  have HA := Lib.hid ha; clear ha
  obtain ⟨oa, cap, rfl⟩ := slice_of_rd hb
  have HB := Lib.hid hb; clear hb
  obtain ⟨w0, hw0⟩ : ∃ w0, w0 = w.alloc (.cells #[.slice oa bl.length cap] 29) := ⟨_, rfl⟩
  have hB0 : Below w.heap.size w w0 := by rw [hw0]; go_grown
  have hs0 : w0.heap.size = w.heap.size + 1 := by rw [hw0]; simp
  have z0 : w0.cell? ⟨w.heap.size, 0, none⟩ = some (.slice oa bl.length cap) := by rw [hw0]; simp [go_sem]
  have HZ := Lib.hid z0; clear z0
  have HW := Lib.hid hw0; clear hw0
  have hmf : ∀ (fn : Fn) (first cap : Array Value) (w : World), (Instr.makeFunc fn first cap).run Tryz.prog w = .ok (.func fn first cap) w := fun _ _ _ _ => rfl
  have eg : ∀ args w, (callFunc 155 args).run Tryz.prog w = .ok (.enter 155 args) w := enters_of Tryz.func155 (by kernel_rfl) rfl
  go_enter Tryz.func113, Tryz.ntmps113
  go_wp2_with (first
    | (go_at_call 112; refine (cloneI_c _ _ a (Qh HA.out (by go_grown)) hl).mono ?_; rintro e1 w1 ⟨v1, rfl, h1, c1⟩; have H1 := Lib.hid h1; clear h1; have C1 := Lib.hid c1; clear c1)
    | (go_at_call 154; have hpred : ∀ (W : World) (x : Int), Chg v1.ownBlock.toList w1 W → FnGives Tryz.prog 155 #[.pointer (some ⟨w.heap.size, 0, none⟩)] #[.int .i64 x] (.bool (bl.contains x)) W := (fun W x hch => pred_ok HW.out H1.out C1.out HB.out HZ.out hch); refine (deleteI_c (e := 3) (B := w.heap.size) w1 v1 a (H1.out.mono (by go_size)) hl (fun x => bl.contains x) 155 #[.pointer (some ⟨w.heap.size, 0, none⟩)] eg hpred).mono ?_; rintro e2 w2 ⟨v2, rfl, h2, c2⟩; have C2 : Below w.heap.size w1 w2 := (c2.below (by have := C1.out.size; simp at this; omega) (fun b hb => by have := (own_lt_of_row H1.out b hb).1; simp at this; omega)); have H2 := Lib.hid h2; clear h2 c2 hpred; have C2h := Lib.hid C2; clear C2))
  go_ret
  exact ⟨v2, rfl, H2.out, ((show Below w.heap.size w _ by go_grown).trans (C1.out.mono (by simp))).trans C2h.out⟩
end Go.Proofs.YtnhmnfmhnepjmaaGreat
namespace Go.Proofs.YtnhmnfmhnepjmaaGreat
open Go.RowKit
open GoD (rd own)
section
variable {P : Program} {α β γ : Type} [GoE α] [GoE β] [GoE γ]
theorem acalls_retSS {f : Nat} (hok : Js P f) {l : List α} {m : List γ} {r : List β} (h : ∀ w v u, GoD.rd w [v] l → GoD.rd w [u] m → GoE.wide l → GoE.wide m → Calls P f #[v, u] w (RetS w r)) (hw : GoE.wide l → GoE.wide m → GoE.wide r) : ACalls P f [argS l, argS m] (resS r) := by
  refine ⟨hok, fun w F vals hF hall => ?_⟩
  cases hall with
  | cons h1 h2 =>
    cases h2 with
    | cons h3 h4 =>
    cases h4
    refine (h w _ _ (vv_rdS h1) (vv_rdS h3) (vv_wide h1) (vv_wide h3)).mono ?_
    rintro e w' ⟨v, L, rfl, hb, ho, hL⟩
    have hlt := GoD.own_lt ho
    have hmem : ∀ k b, b ∈ (if k = 0 then L else []) → k = 0 ∧ b ∈ L := fun k b hm => by
      by_cases hk : k = 0
      · rw [if_pos hk] at hm; exact ⟨hk, hm⟩
      · rw [if_neg hk] at hm; simp at hm
    refine ⟨v, fun k => if k = 0 then L else [], rfl, hb, fun k => ?_, fun k b hm => ⟨hL b (hmem k b hm).2, hlt b (hmem k b hm).2⟩, fun k k' b hm hm' => (hmem k b hm).1.trans (hmem k' b hm').1.symm, OwnDeep.of (ownS_ov ho (hw (vv_wide h1) (vv_wide h3))) (GoD.own_nd ho)⟩
    by_cases hk : k = 0
    · simp only [if_pos hk]; exact GoD.own_nd ho
    · simp only [if_neg hk]; exact List.nodup_nil
end
theorem wide_less {a bl : List Int} (h : GoE.wide a) : GoE.wide (less a bl) := ⟨Nat.le_trans (less_len a bl) h.1, fun x hx => h.2 x (List.mem_filter.1 hx).1⟩
theorem implwithout_a (a bl : List Int) : ACalls Tryz.prog 113 [.h a, .h bl] (.o 0 (less a bl)) :=
  acalls_retSS (by unfold Js; kernel_rfl) (fun w v u h1 h2 h3 _ => (without_c w v u a bl h1 h2 (Qo h3)).mono fun e w' ⟨v', he, hr, hb⟩ => by
    obtain ⟨L, ho, hL, _⟩ := hr.own
    exact ⟨v', L, he, hb, ho, fun b hb => (hL b hb).1⟩) (fun h _ => wide_less h)
open GoE (enc wide)
def V5 (ids : (List Int)) (added : (List Int)) (removed : (List Int)) : (List Int) := compI (sortI (less ids removed ++ added))
theorem implreplayed_a (ids : (List Int)) (added : (List Int)) (removed : (List Int)) (hp : List.length ids + List.length added ≤ 536870912) : ACalls Tryz.prog 157 [.h ids, .h added, .h removed] (.o 0 (V5 ids added removed)) := by
 refine Qn (tt := tt) Qb Tryz.func157 (fn := Tryz.f157) rfl (by unfold Js; kernel_rfl) (Nat.le_of_ble_eq_true rfl) fun w0 F0 => ?_
 have hll := less_len ids removed
 refine Qa ?_
 refine rk Qb [(6, .e 0)] [] [] [] [] (o0) ?_
 refine Qa ?_
 refine wdT 1 0 .sh added (fun hw1 => ?_)
 have hl2 : List.length added ≤ 1073741824 := Qo (hw1)
 refine rk Qb [(7, .one (.slc (.own true 768) 1 ((eL (less ids removed)) ++ (eL added))))] [0, 1, 2] [] [] [(2, .val (.o 0 (less ids removed))), (4, .flat)] (o2 (Qf (implwithout_a ids removed)) (o2 (ob_len (len_of (Xb (less ids removed)) (Xb added) (by first | omega | (simp; omega) | simp))) (o1 (ob_flat (flat_eL added))))) ?_
 refine eqn [(7, .o 768 (less ids removed ++ added))] [7] [] [] (by rw [show ((eL (less ids removed)) ++ (eL added)) = (eL (less ids removed ++ added)) from app_eL (rfl) (rfl)]; first | done | kernel_rfl) ?_
 refine Qa ?_
 refine awp_demotes [768] rfl ?_
 refine rk Qb [(7, .one (.slc (.own false 768) 1 (putR (eL (less ids removed ++ added)) 0 4294967296 (List.flatten (eL (sortI (less ids removed ++ added)))))))] [7] [] [] [(1, .take false true (eL (sortI (less ids removed ++ added))))] (o1 (ob_take (sortI_a (less ids removed ++ added)))) ?_
 refine eqn [(7, .q 768 (sortI (less ids removed ++ added)))] [7] [] [] (by rw [putR_all (fun _ => rfl) (sortI_len _)]; first | done | kernel_rfl) ?_
 refine Qa ?_
 refine rk Qb [(6, .q 1024 (compI (sortI (less ids removed ++ added))))] [6, 7] [] [] [(1, .take false false (eL (compI (sortI (less ids removed ++ added)))))] (o1 (ob_take (compI_a (sortI (less ids removed ++ added))))) ?_
 refine awp_promote 6 (k := 1024) (n := 1) (by kernel_rfl) (flat_eL (compI (sortI (less ids removed ++ added)))) ?_
 refine Qj ?_
 exact Y2 [] (congrArg (fun z => (.o 0 z : AV)) (show V5 ids added removed = compI (sortI (less ids removed ++ added)) from rfl).symm)
def J8 (d : DiffD) (_ : Nat) (a0 : Int) (s0 : (List Int)) : Rd ((List Int)) ((List Int)) ((List Int)) := (bif (!(Yc d.2.2 a0)) then (.next (Jh s0 a0)) else (.next s0))
def Vd (_ : Nat) (s0 : (List Int)) : (List Int) := s0
def J9 (_ : Nat) (a1 : Int) (s1 : (List Int)) : Rd ((List Int)) ((List Int)) ((List Int)) := (.next (Jh s1 a1))
def Ve (_ : Nat) (s1 : (List Int)) : (List Int) := s1
def Zu (ids : (List Int)) (d : DiffD) : (List Int) := (Out.on (Xf (J8 d) Vd ids 0 []) (fun y0 => (Out.on (Xf J9 Ve d.2.1 0 y0) (fun y1 => y1))))
theorem specApplyDiffToIDs_a (ids : (List Int)) (d : DiffD) (hp : List.length ids + List.length d.2.1 ≤ 536870912) : ACalls Tryz.prog 153 [.h ids, .a [.s d.1, .h d.2.1, .h d.2.2]] (.o 0 (Zu ids d)) := by
 refine Qn (tt := tt) Qb Tryz.func153 (fn := Tryz.f153) rfl (by unfold Js; kernel_rfl) (Nat.le_of_ble_eq_true rfl) fun w0 F0 => ?_
 refine Qa ?_
 refine rk Qb [(3, .p 3 0), (4, .e 0)] [1] [(3, [.s d.1, .h d.2.1, .h d.2.2])] [] [] (o0) ?_
 refine Qa ?_
 refine rk Qb [(5, .one (.slc (.own true 512) 1 []))] [] [] [] [] (o0) ?_
 refine Qa ?_
 refine Qa ?_
 refine rk Qb [(6, .i 0)] [] [] [] [] (o0) ?_
 refine wdT 0 0 .sh ids (fun hw1 => ?_)
 have hl2 : List.length ids ≤ 1073741824 := Qo (hw1)
 refine blk (fun (k0 : Nat) (s0 : (List Int)) => [(5, .h s0), (6, .i ((k0 : Nat) : Int))]) [5, 6] (fun k0 s0 => []) [] (fun (y0 : (List Int)) => [(5, .h y0)]) [0, 5, 6] (fun y0 => []) [] (fun (k0 : Nat) (s0 : (List Int)) => (Xf (J8 d) Vd ids 0 []) = Xf (J8 d) Vd (List.drop k0 ids) k0 s0 ∧ List.length s0 ≤ k0) (fun (y0 : (List Int)) => (Xf (J8 d) Vd ids 0 []) = .brk y0 ∧ List.length y0 ≤ List.length ids) ids.length [] (weak_gf [] [512] [] [] (by kernel_rfl)) ⟨rfl, (by simp)⟩ (fun k0 s0 hk0 hI0 => ?_) (fun k0 s0 hk0 hI0 => ?_) (fun y0 hD0 => ?_)
 ·
  have hA0_0 := hI0.2
  obtain ⟨a0, hx0⟩ := Xw (l := ids) (i := k0) hk0
  refine Qa ?_
  refine Qa ?_
  refine rk Qb [(12, .b true)] [] [] [] [(2, .val (.i (ids.length : Int))), (3, .val (.b true))] (o2 (Qe (Q7 ids)) (o1 (Qe (Qd (decide_eq_true (p := ((k0 : Nat) : Int) < (ids.length : Int)) (by omega)))))) ?_
  refine ckT ?_
  refine Qg ?_
  refine Qa ?_
  refine Qy ?_
  refine Qa ?_
  refine rd' Qb Zn [(22, .b (!(Yc d.2.2 a0)))] [12] [] [] [(4, .row [.i a0]), (6, .val (.b (Yc d.2.2 a0)))] (o2 (Qk (Xe (i := ((k0 : Nat) : Int)) (by omega) rfl hx0)) (o1 (Qf (specContainsID_a d.2.2 a0)))) ?_
  refine ck (!(Yc d.2.2 a0)) (fun h3 => ?_) (fun h3 => ?_)
  ·
   refine rk Qb [(5, .h (Jh s0 a0))] [5, 22] [] [] [(3, .row [.i a0]), (5, .val (.h (Jh s0 a0)))] (o2 (Qk (Xe (i := ((k0 : Nat) : Int)) (by omega) rfl hx0)) (o1 (Qf (specl07PutId_a s0 a0 (by omega))))) ?_
   refine rk Qb [(6, .i ((k0 + 1 : Nat) : Int))] [6] [] [] [(1, .val (.i ((k0 + 1 : Nat) : Int)))] (o1 (Qe (Ku (Qr k0 (by omega))))) ?_
   exact Exists.intro (Jh s0 a0) (And.intro (Qc (by kernel_rfl)) ⟨Qx hx0 (X0 h3 (rfl)) hI0.1, (by first | omega | (have hz := putI_len s0 a0; omega))⟩)
  ·
   refine Qg ?_
   refine rk Qb [(6, .i ((k0 + 1 : Nat) : Int))] [6, 22] [] [] [(1, .val (.i ((k0 + 1 : Nat) : Int)))] (o1 (Qe (Ku (Qr k0 (by omega))))) ?_
   exact Exists.intro s0 (And.intro (Qc (by kernel_rfl)) ⟨Qx hx0 (Qv h3 (rfl)) hI0.1, (by first | omega | (have hz := putI_len s0 a0; omega))⟩)
 ·
  have hA0_0 := hI0.2
  refine Qa ?_
  refine Qa ?_
  refine rk Qb [(12, .b false)] [] [] [] [(2, .val (.i (ids.length : Int))), (3, .val (.b false))] (o2 (Qe (Q7 ids)) (o1 (Qe (Qd (decide_eq_false (p := ((k0 : Nat) : Int) < (ids.length : Int)) (by omega)))))) ?_
  refine ckF ?_
  refine Xc ?_
  exact Exists.intro s0 (And.intro (Qc (by kernel_rfl)) ⟨Xx hk0 (rfl) hI0.1, by first | omega | (simp only [List.length_set]; omega)⟩)
 ·
  have hD0_0 := hD0.2
  refine Qa ?_
  refine Qa ?_
  refine rk Qb [(7, .i 0)] [] [] [] [] (o0) ?_
  refine wdB 3 1 .sh d.2.1 (fun hw4 => ?_)
  have hl5 : List.length d.2.1 ≤ 1073741824 := Qo (hw4)
  refine blk (fun (k1 : Nat) (s1 : (List Int)) => [(5, .h s1), (7, .i ((k1 : Nat) : Int))]) [5, 7] (fun k1 s1 => []) [] (fun (y1 : (List Int)) => [(5, .h y1)]) [3, 5, 7] (fun y1 => []) [3] (fun (k1 : Nat) (s1 : (List Int)) => (Xf J9 Ve d.2.1 0 y0) = Xf J9 Ve (List.drop k1 d.2.1) k1 s1 ∧ List.length s1 ≤ List.length ids + k1) (fun (y1 : (List Int)) => (Xf J9 Ve d.2.1 0 y0) = .brk y1) d.2.1.length y0 (Qc (by kernel_rfl)) ⟨rfl, (by first | omega | (simp; omega))⟩ (fun k1 s1 hk1 hI1 => ?_) (fun k1 s1 hk1 hI1 => ?_) (fun y1 hD1 => ?_)
  ·
   have hA1_0 := hI1.2
   obtain ⟨a1, hx1⟩ := Xw (l := d.2.1) (i := k1) hk1
   refine Qa ?_
   refine Qa ?_
   refine rk Qb [(33, .b true)] [] [] [] [(3, .val (.i (d.2.1.length : Int))), (4, .val (.b true))] (o2 (Qe (Q7 d.2.1)) (o1 (Qe (Qd (decide_eq_true (p := ((k1 : Nat) : Int) < (d.2.1.length : Int)) (by omega)))))) ?_
   refine ckT ?_
   refine Qg ?_
   refine Qa ?_
   refine Qy ?_
   refine rk Qb [(5, .h (Jh s1 a1))] [5, 33] [] [] [(4, .row [.i a1]), (6, .val (.h (Jh s1 a1)))] (o2 (Qk (Xe (i := ((k1 : Nat) : Int)) (by omega) rfl hx1)) (o1 (Qf (specl07PutId_a s1 a1 (by omega))))) ?_
   refine rk Qb [(7, .i ((k1 + 1 : Nat) : Int))] [7] [] [] [(1, .val (.i ((k1 + 1 : Nat) : Int)))] (o1 (Qe (Ku (Qr k1 (by omega))))) ?_
   exact Exists.intro (Jh s1 a1) (And.intro (Qc (by kernel_rfl)) ⟨Qx hx1 (rfl) hI1.1, (by first | omega | (have hz := putI_len s1 a1; omega))⟩)
  ·
   have hA1_0 := hI1.2
   refine Qa ?_
   refine Qa ?_
   refine rk Qb [(33, .b false)] [] [] [] [(3, .val (.i (d.2.1.length : Int))), (4, .val (.b false))] (o2 (Qe (Q7 d.2.1)) (o1 (Qe (Qd (decide_eq_false (p := ((k1 : Nat) : Int) < (d.2.1.length : Int)) (by omega)))))) ?_
   refine ckF ?_
   refine Xc ?_
   exact Exists.intro s1 (And.intro (Qc (by kernel_rfl)) (Xx hk1 (rfl) hI1.1))
  ·
   refine Qa ?_
   refine wdT 5 0 .sh y1 (fun hw6 => ?_)
   have hl7 : List.length y1 ≤ 1073741824 := Qo (hw6)
   refine rk Qb [(4, .o 2880 y1)] [4, 5] [] [] [(2, .flat)] (o2 (ob_len (n := (([] : List (List PV)).length + ((eL y1) : List (List PV)).length)) (len_of (rfl) (Xb y1) (by first | omega | (simp; omega) | simp))) (o1 (ob_flat (flat_eL y1)))) ?_
   refine Qj ?_
   exact Y2 [] (congrArg (fun z => (.o 0 z : AV)) (show Zu ids d = y1 from on_b hD0.1 (on_b hD1 (rfl))).symm)
end Go.Proofs.YtnhmnfmhnepjmaaGreat
namespace Go.Proofs.YtnhmnfmhnepjmaaGreat
open Go.RowKit
theorem cidS_eq (l : List Int) (x : Int) : Yc l x = l.contains x := by
  rw [← cid_eq, Bool.eq_iff_iff, cid_iff]
  simp
theorem apply_f0 (d : DiffD) : ∀ (l : List Int) (k : Nat) (s : List Int), Xf (J8 d) Vd l k s = .brk (putAll s (less l d.2.2))
  | [], k, s => rfl
  | a :: l, k, s => by
    simp only [Xf, J8, cidS_eq]
    cases h : d.2.2.contains a with
    | true =>
      have e : less (a :: l) d.2.2 = less l d.2.2 := by
        show List.filter _ (a :: l) = _
        rw [List.filter_cons, h]; rfl
      rw [e]
      exact apply_f0 d l (k + 1) s
    | false =>
      have e : less (a :: l) d.2.2 = a :: less l d.2.2 := by
        show List.filter _ (a :: l) = _
        rw [List.filter_cons, h]; rfl
      rw [e, l07Put_eq]
      exact apply_f0 d l (k + 1) (putId s a)
theorem apply_f1 : ∀ (l : List Int) (k : Nat) (s : List Int), Xf J9 Ve l k s = .brk (putAll s l)
  | [], k, s => rfl
  | a :: l, k, s => by
    simp only [Xf, J9, l07Put_eq]
    exact apply_f1 l (k + 1) (putId s a)
theorem apply_eq (ids : List Int) (d : DiffD) : Zu ids d = V5 ids d.2.1 d.2.2 := by
  unfold Zu V5
  rw [apply_f0]
  simp only [Out.on]
  rw [apply_f1]
  exact (replay1_eq ids d.2.1 d.2.2).symm
theorem replayed_len (ids a r : List Int) : List.length (V5 ids a r) ≤ List.length ids + List.length a := by
  unfold V5
  have h1 := compI_len (sortI (less ids r ++ a))
  rw [sortI_len, List.length_append] at h1
  have h2 := less_len ids r
  omega
theorem apply_len (ids : List Int) (d : DiffD) : List.length (Zu ids d) ≤ List.length ids + List.length d.2.1 := by rw [apply_eq]; exact replayed_len ids d.2.1 d.2.2
theorem size_app {α : Type} [GoD α] (l m : List α) : GoD.size (l ++ m) = GoD.size l + GoD.size m := by
  simp only [size_list, List.length_append, List.map_append, List.sum_append]
  omega
theorem size_one {α : Type} [GoD α] (a : α) : GoD.size [a] = 1 + GoD.size a := by simp [size_list]
theorem size_take1 {α : Type} [GoD α] {l : List α} {k : Nat} {x : α} (h : l[k]? = some x) : GoD.size (List.take (k + 1) l) = GoD.size (List.take k l) + (1 + GoD.size x) := by
  rw [List.take_add_one, h, size_app]
  show _ + GoD.size [x] = _
  rw [size_one]
theorem size_take_le {α : Type} [GoD α] (l : List α) (k : Nat) : GoD.size (List.take k l) ≤ GoD.size l := by
  conv => rhs; rw [← List.take_append_drop k l, size_app]
  exact Nat.le_add_right _ _
theorem event_size (e : Zs) : List.length e.2.1 ≤ GoD.size e := by
  have h : GoD.size e = 0 + (GoD.size e.2.1 + GoD.size e.2.2) := rfl
  rw [ints_size] at h
  omega
theorem replay_step {ids : List Int} {l : List Zs} {k : Nat} {x : Zs} {s : List Int} {n : Nat} (hx : l[k]? = some x) (hs : List.length s ≤ List.length ids + GoD.size (List.take k l)) (hn : n ≤ List.length s + List.length x.2.1) : n ≤ List.length ids + GoD.size (List.take (k + 1) l) := by
  rw [size_take1 hx]
  have := event_size x
  omega
theorem replay_room {ids : List Int} {l : List Zs} {k : Nat} {x : Zs} {s : List Int} (hx : l[k]? = some x) (hs : List.length s ≤ List.length ids + GoD.size (List.take k l)) (hp : List.length ids + GoD.size l ≤ 536870912) : List.length s + List.length x.2.1 ≤ 536870912 := by
  have h1 := replay_step (n := List.length s + List.length x.2.1) hx hs (Nat.le_refl _)
  have h2 := size_take_le l (k + 1)
  omega
theorem watch_size (w : WatchD) : GoD.size w = w.2.1.size + (List.length w.2.2.1 + GoD.size w.2.2.2) := by
  have h : GoD.size w = 0 + (w.2.1.size + (GoD.size w.2.2.1 + GoD.size w.2.2.2)) := rfl
  rw [ints_size] at h
  omega
open GoE (enc wide)
def K1 (_ : Nat) (a0 : Zs) (s0 : (List Int)) : Rd ((List Int)) ((List Int)) ((List Int)) := (.next (V5 s0 a0.2.1 a0.2.2))
def Wm (_ : Nat) (s0 : (List Int)) : (List Int) := s0
def Kq (ids : (List Int)) (events : (List Zs)) : (List Int) := (Out.on (Xf K1 Wm events 0 ids) (fun y0 => y0))
theorem implReplayEvents_a (ids : (List Int)) (events : (List Zs)) (hp : List.length ids + GoD.size events ≤ 536870912) : ACalls Tryz.prog 114 [.h ids, .h events] (.o 0 (Kq ids events)) := by
 refine Qn (tt := tt) Qb Tryz.func114 (fn := Tryz.f114) rfl (by unfold Js; kernel_rfl) (Nat.le_of_ble_eq_true rfl) fun w0 F0 => ?_
 refine Qa ?_
 refine rk Qb [(4, .e 0)] [] [] [] [] (o0) ?_
 refine Qa ?_
 refine rk Qb [(5, .o 576 ids)] [0] [] [] [(1, .val (.o 0 ids))] (o1 (Qf (cloneInt_a ids))) ?_
 refine Qa ?_
 refine Qa ?_
 refine rk Qb [(10, .h events), (11, .i (events.length : Int)), (12, .i 0)] [1] [] [] [(1, .val (.i (events.length : Int)))] (o1 (Qe (Q7 events))) ?_
 refine wdT 10 0 .sh events (fun hw1 => ?_)
 have hl2 : List.length events ≤ 1073741824 := Qo (hw1)
 refine blk (fun (k0 : Nat) (s0 : (List Int)) => [(5, .o 147201 s0), (12, .i ((k0 : Nat) : Int))]) [5, 12] (fun k0 s0 => []) [] (fun (y0 : (List Int)) => [(5, .o 147351 y0)]) [5, 10, 11, 12] (fun y0 => []) [] (fun (k0 : Nat) (s0 : (List Int)) => (Xf K1 Wm events 0 ids) = Xf K1 Wm (List.drop k0 events) k0 s0 ∧ List.length s0 ≤ List.length ids + GoD.size (List.take k0 events)) (fun (y0 : (List Int)) => (Xf K1 Wm events 0 ids) = .brk y0) events.length ids (Zj [(576, 147201)] (by kernel_rfl)) ⟨rfl, (by simp)⟩ (fun k0 s0 hk0 hI0 => ?_) (fun k0 s0 hk0 hI0 => ?_) (fun y0 hD0 => ?_)
 ·
  have hA0_0 := hI0.2
  obtain ⟨a0, hx0⟩ := Xw (l := events) (i := k0) hk0
  refine Qa ?_
  refine rk Qb [(13, .b true)] [] [] [] [(0, .val (.b true))] (o1 (Qe (Qd (decide_eq_true (p := ((k0 : Nat) : Int) < (events.length : Int)) (by omega))))) ?_
  refine Qa ?_
  refine ckT ?_
  refine Qg ?_
  refine Qa ?_
  refine Qy ?_
  refine Qa ?_
  refine rk Qb [(7, .p 7 0)] [13] [(7, [.i a0.1, .h a0.2.1, .h a0.2.2])] [] [(0, .row [.i a0.1, .h a0.2.1, .h a0.2.2])] (o1 (Qk (Xe (i := ((k0 : Nat) : Int)) (by omega) rfl hx0))) ?_
  refine rk Qb [(5, .o 1344 (V5 s0 a0.2.1 a0.2.2))] [5, 7] [] [7] [(5, .val (.o 0 (V5 s0 a0.2.1 a0.2.2)))] (o1 (Qf (implreplayed_a s0 a0.2.1 a0.2.2 (replay_room hx0 hA0_0 hp)))) ?_
  refine rk Qb [(12, .i ((k0 + 1 : Nat) : Int))] [12] [] [] [(0, .val (.i ((k0 + 1 : Nat) : Int)))] (o1 (Qe (Ku (Qr k0 (by omega))))) ?_
  exact Exists.intro (V5 s0 a0.2.1 a0.2.2) (And.intro (Zj [(1344, 147201)] (by kernel_rfl)) ⟨Qx hx0 (rfl) hI0.1, (by first | exact replay_step hx0 hA0_0 (replayed_len _ _ _) | exact replay_step hx0 hA0_0 (apply_len _ _))⟩)
 ·
  have hA0_0 := hI0.2
  refine Qa ?_
  refine rk Qb [(13, .b false)] [] [] [] [(0, .val (.b false))] (o1 (Qe (Qd (decide_eq_false (p := ((k0 : Nat) : Int) < (events.length : Int)) (by omega))))) ?_
  refine Qa ?_
  refine ckF ?_
  refine Xc ?_
  exact Exists.intro s0 (And.intro (Zj [(147201, 147351)] (by kernel_rfl)) (Xx hk0 (rfl) hI0.1))
 ·
  refine Qa ?_
  refine rk Qb [(4, .o 147351 y0)] [4, 5] [] [] [] (o0) ?_
  refine Qj ?_
  exact Y2 [] (congrArg (fun z => (.o 0 z : AV)) (show Kq ids events = y0 from on_b hD0 (rfl)).symm)
def Z8 (w : WatchD) : (List Int) := (Kq w.2.2.1 w.2.2.2)
theorem implWatchListing_a (w : WatchD) (hp : GoD.size w ≤ 536870912) : ACalls Tryz.prog 66 [.a [.i w.1, .s w.2.1, .h w.2.2.1, .h w.2.2.2]] (.o 0 (Z8 w)) := by
 refine Qn (tt := tt) Qb Tryz.func66 (fn := Tryz.f66) rfl (by unfold Js; kernel_rfl) (Nat.le_of_ble_eq_true rfl) fun w0 F0 => ?_
 refine Qa ?_
 refine rk Qb [(1, .p 1 0), (2, .e 0)] [0] [(1, [.i w.1, .s w.2.1, .h w.2.2.1, .h w.2.2.2])] [] [] (o0) ?_
 refine Qa ?_
 refine rk Qb [(2, .o 448 (Kq w.2.2.1 w.2.2.2))] [1, 2] [] [1] [(4, .val (.o 0 (Kq w.2.2.1 w.2.2.2)))] (o1 (Qf (implReplayEvents_a w.2.2.1 w.2.2.2 (by have hz := watch_size w; omega)))) ?_
 refine Qj ?_
 exact Y2 [] (congrArg (fun z => (.o 0 z : AV)) (show Z8 w = (Kq w.2.2.1 w.2.2.2) from rfl).symm)
def K2 (_ : Nat) (a0 : Zs) (s0 : (List Int)) : Rd ((List Int)) ((List Int)) ((List Int)) := (.next (Zu s0 (⟨#[]⟩, a0.2.1, a0.2.2)))
def Wn (_ : Nat) (s0 : (List Int)) : (List Int) := s0
def Kr (ids : (List Int)) (list : (List Zs)) : (List Int) := (Out.on (Xf K2 Wn list 0 ids) (fun y0 => y0))
theorem specReplayEvents_a (ids : (List Int)) (list : (List Zs)) (hp : List.length ids + GoD.size list ≤ 536870912) : ACalls Tryz.prog 109 [.h ids, .h list] (.o 0 (Kr ids list)) := by
 refine Qn (tt := tt) Qb Tryz.func109 (fn := Tryz.f109) rfl (by unfold Js; kernel_rfl) (Nat.le_of_ble_eq_true rfl) fun w0 F0 => ?_
 refine Qa ?_
 refine rk Qb [(4, .e 0)] [] [] [] [] (o0) ?_
 refine Qa ?_
 refine wdT 0 0 .sh ids (fun hw1 => ?_)
 have hl2 : List.length ids ≤ 1073741824 := Qo (hw1)
 refine rk Qb [(5, .o 576 ids)] [0] [] [] [(2, .flat)] (o2 (ob_len (n := (([] : List (List PV)).length + ((eL ids) : List (List PV)).length)) (len_of (rfl) (Xb ids) (by first | omega | (simp; omega) | simp))) (o1 (ob_flat (flat_eL ids)))) ?_
 refine Qa ?_
 refine Qa ?_
 refine rk Qb [(6, .i 0)] [] [] [] [] (o0) ?_
 refine wdT 1 0 .sh list (fun hw3 => ?_)
 have hl4 : List.length list ≤ 1073741824 := Qo (hw3)
 refine blk (fun (k0 : Nat) (s0 : (List Int)) => [(5, .o 147202 s0), (6, .i ((k0 : Nat) : Int))]) [5, 6] (fun k0 s0 => []) [] (fun (y0 : (List Int)) => [(5, .o 147352 y0)]) [1, 5, 6] (fun y0 => []) [] (fun (k0 : Nat) (s0 : (List Int)) => (Xf K2 Wn list 0 ids) = Xf K2 Wn (List.drop k0 list) k0 s0 ∧ List.length s0 ≤ List.length ids + GoD.size (List.take k0 list)) (fun (y0 : (List Int)) => (Xf K2 Wn list 0 ids) = .brk y0) list.length ids (Zj [(576, 147202)] (by kernel_rfl)) ⟨rfl, (by simp)⟩ (fun k0 s0 hk0 hI0 => ?_) (fun k0 s0 hk0 hI0 => ?_) (fun y0 hD0 => ?_)
 ·
  have hA0_0 := hI0.2
  obtain ⟨a0, hx0⟩ := Xw (l := list) (i := k0) hk0
  refine Qa ?_
  refine Qa ?_
  refine rk Qb [(13, .b true)] [] [] [] [(2, .val (.i (list.length : Int))), (3, .val (.b true))] (o2 (Qe (Q7 list)) (o1 (Qe (Qd (decide_eq_true (p := ((k0 : Nat) : Int) < (list.length : Int)) (by omega)))))) ?_
  refine ckT ?_
  refine Qg ?_
  refine Qa ?_
  refine Qy ?_
  refine rd' Qb Zn [(5, .o 1792 (Zu s0 (⟨#[]⟩, a0.2.1, a0.2.2)))] [5, 13] [] [] [(3, .row [.i a0.1, .h a0.2.1, .h a0.2.2]), (8, .row [.i a0.1, .h a0.2.1, .h a0.2.2]), (12, .val (.o 0 (Zu s0 (⟨#[]⟩, a0.2.1, a0.2.2))))] (o2 (Qk (Xe (i := ((k0 : Nat) : Int)) (by omega) rfl hx0)) (o2 (Qk (Xe (i := ((k0 : Nat) : Int)) (by omega) rfl hx0)) (o1 (Qf (specApplyDiffToIDs_a s0 (⟨#[]⟩, a0.2.1, a0.2.2) (replay_room hx0 hA0_0 hp)))))) ?_
  refine rk Qb [(6, .i ((k0 + 1 : Nat) : Int))] [6] [] [] [(1, .val (.i ((k0 + 1 : Nat) : Int)))] (o1 (Qe (Ku (Qr k0 (by omega))))) ?_
  exact Exists.intro (Zu s0 (⟨#[]⟩, a0.2.1, a0.2.2)) (And.intro (Zj [(1792, 147202)] (by kernel_rfl)) ⟨Qx hx0 (rfl) hI0.1, (by first | exact replay_step hx0 hA0_0 (replayed_len _ _ _) | exact replay_step hx0 hA0_0 (apply_len _ _))⟩)
 ·
  have hA0_0 := hI0.2
  refine Qa ?_
  refine Qa ?_
  refine rk Qb [(13, .b false)] [] [] [] [(2, .val (.i (list.length : Int))), (3, .val (.b false))] (o2 (Qe (Q7 list)) (o1 (Qe (Qd (decide_eq_false (p := ((k0 : Nat) : Int) < (list.length : Int)) (by omega)))))) ?_
  refine ckF ?_
  refine Xc ?_
  exact Exists.intro s0 (And.intro (Zj [(147202, 147352)] (by kernel_rfl)) (Xx hk0 (rfl) hI0.1))
 ·
  refine Qa ?_
  refine rk Qb [(4, .o 147352 y0)] [4, 5] [] [] [] (o0) ?_
  refine Qj ?_
  exact Y2 [] (congrArg (fun z => (.o 0 z : AV)) (show Kr ids list = y0 from on_b hD0 (rfl)).symm)
def Z9 (w : WatchD) : (List Int) := (Kr w.2.2.1 w.2.2.2)
theorem specWatchListing_a (w : WatchD) (hp : GoD.size w ≤ 536870912) : ACalls Tryz.prog 61 [.a [.i w.1, .s w.2.1, .h w.2.2.1, .h w.2.2.2]] (.o 0 (Z9 w)) := by
 refine Qn (tt := tt) Qb Tryz.func61 (fn := Tryz.f61) rfl (by unfold Js; kernel_rfl) (Nat.le_of_ble_eq_true rfl) fun w0 F0 => ?_
 refine Qa ?_
 refine rk Qb [(1, .p 1 0), (2, .e 0)] [0] [(1, [.i w.1, .s w.2.1, .h w.2.2.1, .h w.2.2.2])] [] [] (o0) ?_
 refine Qa ?_
 refine rk Qb [(2, .o 448 (Kr w.2.2.1 w.2.2.2))] [1, 2] [] [1] [(4, .val (.o 0 (Kr w.2.2.1 w.2.2.2)))] (o1 (Qf (specReplayEvents_a w.2.2.1 w.2.2.2 (by have hz := watch_size w; omega)))) ?_
 refine Qj ?_
 exact Y2 [] (congrArg (fun z => (.o 0 z : AV)) (show Z9 w = (Kr w.2.2.1 w.2.2.2) from rfl).symm)
def Ym (e_ : Zs) : Zs := e_
theorem implcopyEvent_a (e_ : Zs) : ACalls Tryz.prog 111 [.a [.i e_.1, .h e_.2.1, .h e_.2.2]] (.a [.i ((Ym e_).1), .o 0 ((Ym e_).2.1), .o 1 ((Ym e_).2.2)]) := by
 refine Qn (tt := tt) Qb Tryz.func111 (fn := Tryz.f111) rfl (by unfold Js; kernel_rfl) (Nat.le_of_ble_eq_true rfl) fun w0 F0 => ?_
 refine Qa ?_
 refine rk Qb [(1, .p 1 0), (2, .p 2 0)] [0] [(1, [.i e_.1, .h e_.2.1, .h e_.2.2]), (2, [.i 0, .e 1, .e 1])] [] [] (o0) ?_
 refine Qa ?_
 refine rd' Qb Zn [] [1] [(2, [.i e_.1, .o 448 e_.2.1, .o 640 e_.2.2])] [1, 2] [(4, .val (.o 0 e_.2.1)), (7, .val (.o 0 e_.2.2))] (o2 (Qf (cloneInt_a e_.2.1)) (o1 (Qf (cloneInt_a e_.2.2)))) ?_
 refine Qj ?_
 exact Y2 [] (congrArg (fun z => (.a [.i z.1, .o 0 z.2.1, .o 1 z.2.2] : AV)) (show Ym e_ = e_ from rfl).symm)
def implcopyWatch_f0 (_ : Nat) (a0 : Zs) (s0 : (List Zs)) : Rd (WatchD) ((List Zs)) ((List Zs)) := (.next (s0 ++ [(Ym a0)]))
def implcopyWatch_e0 (_ : Nat) (s0 : (List Zs)) : (List Zs) := s0
def Y9 (w : WatchD) : WatchD := (Out.on (Xf implcopyWatch_f0 implcopyWatch_e0 w.2.2.2 0 []) (fun y0 => (w.1, w.2.1, w.2.2.1, y0)))
theorem implcopyWatch_a (w : WatchD) : ACalls Tryz.prog 64 [.a [.i w.1, .s w.2.1, .h w.2.2.1, .h w.2.2.2]] (.a [.i ((Y9 w).1), .s ((Y9 w).2.1), .o 0 ((Y9 w).2.2.1), .o 1 ((Y9 w).2.2.2)]) := by
 refine Qn (tt := tt) Qb Tryz.func64 (fn := Tryz.f64) rfl (by unfold Js; kernel_rfl) (Nat.le_of_ble_eq_true rfl) fun w0 F0 => ?_
 refine Qa ?_
 refine rk Qb [(1, .p 1 0), (2, .p 2 0)] [0] [(1, [.i w.1, .s w.2.1, .h w.2.2.1, .h w.2.2.2]), (2, [.i 0, .s ⟨#[]⟩, .e 1, .e 3])] [] [] (o0) ?_
 refine Qa ?_
 refine rk Qb [(3, .one (.slc (.own true 384) 3 []))] [] [] [] [] (o0) ?_
 refine Qa ?_
 refine Qa ?_
 refine rk Qb [(8, .h w.2.2.2), (9, .i (w.2.2.2.length : Int)), (10, .i 0)] [] [] [] [(2, .val (.i (w.2.2.2.length : Int)))] (o1 (Qe (Q7 w.2.2.2))) ?_
 refine wdT 8 0 .sh w.2.2.2 (fun hw1 => ?_)
 have hl2 : List.length w.2.2.2 ≤ 1073741824 := Qo (hw1)
 refine blk (fun (k0 : Nat) (s0 : (List Zs)) => [(3, .o 147202 s0), (10, .i ((k0 : Nat) : Int))]) [3, 10] (fun k0 s0 => []) [] (fun (y0 : (List Zs)) => [(3, .o 147352 y0)]) [3, 8, 9, 10] (fun y0 => []) [] (fun (k0 : Nat) (s0 : (List Zs)) => (Xf implcopyWatch_f0 implcopyWatch_e0 w.2.2.2 0 []) = Xf implcopyWatch_f0 implcopyWatch_e0 (List.drop k0 w.2.2.2) k0 s0 ∧ List.length s0 ≤ k0) (fun (y0 : (List Zs)) => (Xf implcopyWatch_f0 implcopyWatch_e0 w.2.2.2 0 []) = .brk y0) w.2.2.2.length [] (Zj [(384, 147202)] (by kernel_rfl)) ⟨rfl, (by simp)⟩ (fun k0 s0 hk0 hI0 => ?_) (fun k0 s0 hk0 hI0 => ?_) (fun y0 hD0 => ?_)
 ·
  have hA0_0 := hI0.2
  obtain ⟨a0, hx0⟩ := Xw (l := w.2.2.2) (i := k0) hk0
  refine Qa ?_
  refine rk Qb [(11, .b true)] [] [] [] [(0, .val (.b true))] (o1 (Qe (Qd (decide_eq_true (p := ((k0 : Nat) : Int) < (w.2.2.2.length : Int)) (by omega))))) ?_
  refine Qa ?_
  refine ckT ?_
  refine Qg ?_
  refine Qa ?_
  refine Qy ?_
  refine Qa ?_
  refine rk Qb [(5, .p 5 0)] [11] [(5, [.i a0.1, .h a0.2.1, .h a0.2.2])] [] [(0, .row [.i a0.1, .h a0.2.1, .h a0.2.2])] (o1 (Qk (Xe (i := ((k0 : Nat) : Int)) (by omega) rfl hx0))) ?_
  refine wdT 3 0 (.own true 147202) s0 (fun hw3 => ?_)
  have hl4 : List.length s0 ≤ 1073741824 := Qo (hw3)
  refine rk Qb [(3, .one (.slc (.own true 1152) 3 ((eL s0) ++ [[.i ((Ym a0).1), .h ((Ym a0).2.1), .h ((Ym a0).2.2)]])))] [3, 5] [] [5] [(2, .val (.a [.i ((Ym a0).1), .o 0 ((Ym a0).2.1), .o 1 ((Ym a0).2.2)]))] (o2 (Qf (implcopyEvent_a a0)) (o1 (ob_len (len_of (Xb s0) (Xb [(Ym a0)]) (by first | omega | (simp; omega) | simp))))) ?_
  refine eqn [(3, .o 1152 (s0 ++ [(Ym a0)]))] [3] [] [] (by rw [show ((eL s0) ++ [[.i ((Ym a0).1), .h ((Ym a0).2.1), .h ((Ym a0).2.2)]]) = (eL (s0 ++ [(Ym a0)])) from app_eL (rfl) (rfl)]; first | done | kernel_rfl) ?_
  refine rk Qb [(10, .i ((k0 + 1 : Nat) : Int))] [10] [] [] [(0, .val (.i ((k0 + 1 : Nat) : Int)))] (o1 (Qe (Ku (Qr k0 (by omega))))) ?_
  exact Exists.intro (s0 ++ [(Ym a0)]) (And.intro (Zj [(1152, 147202)] (by kernel_rfl)) ⟨Qx hx0 (rfl) hI0.1, by first | omega | (simp; omega) | simp⟩)
 ·
  have hA0_0 := hI0.2
  refine Qa ?_
  refine rk Qb [(11, .b false)] [] [] [] [(0, .val (.b false))] (o1 (Qe (Qd (decide_eq_false (p := ((k0 : Nat) : Int) < (w.2.2.2.length : Int)) (by omega))))) ?_
  refine Qa ?_
  refine ckF ?_
  refine Xc ?_
  exact Exists.intro s0 (And.intro (Zj [(147202, 147352)] (by kernel_rfl)) (Xx hk0 (rfl) hI0.1))
 ·
  refine Qa ?_
  refine rk Qb [] [] [(1, [.i w.1, .s w.2.1, .o 1408 w.2.2.1, .h w.2.2.2])] [1] [(2, .val (.o 0 w.2.2.1))] (o1 (Qf (cloneInt_a w.2.2.1))) ?_
  refine Qa ?_
  refine rk Qb [] [3] [(1, [.i w.1, .s w.2.1, .o 1408 w.2.2.1, .o 147352 y0])] [1] [] (o0) ?_
  refine Qa ?_
  refine rk Qb [] [1] [(2, [.i w.1, .s w.2.1, .o 1408 w.2.2.1, .o 147352 y0])] [1, 2] [] (o0) ?_
  refine Qj ?_
  exact Y2 [] (congrArg (fun z => (.a [.i z.1, .s z.2.1, .o 0 z.2.2.1, .o 1 z.2.2.2] : AV)) (show Y9 w = (w.1, w.2.1, w.2.2.1, y0) from on_b hD0 (rfl)).symm)
def specl29Events_f0 (_ : Nat) (a0 : Zs) (s0 : (List Zs)) : Rd ((List Zs)) ((List Zs)) ((List Zs)) := (.next (s0 ++ [a0]))
def specl29Events_e0 (_ : Nat) (s0 : (List Zs)) : (List Zs) := s0
def specl29Events (list : (List Zs)) : (List Zs) := (Out.on (Xf specl29Events_f0 specl29Events_e0 list 0 []) (fun y0 => y0))
theorem specl29Events_a (list : (List Zs)) : ACalls Tryz.prog 107 [.h list] (.o 0 (specl29Events list)) := by
 refine Qn (tt := tt) Qb Tryz.func107 (fn := Tryz.f107) rfl (by unfold Js; kernel_rfl) (Nat.le_of_ble_eq_true rfl) fun w0 F0 => ?_
 refine Qa ?_
 refine rk Qb [(2, .e 0)] [] [] [] [] (o0) ?_
 refine Qa ?_
 refine rk Qb [(3, .one (.slc (.own true 320) 3 []))] [] [] [] [] (o0) ?_
 refine Qa ?_
 refine Qa ?_
 refine rk Qb [(4, .i 0)] [] [] [] [] (o0) ?_
 refine wdT 0 0 .sh list (fun hw1 => ?_)
 have hl2 : List.length list ≤ 1073741824 := Qo (hw1)
 refine blk (fun (k0 : Nat) (s0 : (List Zs)) => [(3, .o 147202 s0), (4, .i ((k0 : Nat) : Int))]) [3, 4] (fun k0 s0 => []) [] (fun (y0 : (List Zs)) => [(3, .o 147352 y0)]) [0, 3, 4] (fun y0 => []) [] (fun (k0 : Nat) (s0 : (List Zs)) => (Xf specl29Events_f0 specl29Events_e0 list 0 []) = Xf specl29Events_f0 specl29Events_e0 (List.drop k0 list) k0 s0 ∧ List.length s0 ≤ k0) (fun (y0 : (List Zs)) => (Xf specl29Events_f0 specl29Events_e0 list 0 []) = .brk y0) list.length [] (Zj [(320, 147202)] (by kernel_rfl)) ⟨rfl, (by simp)⟩ (fun k0 s0 hk0 hI0 => ?_) (fun k0 s0 hk0 hI0 => ?_) (fun y0 hD0 => ?_)
 ·
  have hA0_0 := hI0.2
  obtain ⟨a0, hx0⟩ := Xw (l := list) (i := k0) hk0
  refine Qa ?_
  refine Qa ?_
  refine rk Qb [(9, .b true)] [] [] [] [(2, .val (.i (list.length : Int))), (3, .val (.b true))] (o2 (Qe (Q7 list)) (o1 (Qe (Qd (decide_eq_true (p := ((k0 : Nat) : Int) < (list.length : Int)) (by omega)))))) ?_
  refine ckT ?_
  refine Qg ?_
  refine Qa ?_
  refine Qy ?_
  have hl3 : List.length a0.2.1 ≤ 1073741824 := Qo (wide_fst (wide_snd (wide_get hx0 (hw1))))
  have hl4 : List.length a0.2.2 ≤ 1073741824 := Qo (wide_snd (wide_snd (wide_get hx0 (hw1))))
  refine wdT 3 0 (.own true 147202) s0 (fun hw5 => ?_)
  have hl6 : List.length s0 ≤ 1073741824 := Qo (hw5)
  refine rd' Qb Zn [(3, .one (.slc (.own true 2176) 3 ((eL s0) ++ [[.i a0.1, .slc 1 ([] ++ (eL a0.2.1)), .slc 1 ([] ++ (eL a0.2.2))]])))] [3, 9] [] [] [(3, .row [.i a0.1, .h a0.2.1, .h a0.2.2]), (9, .row [.i a0.1, .h a0.2.1, .h a0.2.2]), (12, .flat), (16, .row [.i a0.1, .h a0.2.1, .h a0.2.2]), (19, .flat)] (o2 (Qk (Xe (i := ((k0 : Nat) : Int)) (by omega) rfl hx0)) (o2 (Qk (Xe (i := ((k0 : Nat) : Int)) (by omega) rfl hx0)) (o2 (ob_len (n := (([] : List (List PV)).length + ((eL a0.2.1) : List (List PV)).length)) (len_of (rfl) (Xb a0.2.1) (by first | omega | (simp; omega) | simp))) (o2 (ob_flat (flat_eL a0.2.1)) (o2 (Qk (Xe (i := ((k0 : Nat) : Int)) (by omega) rfl hx0)) (o2 (ob_len (n := (([] : List (List PV)).length + ((eL a0.2.2) : List (List PV)).length)) (len_of (rfl) (Xb a0.2.2) (by first | omega | (simp; omega) | simp))) (o2 (ob_flat (flat_eL a0.2.2)) (o1 (ob_len (n := (((eL s0) : List (List PV)).length + ([[.i a0.1, .slc 1 ([] ++ (eL a0.2.1)), .slc 1 ([] ++ (eL a0.2.2))]] : List (List PV)).length)) (len_of (Xb s0) (rfl) (by first | omega | (simp; omega) | simp))))))))))) ?_
  refine eqn [(3, .o 2176 (s0 ++ [a0]))] [3] [] [] (by rw [show ((eL s0) ++ [[.i a0.1, .slc 1 ([] ++ (eL a0.2.1)), .slc 1 ([] ++ (eL a0.2.2))]]) = (eL (s0 ++ [a0])) from app_eL (rfl) (rfl)]; first | done | kernel_rfl) ?_
  refine rk Qb [(4, .i ((k0 + 1 : Nat) : Int))] [4] [] [] [(1, .val (.i ((k0 + 1 : Nat) : Int)))] (o1 (Qe (Ku (Qr k0 (by omega))))) ?_
  exact Exists.intro (s0 ++ [a0]) (And.intro (Zj [(2176, 147202)] (by kernel_rfl)) ⟨Qx hx0 (rfl) hI0.1, by first | omega | (simp; omega) | simp⟩)
 ·
  have hA0_0 := hI0.2
  refine Qa ?_
  refine Qa ?_
  refine rk Qb [(9, .b false)] [] [] [] [(2, .val (.i (list.length : Int))), (3, .val (.b false))] (o2 (Qe (Q7 list)) (o1 (Qe (Qd (decide_eq_false (p := ((k0 : Nat) : Int) < (list.length : Int)) (by omega)))))) ?_
  refine ckF ?_
  refine Xc ?_
  exact Exists.intro s0 (And.intro (Zj [(147202, 147352)] (by kernel_rfl)) (Xx hk0 (rfl) hI0.1))
 ·
  refine Qa ?_
  refine rk Qb [(2, .o 147352 y0)] [2, 3] [] [] [] (o0) ?_
  refine Qj ?_
  exact Y2 [] (congrArg (fun z => (.o 0 z : AV)) (show specl29Events list = y0 from on_b hD0 (rfl)).symm)
def Z5 (w : WatchD) : WatchD := (w.1, w.2.1, w.2.2.1, (specl29Events w.2.2.2))
theorem specl29Copy_a (w : WatchD) : ACalls Tryz.prog 59 [.a [.i w.1, .s w.2.1, .h w.2.2.1, .h w.2.2.2]] (.a [.i ((Z5 w).1), .s ((Z5 w).2.1), .o 0 ((Z5 w).2.2.1), .o 1 ((Z5 w).2.2.2)]) := by
 refine Qn (tt := tt) Qb Tryz.func59 (fn := Tryz.f59) rfl (by unfold Js; kernel_rfl) (Nat.le_of_ble_eq_true rfl) fun w0 F0 => ?_
 refine Qa ?_
 refine rk Qb [(1, .p 1 0), (2, .p 2 0)] [0] [(1, [.i w.1, .s w.2.1, .h w.2.2.1, .h w.2.2.2]), (2, [.i 0, .s ⟨#[]⟩, .e 1, .e 3])] [] [] (o0) ?_
 refine Qa ?_
 refine wdB 1 2 .sh w.2.2.1 (fun hw1 => ?_)
 have hl2 : List.length w.2.2.1 ≤ 1073741824 := Qo (hw1)
 refine rd' Qb Zn [] [1] [(2, [.i w.1, .s w.2.1, .o 640 w.2.2.1, .o 832 (specl29Events w.2.2.2)])] [1, 2] [(7, .flat), (10, .val (.o 0 (specl29Events w.2.2.2)))] (o2 (ob_len (n := (([] : List (List PV)).length + ((eL w.2.2.1) : List (List PV)).length)) (len_of (rfl) (Xb w.2.2.1) (by first | omega | (simp; omega) | simp))) (o2 (ob_flat (flat_eL w.2.2.1)) (o1 (Qf (specl29Events_a w.2.2.2))))) ?_
 refine Qj ?_
 exact Y2 [] (congrArg (fun z => (.a [.i z.1, .s z.2.1, .o 0 z.2.2.1, .o 1 z.2.2.2] : AV)) (show Z5 w = (w.1, w.2.1, w.2.2.1, (specl29Events w.2.2.2)) from rfl).symm)
end Go.Proofs.YtnhmnfmhnepjmaaGreat
namespace Go.Proofs.YtnhmnfmhnepjmaaGreat
open Go.RowKit
theorem replay_eq (ids : List Int) (l : List Zs) : Kr ids l = Kq ids l := by
  unfold Kr Kq
  rw [forL_congr (f := K2) (g := K1) (e := Wn) (e' := Wm) (fun _ _ => rfl) l 0 _ (fun i a t _ => by
    unfold K2 K1
    rw [apply_eq])]
theorem listing_eq (w : WatchD) : Z9 w = Z8 w := replay_eq w.2.2.1 w.2.2.2
theorem copyWatch_id (w : WatchD) : Y9 w = w := by
  unfold Y9
  rw [forL_map (f := implcopyWatch_f0) (g := Ym) (fun _ _ _ => rfl)]
  show (w.1, w.2.1, w.2.2.1, [] ++ w.2.2.2.map Ym) = w
  rw [show Ym = id from rfl, List.map_id]
  rfl
theorem l29Copy_id (w : WatchD) : Z5 w = w := by
  unfold Z5 specl29Events
  rw [forL_map (f := specl29Events_f0) (g := id) (fun _ _ _ => rfl)]
  show (w.1, w.2.1, w.2.2.1, [] ++ w.2.2.2.map id) = w
  rw [List.map_id]
  rfl
open GoE (enc wide)
def Qs (x : Vo) (i : Int) : WatchD × Bool := (bif (!(Q0 i 0 ((x.2.2.2.2.1.length : Int) - 1))) then ((0, ⟨#[]⟩, [], []), false) else ((Y9 (nth x.2.2.2.2.1 (Int.toNat i))), true))
theorem implFindWatch_a (x : Vo) (i : Int) : ACalls Tryz.prog 77 [.a [.h x.1.1.1, .h x.1.1.2.1, .i x.1.1.2.2, .h x.1.2.1, .h x.1.2.2, .s x.2.1.1, .s x.2.1.2, .i x.2.2.1, .h x.2.2.2.1, .h x.2.2.2.2.1, .h x.2.2.2.2.2], .i i] (.tup [(true, [.i ((((Qs x i)).1).1), .s ((((Qs x i)).1).2.1), .o 0 ((((Qs x i)).1).2.2.1), .o 1 ((((Qs x i)).1).2.2.2)]), (false, [.b (((Qs x i)).2)])]) := by
 refine Qn (tt := tt) Qb Tryz.func77 (fn := Tryz.f77) rfl (by unfold Js; kernel_rfl) (Nat.le_of_ble_eq_true rfl) fun w0 F0 => ?_
 refine Qa ?_
 refine rk Qb [(2, .p 2 0), (4, .p 4 0), (5, .b false)] [0] [(2, [.h x.1.1.1, .h x.1.1.2.1, .i x.1.1.2.2, .h x.1.2.1, .h x.1.2.2, .s x.2.1.1, .s x.2.1.2, .i x.2.2.1, .h x.2.2.2.1, .h x.2.2.2.2.1, .h x.2.2.2.2.2]), (4, [.i 0, .s ⟨#[]⟩, .e 1, .e 3])] [] [] (o0) ?_
 refine Qa ?_
 refine Qa ?_
 refine wdB 2 9 .sh x.2.2.2.2.1 (fun hw1 => ?_)
 have hl2 : List.length x.2.2.2.2.1 ≤ 1073741824 := Qo (hw1)
 refine rk Qb [(12, .b (!(Q0 i 0 ((x.2.2.2.2.1.length : Int) - 1))))] [] [] [] [(3, .val (.i (x.2.2.2.2.1.length : Int))), (4, .val (.i ((x.2.2.2.2.1.length : Int) - 1))), (5, .val (.b (Q0 i 0 ((x.2.2.2.2.1.length : Int) - 1))))] (o2 (Qe (Q7 x.2.2.2.2.1)) (o2 (Qe (Ku (IntWalk.i64_in ((x.2.2.2.2.1.length : Int) - 1) (by omega)))) (o1 (Qf (Zi i 0 ((x.2.2.2.2.1.length : Int) - 1)))))) ?_
 refine ck (!(Q0 i 0 ((x.2.2.2.2.1.length : Int) - 1))) (fun h3 => ?_) (fun h3 => ?_)
 ·
  refine Qa ?_
  refine rk Qb [] [12] [] [] [] (o0) ?_
  refine opn [(true, 4, 2, true, 384000, 1), (true, 4, 3, true, 384001, 3)] ?_
  refine Qj ?_
  exact Y2 [] (congrArg (fun z => (.tup [(true, [.i z.1.1, .s z.1.2.1, .o 0 z.1.2.2.1, .o 1 z.1.2.2.2]), (false, [.b z.2])] : AV)) (show Qs x i = ((0, ⟨#[]⟩, [], []), false) from X0 h3 (rfl)).symm)
 ·
  have h3n : (Q0 i 0 ((x.2.2.2.2.1.length : Int) - 1)) = true := Vw h3
  have h3nw := within_iff.1 h3n
  refine Qg ?_
  refine Qa ?_
  have hx4 : x.2.2.2.2.1[(Int.toNat i)]? = some (nth x.2.2.2.2.1 (Int.toNat i)) := Xo (by omega)
  refine rk Qb [(5, .b true)] [1, 2, 5, 12] [(4, [.i ((Y9 (nth x.2.2.2.2.1 (Int.toNat i))).1), .s ((Y9 (nth x.2.2.2.2.1 (Int.toNat i))).2.1), .o 1216 ((Y9 (nth x.2.2.2.2.1 (Int.toNat i))).2.2.1), .o 1217 ((Y9 (nth x.2.2.2.2.1 (Int.toNat i))).2.2.2)])] [2, 4] [(3, .row [.i ((nth x.2.2.2.2.1 (Int.toNat i)).1), .s ((nth x.2.2.2.2.1 (Int.toNat i)).2.1), .h ((nth x.2.2.2.2.1 (Int.toNat i)).2.2.1), .h ((nth x.2.2.2.2.1 (Int.toNat i)).2.2.2)]), (5, .val (.a [.i ((Y9 (nth x.2.2.2.2.1 (Int.toNat i))).1), .s ((Y9 (nth x.2.2.2.2.1 (Int.toNat i))).2.1), .o 0 ((Y9 (nth x.2.2.2.2.1 (Int.toNat i))).2.2.1), .o 1 ((Y9 (nth x.2.2.2.2.1 (Int.toNat i))).2.2.2)]))] (o2 (Qk (Xe (i := i) (by omega) rfl hx4)) (o1 (Qf (implcopyWatch_a (nth x.2.2.2.2.1 (Int.toNat i)))))) ?_
  refine Qj ?_
  exact Y2 [] (congrArg (fun z => (.tup [(true, [.i z.1.1, .s z.1.2.1, .o 0 z.1.2.2.1, .o 1 z.1.2.2.2]), (false, [.b z.2])] : AV)) (show Qs x i = ((Y9 (nth x.2.2.2.2.1 (Int.toNat i))), true) from Qv h3 (rfl)).symm)
def Qu (x : Vo) (i : Int) : WatchD × Bool := (bif (!(Qq i 0 ((x.2.2.2.2.1.length : Int) - 1))) then ((0, ⟨#[]⟩, [], []), false) else ((Z5 (nth x.2.2.2.2.1 (Int.toNat i))), true))
theorem specFindWatch_a (x : Vo) (i : Int) : ACalls Tryz.prog 71 [.a [.h x.1.1.1, .h x.1.1.2.1, .i x.1.1.2.2, .h x.1.2.1, .h x.1.2.2, .s x.2.1.1, .s x.2.1.2, .i x.2.2.1, .h x.2.2.2.1, .h x.2.2.2.2.1, .h x.2.2.2.2.2], .i i] (.tup [(true, [.i ((((Qu x i)).1).1), .s ((((Qu x i)).1).2.1), .o 0 ((((Qu x i)).1).2.2.1), .o 1 ((((Qu x i)).1).2.2.2)]), (false, [.b (((Qu x i)).2)])]) := by
 refine Qn (tt := tt) Qb Tryz.func71 (fn := Tryz.f71) rfl (by unfold Js; kernel_rfl) (Nat.le_of_ble_eq_true rfl) fun w0 F0 => ?_
 refine Qa ?_
 refine rk Qb [(2, .p 2 0), (4, .p 4 0), (5, .b false)] [0] [(2, [.h x.1.1.1, .h x.1.1.2.1, .i x.1.1.2.2, .h x.1.2.1, .h x.1.2.2, .s x.2.1.1, .s x.2.1.2, .i x.2.2.1, .h x.2.2.2.1, .h x.2.2.2.2.1, .h x.2.2.2.2.2]), (4, [.i 0, .s ⟨#[]⟩, .e 1, .e 3])] [] [] (o0) ?_
 refine Qa ?_
 refine Qa ?_
 refine wdB 2 9 .sh x.2.2.2.2.1 (fun hw1 => ?_)
 have hl2 : List.length x.2.2.2.2.1 ≤ 1073741824 := Qo (hw1)
 refine rk Qb [(12, .b (!(Qq i 0 ((x.2.2.2.2.1.length : Int) - 1))))] [] [] [] [(3, .val (.i (x.2.2.2.2.1.length : Int))), (4, .val (.i ((x.2.2.2.2.1.length : Int) - 1))), (5, .val (.b (Qq i 0 ((x.2.2.2.2.1.length : Int) - 1))))] (o2 (Qe (Q7 x.2.2.2.2.1)) (o2 (Qe (Ku (IntWalk.i64_in ((x.2.2.2.2.1.length : Int) - 1) (by omega)))) (o1 (Qf (Ys i 0 ((x.2.2.2.2.1.length : Int) - 1)))))) ?_
 refine ck (!(Qq i 0 ((x.2.2.2.2.1.length : Int) - 1))) (fun h3 => ?_) (fun h3 => ?_)
 ·
  refine Qa ?_
  refine rk Qb [] [12] [] [] [] (o0) ?_
  refine opn [(true, 4, 2, true, 384000, 1), (true, 4, 3, true, 384001, 3)] ?_
  refine Qj ?_
  exact Y2 [] (congrArg (fun z => (.tup [(true, [.i z.1.1, .s z.1.2.1, .o 0 z.1.2.2.1, .o 1 z.1.2.2.2]), (false, [.b z.2])] : AV)) (show Qu x i = ((0, ⟨#[]⟩, [], []), false) from X0 h3 (rfl)).symm)
 ·
  have h3n : (Qq i 0 ((x.2.2.2.2.1.length : Int) - 1)) = true := Vw h3
  have h3nw := l01In_iff.1 h3n
  refine Qg ?_
  refine Qa ?_
  have hx4 : x.2.2.2.2.1[(Int.toNat i)]? = some (nth x.2.2.2.2.1 (Int.toNat i)) := Xo (by omega)
  refine rk Qb [(5, .b true)] [1, 2, 5, 12] [(4, [.i ((Z5 (nth x.2.2.2.2.1 (Int.toNat i))).1), .s ((Z5 (nth x.2.2.2.2.1 (Int.toNat i))).2.1), .o 1216 ((Z5 (nth x.2.2.2.2.1 (Int.toNat i))).2.2.1), .o 1217 ((Z5 (nth x.2.2.2.2.1 (Int.toNat i))).2.2.2)])] [2, 4] [(3, .row [.i ((nth x.2.2.2.2.1 (Int.toNat i)).1), .s ((nth x.2.2.2.2.1 (Int.toNat i)).2.1), .h ((nth x.2.2.2.2.1 (Int.toNat i)).2.2.1), .h ((nth x.2.2.2.2.1 (Int.toNat i)).2.2.2)]), (5, .val (.a [.i ((Z5 (nth x.2.2.2.2.1 (Int.toNat i))).1), .s ((Z5 (nth x.2.2.2.2.1 (Int.toNat i))).2.1), .o 0 ((Z5 (nth x.2.2.2.2.1 (Int.toNat i))).2.2.1), .o 1 ((Z5 (nth x.2.2.2.2.1 (Int.toNat i))).2.2.2)]))] (o2 (Qk (Xe (i := i) (by omega) rfl hx4)) (o1 (Qf (specl29Copy_a (nth x.2.2.2.2.1 (Int.toNat i)))))) ?_
  refine Qj ?_
  exact Y2 [] (congrArg (fun z => (.tup [(true, [.i z.1.1, .s z.1.2.1, .o 0 z.1.2.2.1, .o 1 z.1.2.2.2]), (false, [.b z.2])] : AV)) (show Qu x i = ((Z5 (nth x.2.2.2.2.1 (Int.toNat i))), true) from Qv h3 (rfl)).symm)
end Go.Proofs.YtnhmnfmhnepjmaaGreat
namespace Go.Proofs.YtnhmnfmhnepjmaaGreat
open Go.RowKit
theorem findWatch_eq (x : Vo) (i : Int) : Qu x i = Qs x i := by
  unfold Qu Qs
  rw [l29Copy_id, copyWatch_id]
  rfl
theorem findWatch_size (x : Vo) (i : Int) : GoD.size (Qs x i).1 ≤ GoD.size x := by
  unfold Qs
  rw [copyWatch_id]
  cases hc : Q0 i 0 ((x.2.2.2.2.1.length : Int) - 1) with
  | false => exact Nat.zero_le _
  | true =>
    have := within_iff.1 hc
    have h1 := sz_get (Xo (l := x.2.2.2.2.1) (i := Int.toNat i) (by omega)) (Nat.le_refl _)
    exact Nat.le_trans h1 (sz_fst (sz_snd (sz_snd (sz_snd (sz_snd (Nat.le_refl _))))))
theorem findWatch_sizeS (x : Vo) (i : Int) : GoD.size (Qu x i).1 ≤ GoD.size x := by rw [findWatch_eq]; exact findWatch_size x i
open GoE (enc wide)
def Yq (x : Vo) (i : Int) : Bool := (((Qs x i)).2 && (Yu (Z8 (((Qs x i)).1)) (Wg x.1.1 x.1.2.1 ((((Qs x i)).1).1) ((((Qs x i)).1).2.1))))
theorem implIsStreamConsistent_a (x : Vo) (i : Int) (hp : GoD.size x ≤ 536870912) : ACalls Tryz.prog 32 [.a [.h x.1.1.1, .h x.1.1.2.1, .i x.1.1.2.2, .h x.1.2.1, .h x.1.2.2, .s x.2.1.1, .s x.2.1.2, .i x.2.2.1, .h x.2.2.2.1, .h x.2.2.2.2.1, .h x.2.2.2.2.2], .i i] (.b (Yq x i)) := by
 refine Qn (tt := tt) Qb Tryz.func32 (fn := Tryz.f32) rfl (by unfold Js; kernel_rfl) (Nat.le_of_ble_eq_true rfl) fun w0 F0 => ?_
 refine Qa ?_
 refine rk Qb [(2, .p 2 0), (4, .b false)] [0] [(2, [.h x.1.1.1, .h x.1.1.2.1, .i x.1.1.2.2, .h x.1.2.1, .h x.1.2.2, .s x.2.1.1, .s x.2.1.2, .i x.2.2.1, .h x.2.2.2.1, .h x.2.2.2.2.1, .h x.2.2.2.2.2])] [] [] (o0) ?_
 refine Qa ?_
 refine rk Qb [(5, .p 5 0), (6, .b (((Qs x i)).2))] [1] [(5, [.i ((((Qs x i)).1).1), .s ((((Qs x i)).1).2.1), .o 640 ((((Qs x i)).1).2.2.1), .o 641 ((((Qs x i)).1).2.2.2)])] [] [(2, .val (.tup [(true, [.i ((((Qs x i)).1).1), .s ((((Qs x i)).1).2.1), .o 0 ((((Qs x i)).1).2.2.1), .o 1 ((((Qs x i)).1).2.2.2)]), (false, [.b (((Qs x i)).2)])]))] (o1 (Qf (implFindWatch_a x i))) ?_
 refine Qa ?_
 refine jn [(4, .b (((Qs x i)).2 && (Yu (Z8 (((Qs x i)).1)) (Wg x.1.1 x.1.2.1 ((((Qs x i)).1).1) ((((Qs x i)).1).2.1)))))] [2, 4, 5, 6] [] [2, 5] (((Qs x i)).2) (fun h1 => ?_) (fun h1 => ?_) ?_
 ·
  refine rd' Qb Zn [(4, .b (Yu (Z8 (((Qs x i)).1)) (Wg x.1.1 x.1.2.1 ((((Qs x i)).1).1) ((((Qs x i)).1).2.1))))] [2, 4, 5, 6] [] [2, 5] [(0, .val (.b true)), (3, .val (.o 0 (Z8 (((Qs x i)).1)))), (14, .val (.o 0 (Wg x.1.1 x.1.2.1 ((((Qs x i)).1).1) ((((Qs x i)).1).2.1)))), (15, .val (.b (Yu (Z8 (((Qs x i)).1)) (Wg x.1.1 x.1.2.1 ((((Qs x i)).1).1) ((((Qs x i)).1).2.1)))))] (o2 (Qe (Qd h1)) (o2 (Qf (implWatchListing_a (((Qs x i)).1) (by first | omega | (rw [l29Copy_id]; omega) | exact Nat.le_trans (findWatch_size x i) hp | exact Nat.le_trans (findWatch_sizeS x i) hp))) (o2 (Qf (implListDir_a x.1.1 x.1.2.1 ((((Qs x i)).1).1) ((((Qs x i)).1).2.1))) (o1 (Qf (slicesEqual_int_a (Z8 (((Qs x i)).1)) (Wg x.1.1 x.1.2.1 ((((Qs x i)).1).1) ((((Qs x i)).1).2.1)))))))) ?_
  exact ⟨rfl, Qc (by rw [h1]; first | done | kernel_rfl)⟩
 ·
  refine rd' Qb Zn [] [2, 5, 6] [] [2, 5] [(0, .val (.b false))] (o1 (Qe (Qd h1))) ?_
  exact ⟨rfl, Qc (by rw [h1]; first | done | kernel_rfl)⟩
 refine Qj ?_
 exact Y2 [] (congrArg (fun z => (.b z : AV)) (show Yq x i = (((Qs x i)).2 && (Yu (Z8 (((Qs x i)).1)) (Wg x.1.1 x.1.2.1 ((((Qs x i)).1).1) ((((Qs x i)).1).2.1)))) from rfl).symm)
def Wo (x : Vo) (i : Int) : Bool := (((Qu x i)).2 && (Yz (Z9 (((Qu x i)).1)) (Wl x.1.1 x.1.2.1 ((((Qu x i)).1).1) ((((Qu x i)).1).2.1))))
theorem specIsStreamConsistent_a (x : Vo) (i : Int) (hp : GoD.size x ≤ 536870912) : ACalls Tryz.prog 30 [.a [.h x.1.1.1, .h x.1.1.2.1, .i x.1.1.2.2, .h x.1.2.1, .h x.1.2.2, .s x.2.1.1, .s x.2.1.2, .i x.2.2.1, .h x.2.2.2.1, .h x.2.2.2.2.1, .h x.2.2.2.2.2], .i i] (.b (Wo x i)) := by
 refine Qn (tt := tt) Qb Tryz.func30 (fn := Tryz.f30) rfl (by unfold Js; kernel_rfl) (Nat.le_of_ble_eq_true rfl) fun w0 F0 => ?_
 refine Qa ?_
 refine rk Qb [(2, .p 2 0), (4, .b false)] [0] [(2, [.h x.1.1.1, .h x.1.1.2.1, .i x.1.1.2.2, .h x.1.2.1, .h x.1.2.2, .s x.2.1.1, .s x.2.1.2, .i x.2.2.1, .h x.2.2.2.1, .h x.2.2.2.2.1, .h x.2.2.2.2.2])] [] [] (o0) ?_
 refine Qa ?_
 refine rk Qb [(5, .p 5 0), (6, .b (((Qu x i)).2))] [1] [(5, [.i ((((Qu x i)).1).1), .s ((((Qu x i)).1).2.1), .o 640 ((((Qu x i)).1).2.2.1), .o 641 ((((Qu x i)).1).2.2.2)])] [] [(2, .val (.tup [(true, [.i ((((Qu x i)).1).1), .s ((((Qu x i)).1).2.1), .o 0 ((((Qu x i)).1).2.2.1), .o 1 ((((Qu x i)).1).2.2.2)]), (false, [.b (((Qu x i)).2)])]))] (o1 (Qf (specFindWatch_a x i))) ?_
 refine Qa ?_
 refine jn [(4, .b (((Qu x i)).2 && (Yz (Z9 (((Qu x i)).1)) (Wl x.1.1 x.1.2.1 ((((Qu x i)).1).1) ((((Qu x i)).1).2.1)))))] [2, 4, 5, 6] [] [2, 5] (((Qu x i)).2) (fun h1 => ?_) (fun h1 => ?_) ?_
 ·
  refine rd' Qb Zn [(4, .b (Yz (Z9 (((Qu x i)).1)) (Wl x.1.1 x.1.2.1 ((((Qu x i)).1).1) ((((Qu x i)).1).2.1))))] [2, 4, 5, 6] [] [2, 5] [(0, .val (.b true)), (3, .val (.o 0 (Z9 (((Qu x i)).1)))), (14, .val (.o 0 (Wl x.1.1 x.1.2.1 ((((Qu x i)).1).1) ((((Qu x i)).1).2.1)))), (15, .val (.b (Yz (Z9 (((Qu x i)).1)) (Wl x.1.1 x.1.2.1 ((((Qu x i)).1).1) ((((Qu x i)).1).2.1)))))] (o2 (Qe (Qd h1)) (o2 (Qf (specWatchListing_a (((Qu x i)).1) (by first | omega | (rw [l29Copy_id]; omega) | exact Nat.le_trans (findWatch_size x i) hp | exact Nat.le_trans (findWatch_sizeS x i) hp))) (o2 (Qf (specListDir_a x.1.1 x.1.2.1 ((((Qu x i)).1).1) ((((Qu x i)).1).2.1))) (o1 (Qf (specl07Ints_a (Z9 (((Qu x i)).1)) (Wl x.1.1 x.1.2.1 ((((Qu x i)).1).1) ((((Qu x i)).1).2.1)))))))) ?_
  exact ⟨rfl, Qc (by rw [h1]; first | done | kernel_rfl)⟩
 ·
  refine rd' Qb Zn [] [2, 5, 6] [] [2, 5] [(0, .val (.b false))] (o1 (Qe (Qd h1))) ?_
  exact ⟨rfl, Qc (by rw [h1]; first | done | kernel_rfl)⟩
 refine Qj ?_
 exact Y2 [] (congrArg (fun z => (.b z : AV)) (show Wo x i = (((Qu x i)).2 && (Yz (Z9 (((Qu x i)).1)) (Wl x.1.1 x.1.2.1 ((((Qu x i)).1).1) ((((Qu x i)).1).2.1)))) from rfl).symm)
end Go.Proofs.YtnhmnfmhnepjmaaGreat
namespace Go.Proofs.YtnhmnfmhnepjmaaGreat
open Go.RowKit
theorem stream_eq (x : Vo) (i : Int) : Wo x i = Yq x i := by
  unfold Wo Yq
  rw [findWatch_eq, listing_eq, listDir_eq, ints_dec, eqI_dec]
end Go.Proofs.YtnhmnfmhnepjmaaGreat
namespace Go.Proofs.YtnhmnfmhnepjmaaGreat
open Go.RowKit
open GoD (rd own)
open GoE (enc wide)
def szI (t : Nat) (left : Int) : Int := bif decide ((t : Int) ≤ left) then left - t else -1
theorem szI_of {t : Nat} {left r : Int} (h : szq t left r) : r = szI t left := by
  unfold szq at h
  unfold szI
  by_cases hc : (t : Int) ≤ left
  · rw [decide_eq_true hc]; simp only [cond_true]; omega
  · rw [decide_eq_false hc]; simp only [cond_false]; omega
theorem szI_bd (t : Nat) (left : Int) : szI t left < 0 ∨ (0 ≤ szI t left ∧ szI t left = left - t ∧ (t : Int) ≤ left) := by
  by_cases hc : (t : Int) ≤ left
  · have : szI t left = left - t := by unfold szI; rw [decide_eq_true hc]; rfl
    omega
  · have : szI t left = -1 := by unfold szI; rw [decide_eq_false hc]; rfl
    omega
theorem szI_in (t : Nat) {left : Int} (h0 : 0 ≤ left) (h1 : left ≤ 1048576) : InR .i64 (szI t left) := by
  rw [inR_i64]; unfold I64
  by_cases hc : (t : Int) ≤ left
  · have : szI t left = left - t := by unfold szI; rw [decide_eq_true hc]; rfl
    omega
  · have : szI t left = -1 := by unfold szI; rw [decide_eq_false hc]; rfl
    omega
section
variable {α : Type} [GoE α] {P : Program} {f : Nat}
theorem argA_rd {F : Nat → Prop} {w : World} {v : Value} {a : α} (h : AR (argJ F) w v (argA a)) : ∃ cs : List Value, v = .agg cs.toArray ∧ rd w cs a := by
  obtain ⟨vs, rfl, hr⟩ := h
  exact ⟨vs, rfl, GoE.vc_rd (sh_vc hr)⟩
theorem argA_wide {F : Nat → Prop} {w : World} {v : Value} {a : α} (h : AR (argJ F) w v (argA a)) : wide a := by
  obtain ⟨vs, rfl, hr⟩ := h
  exact GoE.vc_wide (sh_vc hr)
theorem aret_pure {F : Nat → Prop} {w w' : World} {v : Value} {r : AV} (hb : Below w.heap.size w w') (hr : ∀ J, AR J w' v r) : ARet F w r (.returned v) w' :=
  ⟨v, fun _ => [], rfl, hb, fun _ => List.nodup_nil, (fun _ _ h => by simp at h), (fun _ _ _ h => by simp at h), hr _⟩
theorem acalls_szA (hok : Js P f) {a : α} {left : Int} (h0 : 0 ≤ left) (h1 : left ≤ 1048576) (h : ∀ w (cs : List Value), rd w cs a → Calls P f #[.agg cs.toArray, .int .i64 left] w (RetSz w (GoD.size a) left)) : ACalls P f [argA a, intA left] (intA (szI (GoD.size a) left)) := by
  refine ⟨hok, fun w F vals hF hall => ?_⟩
  cases hall with
  | cons h2 h3 => cases h3 with
    | cons h3 h4 =>
      cases h4
      obtain ⟨cs, rfl, hr⟩ := argA_rd h2
      obtain ⟨rfl, _⟩ := h3
      refine (h w cs hr).mono ?_
      rintro e w' ⟨r, rfl, hq, hb⟩
      exact aret_pure hb fun J => ⟨by rw [szI_of hq], szI_in _ h0 h1⟩
theorem acalls_eqA (hok : Js P f) {a b : α} (he : a = b) (h : ∀ w (ca cb : List Value), rd w ca a → rd w cb b → Calls P f #[.agg ca.toArray, .agg cb.toArray] w (Ret w (.bool (eqb a b)))) : ACalls P f [argA a, argA b] (boolA true) := by
  refine ⟨hok, fun w F vals hF hall => ?_⟩
  cases hall with
  | cons h2 h3 => cases h3 with
    | cons h3 h4 =>
      cases h4
      obtain ⟨ca, rfl, ha⟩ := argA_rd h2
      obtain ⟨cb, rfl, hcb⟩ := argA_rd h3
      refine (h w ca cb ha hcb).mono ?_
      rintro e w' ⟨rfl, hb⟩
      subst he
      exact aret_pure hb fun J => by rw [eqb_refl]; rfl
end
/-! ### copies -/
theorem oc_ow {w : World} : ∀ {ps : List PV} {vs : List Value} {L : List Nat} (k : Nat), OC w L vs ps → L.Nodup → ∃ Lf : Nat → List Nat, (∀ J : Inj, (∀ j, k ≤ j → J.L j = Lf j) → All2 (CR J w) vs (owC k ps)) ∧ (∀ j, (Lf j).Nodup) ∧ (∀ j b, b ∈ Lf j → b ∈ L) ∧ ∀ i j b, b ∈ Lf i → b ∈ Lf j → i = j
  | [], vs, L, k, h, hn => by
    cases h
    exact ⟨fun _ => [], fun _ _ => .nil, fun _ => List.nodup_nil, fun _ _ h => by simp at h, fun _ _ _ h => by simp at h⟩
  | p :: ps, vs, L, k, h, hn => by
    cases h with
    | @cons L1 L2 v p vs ps h1 h2 =>
      obtain ⟨n1, n2, n3⟩ := List.nodup_append.1 hn
      cases p with
      | int a b =>
        obtain ⟨Lf, q1, q2, q3, q4⟩ := oc_ow k h2 n2
        exact ⟨Lf, fun J hJ => .cons (by cases h1; exact ⟨rfl, ‹_›⟩) (q1 J hJ), q2, fun j b hb => List.mem_append_right _ (q3 j b hb), q4⟩
      | bool b =>
        obtain ⟨Lf, q1, q2, q3, q4⟩ := oc_ow k h2 n2
        exact ⟨Lf, fun J hJ => .cons (by cases h1; rfl) (q1 J hJ), q2, fun j b hb => List.mem_append_right _ (q3 j b hb), q4⟩
      | str s =>
        obtain ⟨Lf, q1, q2, q3, q4⟩ := oc_ow k h2 n2
        exact ⟨Lf, fun J hJ => .cons (by cases h1; exact ⟨rfl, ‹_›⟩) (q1 J hJ), q2, fun j b hb => List.mem_append_right _ (q3 j b hb), q4⟩
      | slc n l =>
        obtain ⟨Lf, q1, q2, q3, q4⟩ := oc_ow (k + 1) h2 n2
        refine ⟨fun j => if j = k then L1 else if k < j then Lf j else [], fun J hJ => .cons ?_ (q1 J fun j hj => ?_), fun j => ?_, fun j b hb => ?_, fun i j b hi hj => ?_⟩
        · show OwnDeep (J.L k) w v n l
          have e : J.L k = L1 := (hJ k (Nat.le_refl _)).trans (if_pos rfl)
          rw [e]
          exact .of h1 n1
        · exact (hJ j (by omega)).trans ((if_neg (by omega)).trans (if_pos (by omega)))
        · show (if j = k then L1 else if k < j then Lf j else []).Nodup
          split
          · exact n1
          · split
            · exact q2 j
            · exact List.nodup_nil
        · have hb : b ∈ (if j = k then L1 else if k < j then Lf j else []) := hb
          split at hb
          · exact List.mem_append_left _ hb
          · split at hb
            · exact List.mem_append_right _ (q3 j b hb)
            · simp at hb
        · have hi : b ∈ (if i = k then L1 else if k < i then Lf i else []) := hi
          have hj : b ∈ (if j = k then L1 else if k < j then Lf j else []) := hj
          split at hi <;> split at hj
          · omega
          · split at hj
            · exact (n3 b hi b (q3 j b hj) rfl).elim
            · simp at hj
          · split at hi
            · exact (n3 b hj b (q3 i b hi) rfl).elim
            · simp at hi
          · split at hi
            · split at hj
              · exact q4 i j b hi hj
              · simp at hj
            · simp at hi
section
variable {α : Type} [GoE α] {P : Program} {f : Nat}
theorem acalls_toA (hok : Js P f) {a : α} (h : ∀ w (cs : List Value), rd w cs a → Calls P f #[.agg cs.toArray] w (RetA w a)) : ACalls P f [argA a] (resA a) := by
  refine ⟨hok, fun w F vals hF hall => ?_⟩
  cases hall with
  | cons h2 h3 =>
    cases h3
    have hw := argA_wide h2
    obtain ⟨cs, rfl, hr⟩ := argA_rd h2
    refine (h w cs hr).mono ?_
    rintro e w' ⟨cs', L, rfl, hb, ho, hL⟩
    have hlt := GoD.own_lt ho
    obtain ⟨Lf, q1, q2, q3, q4⟩ := oc_ow 0 (GoE.own_oc ho hw) (GoD.own_nd ho)
    exact ⟨_, Lf, rfl, hb, q2, fun k b hk => ⟨hL b (q3 k b hk), hlt b (q3 k b hk)⟩, q4, cs', rfl, q1 _ fun _ _ => rfl⟩
end
/-! ### marks -/
section
variable {P : Program} {N : Nat} {w0 : World} {F0 : Nat → Prop} {J : Inj} {a : Act} {w w' : World} {s : St}
theorem Rel.mark (h : Rel N w0 F0 J a w s) (ks : List Nat) {L : List Nat} (hL : ∀ b, b ∈ L → ∃ k, k ∈ ks ∧ b ∈ J.L k) (hc : Chg L w w') (d : Nat) (hd : d < N) (n : Int) (hn : InR .i64 n) (bx : Option (Nat × List C))
    (hb : ∀ k c, bx = some (k, c) → ∃ c0, get s.bx k = some c0 ∧ ∃ arr e, w.heap[J.B k]? = some (.cells arr e (0, 0)) ∧ ∀ J' : Inj, (∀ b, J'.F b ↔ J.F b ∨ b ∈ L) → All2 (CR J' w') arr.toList c) :
    ∃ J', (∀ b, J'.F b ↔ J.F b ∨ b ∈ L) ∧ (∀ k, J'.B k = J.B k) ∧ Rel N w0 F0 J' (a.put (some d) (.int .i64 n)) w' (s.step (some d) ⟨.one (.int .i64 n), killAll ks, none, bx⟩) := by
  let J' : Inj := ⟨fun b => J.F b ∨ b ∈ L, fun k => if k ∈ ks then [] else J.L k, J.B⟩
  have hlo : ∀ b, b ∈ L → w0.heap.size ≤ b ∧ b < w.heap.size ∧ ¬ J.F b := fun b hb => by
    obtain ⟨k, _, hm⟩ := hL b hb
    exact h.lo k b hm
  have hun : ∀ b, b < w.heap.size → b ∉ L → w'.heap[b]? = w.heap[b]? := hc.block
  have hJL : ∀ k b, b ∈ J'.L k → k ∉ ks ∧ b ∈ J.L k := fun k b hm => by
    have hm : b ∈ (if k ∈ ks then [] else J.L k) := hm
    split at hm
    · simp at hm
    · rename_i hk; exact ⟨hk, hm⟩
  have hout : ∀ k b, k ∉ ks → b ∈ J.L k → b ∉ L := fun k b hk hm hl => by
    obtain ⟨k', hk', hm'⟩ := hL b hl
    exact hk (h.dj k k' b hm hm' ▸ hk')
  have hboxL : ∀ k c, get s.bx k = some c → J.B k ∉ L := fun k c hk hl => by
    obtain ⟨k', _, hm⟩ := hL _ hl
    exact (h.bo k c hk).2.2.1 k' hm
  refine ⟨J', fun b => Iff.rfl, fun _ => rfl, ?_⟩
  refine h.upd (w' := w') (J' := J') (some d) (fun d' e => by cases e; exact hd) _ _ (h.below.trans (hc.below h.below.size fun b hb => (hlo b hb).1)) ?_ ?_ (fun _ => ⟨rfl, hn⟩) ?_ ?_
  · constructor
    · exact fun b hb => ⟨.inl hb, hun b (h.fl b hb).1 fun hl => (hlo b hl).2.2 hb⟩
    · intro k hk
      rw [get_kill] at hk
      split at hk
      · cases hk
      · rename_i hn
        exact ⟨if_neg hn, fun b hb => hun b (h.lo k b hb).2.1 (hout k b hn hb)⟩
    · intro k hk; rw [get_kill] at hk; split at hk <;> cases hk
    · intro k k' hk; rw [get_kill] at hk; split at hk <;> cases hk
    · intro k t hk; rw [get_kill] at hk; split at hk <;> cases hk
    · exact fun _ _ => rfl
    · intro k d m i o cs hk; rw [get_kill] at hk; split at hk <;> cases hk
  · constructor
    · intro b hb
      rcases hb with hb | hb
      · exact ⟨Nat.lt_of_lt_of_le (h.fl b hb).1 hc.size, (h.fl b hb).2⟩
      · exact ⟨Nat.lt_of_lt_of_le (hlo b hb).2.1 hc.size, .inr (hlo b hb).1⟩
    · exact fun b hb => .inl (h.f0 b hb)
    · intro k
      show (if _ then _ else _ : List Nat).Nodup
      split
      · exact List.nodup_nil
      · exact h.nd k
    · intro k b hm
      obtain ⟨hk, hm⟩ := hJL k b hm
      obtain ⟨h1, h2, h3⟩ := h.lo k b hm
      exact ⟨h1, Nat.lt_of_lt_of_le h2 hc.size, fun hF => hF.elim h3 (hout k b hk hm)⟩
    · intro k k' b hm hm'
      exact h.dj k k' b (hJL k b hm).2 (hJL k' b hm').2
  · intro k c hk _
    obtain ⟨h1, h2, h3, arr, e, h4, _⟩ := h.bo k c hk
    refine ⟨by simp, fun hF => hF.elim h2 (hboxL k c hk), fun k' hm => h3 k' (hJL k' _ hm).2, hun _ ?_ (hboxL k c hk)⟩
    exact Xa h4
  · intro k c hk
    obtain ⟨c0, hg, arr, e, hh, hall⟩ := hb k c hk
    obtain ⟨h1, h2, h3, arr', e', h4, _⟩ := h.bo k c0 hg
    have hlt : J.B k < w.heap.size := Xa h4
    exact ⟨h1, fun hF => hF.elim h2 (hboxL k c0 hg), fun k' hm => h3 k' (hJL k' _ hm).2, ⟨arr, e, (hun _ hlt (hboxL k c0 hg)).trans hh, hall J' fun _ => Iff.rfl⟩, fun k' c' hk' hne e => hne (h.bi k' k c' c0 hk' hg e)⟩
end
class GoM (α : Type) [GoE α] : Prop where
  mkw : ∀ {a : α} {k : Nat}, wide a → wide (GoD.mark a k).1
  mkT : ∀ {a : α} {k : Nat}, wide a → wide (GoD.markT a k).1
instance : GoM Int := ⟨fun _ => trivial, fun _ => trivial⟩
instance : GoM Bool := ⟨fun _ => trivial, fun _ => trivial⟩
instance : GoM ByteArray := ⟨fun _ => trivial, fun _ => trivial⟩
instance {α β : Type} [GoE α] [GoE β] [GoM α] [GoM β] : GoM (α × β) := ⟨fun h => ⟨GoM.mkw h.1, GoM.mkw h.2⟩, fun h => ⟨GoM.mkT h.1, GoM.mkT h.2⟩⟩
theorem markS_wide {α : Type} [GoE α] [GoM α] : ∀ {l : List α} {k : Nat}, (∀ a, a ∈ l → wide a) → ∀ a, a ∈ (markS l k).1 → wide a
  | [], k, _, a, ha => by simp [markS] at ha
  | x :: l, k, h, a, ha => by
    simp only [markS, List.mem_cons] at ha
    rcases ha with rfl | ha
    · exact GoM.mkw (h x List.mem_cons_self)
    · exact markS_wide (fun a ha => h a (List.mem_cons_of_mem _ ha)) a ha
instance {α : Type} [GoE α] [GoM α] : GoM (List α) := ⟨fun {l k} h => ⟨by rw [show (GoD.mark l k).1 = (markS l k).1 from rfl, markS_length']; exact h.1, markS_wide h.2⟩, fun {l k} h => ⟨by rw [show (GoD.markT l k).1 = (markS l k).1 from rfl, markS_length']; exact h.1, markS_wide h.2⟩⟩
section
variable {P : Program} {N : Nat} {w0 : World} {F0 : Nat → Prop} {s s' : St} {Q : Exit → St → Prop}
end
end Go.Proofs.YtnhmnfmhnepjmaaGreat
namespace Go.Proofs.YtnhmnfmhnepjmaaGreat
open Go.RowKit
open GoD (rd own)
set_option maxRecDepth 100000 in
set_option maxHeartbeats 1000000 in
theorem szField_c (w : World) (ca : List Value) (a : Jr) (left : Int) (ha : rd w ca a) (h0 : 0 ≤ left) (h1 : left ≤ 1048576) : Calls Tryz.prog 83 #[.agg ca.toArray, .int .i64 left] w (RetSz w (GoD.size a) left) := by
  obtain ⟨a1, a2⟩ := a
  obtain ⟨ac1, at1, rfl, ar1, ar2⟩ := ha
  obtain ⟨rfl, ar1⟩ := ar1
  obtain ⟨rfl, ar2⟩ := ar2
  dsimp only [List.cons_append, List.nil_append] at *
  unfold maxLen at ar1
  have ar1 : a1.size ≤ 9223372036854775807 := by omega
  clear ar2
  have hsz : GoD.size (a1, a2) = (a1.size + 0) := rfl
  have HSZ := Lib.hid hsz; clear hsz
  go_enter Tryz.func83, Tryz.ntmps83
  go_wp2
  all_goals
    go_ret
    refine ⟨_, rfl, ?_, by go_grown⟩
    rw [HSZ.out]
    unfold szq
    (try unfold szq at *)
    go_light
    omega
set_option maxRecDepth 100000 in
set_option maxHeartbeats 1000000 in
theorem szFieldS_c (w : World) (v : Value) (l : List Jr) (left : Int) (ha : rd w [v] l) (h0 : 0 ≤ left) (h1 : left ≤ 1048576) : Calls Tryz.prog 34 #[v, .int .i64 left] w (RetSz w (GoD.size l) left) := by
  obtain ⟨oa, cap, e1, hl, hm, hel⟩ := ha
  obtain rfl : v = _ := by simpa using e1
  clear e1
  have HE := Lib.hid hel; clear hel
  unfold maxLen at hm
  have hlm : l.length ≤ 9223372036854775807 := by omega
  have hsz : GoD.size l = l.length + (l.map GoD.size).sum := rfl
  have HSZ := Lib.hid hsz; clear hsz
  by_cases hneg : left - l.length < 0
  · go_enter Tryz.func34, Tryz.ntmps34
    go_wp2
    go_ret
    refine ⟨_, rfl, ?_, Below.refl _ _⟩
    rw [HSZ.out]
    unfold szq
    omega
  · go_enter Tryz.func34, Tryz.ntmps34
    go_wp2
    go_loopw [1, 5] (fun q i wr => ∃ (k : Nat) (r : Int), k ≤ l.length ∧ i = .int .i64 k ∧ q = .int .i64 r ∧ 0 ≤ r ∧ r ≤ 1048576 ∧ Hid (r = left - l.length - ((l.take k).map GoD.size).sum) ∧ Below w.heap.size w wr) (fun _ i _ => l.length - (intOf i).toNat)
    case atStart => exact ⟨0, _, Nat.zero_le _, rfl, rfl, by omega, by omega, by show _ = _; simp, Below.refl _ _⟩
    case round =>
      obtain ⟨k, r, hk, rfl, rfl, hr0, hr1, HR, hB⟩ := hrel
      by_cases hkl : k < l.length
      · have hx := List.getElem?_eq_getElem hkl
        obtain ⟨eb, eo, ee, rfl, hcl, hcc, hxr⟩ := HE.out k _ hx
        have HT := Lib.hid (sum_take hx)
        have HU := Lib.hid (sum_take_le hx)
        clear hx
        generalize l[k] = x at *
        obtain ⟨x0, x1, rfl⟩ := len2 (show _ = 2 from hcl)
        have p0 : wr.cell? ⟨eb, eo + k * 2, none⟩ = some x0 := (hB.cell (World.block_lt_of_cell? w _ (hcc 0 _ rfl))).trans (hcc 0 _ rfl)
        have p1 : wr.cell? ⟨eb, eo + k * 2 + 1, none⟩ = some x1 := (hB.cell (World.block_lt_of_cell? w _ (hcc 1 _ rfl))).trans (hcc 1 _ rfl)
        have HXR := Lib.hid hxr; clear hxr hcc hcl
        go_wp2_with (go_at_call 83; refine Jm (w := w) (szField_c _ [x0, x1] x _ (Qh HXR.out hB) (by omega) (by omega)) (by go_grown) ?_; intro w2 r2 hB2 hb hz hz2 hr2 hs; have HR2 := Lib.hid hr2; clear hr2 hb)
        · go_ret
          refine ⟨_, rfl, ?_, by go_grown⟩
          have u1 := HU.out; have u2 := HR2.out; have u3 := HR.out
          rw [HSZ.out]
          unfold szq at *
          go_light
          omega
        · go_roundw
          case rel => exact ⟨k + 1, _, by omega, by go_num, rfl, by omega, by omega, by
          show _ = _
          have u1 := HT.out; have u2 := HR2.out; have u3 := HR.out
          unfold szq at *
          rw [u1]
          omega, by go_grown⟩
          case measure => simp [intOf]; omega
      · obtain rfl : k = l.length := by omega
        go_wp2
        go_ret
        refine ⟨_, rfl, ?_, hB⟩
        have u3 := HR.out
        rw [List.take_length] at u3
        rw [HSZ.out]
        unfold szq
        omega
set_option maxRecDepth 100000 in
set_option maxHeartbeats 1000000 in
theorem szValue_c (w : World) (ca : List Value) (a : ValueD) (left : Int) (ha : rd w ca a) (h0 : 0 ≤ left) (h1 : left ≤ 1048576) : Calls Tryz.prog 165 #[.agg ca.toArray, .int .i64 left] w (RetSz w (GoD.size a) left) := by
  obtain ⟨a1, a2, a3⟩ := a
  obtain ⟨ac1, at1, rfl, ar1, ac2, at2, rfl, ar2, ar3⟩ := ha
  obtain ⟨rfl, ar1⟩ := ar1
  obtain ⟨rfl, ar2⟩ := ar2
  obtain ⟨rfl, ar3⟩ := ar3
  dsimp only [List.cons_append, List.nil_append] at *
  clear ar1
  clear ar2
  unfold maxLen at ar3
  have ar3 : a3.size ≤ 9223372036854775807 := by omega
  have hsz : GoD.size (a1, a2, a3) = (0 + (0 + a3.size)) := rfl
  have HSZ := Lib.hid hsz; clear hsz
  go_enter Tryz.func165, Tryz.ntmps165
  go_wp2
  all_goals
    go_ret
    refine ⟨_, rfl, ?_, by go_grown⟩
    rw [HSZ.out]
    unfold szq
    (try unfold szq at *)
    go_light
    omega
set_option maxRecDepth 100000 in
set_option maxHeartbeats 1000000 in
theorem szAttr_c (w : World) (ca : List Value) (a : AttrD) (left : Int) (ha : rd w ca a) (h0 : 0 ≤ left) (h1 : left ≤ 1048576) : Calls Tryz.prog 164 #[.agg ca.toArray, .int .i64 left] w (RetSz w (GoD.size a) left) := by
  obtain ⟨a1, a2⟩ := a
  obtain ⟨ac1, at1, rfl, ar1, ar2⟩ := ha
  obtain ⟨rfl, ar1⟩ := ar1
  obtain ⟨ax2_0, ax2_1, ax2_2, rfl⟩ := len3 (show _ = 3 from GoD.rd_len ar2)
  dsimp only [List.cons_append, List.nil_append] at *
  unfold maxLen at ar1
  have ar1 : a1.size ≤ 9223372036854775807 := by omega
  have AR2H := Lib.hid ar2; clear ar2
  have tok1 : True := trivial
  have hsz : GoD.size (a1, a2) = (a1.size + GoD.size a2) := rfl
  have HSZ := Lib.hid hsz; clear hsz
  go_enter Tryz.func164, Tryz.ntmps164
  go_wp2_with (first | (go_at_call 165; have tk := tok1; clear tok1; refine Jm (w := w) (szValue_c _ [ax2_0, ax2_1, ax2_2] a2 _ (Qh AR2H.out (by go_grown)) (by omega) (by omega)) (by go_grown) ?_; intro w1 r1 hB hb hz hz2 hr hs; have HR1 := Lib.hid hr; clear hr; (repeat (first | rewrite [World.size_alloc] at hz2 | rewrite [World.size_setCell] at hz2 | rewrite [World.size_drew] at hz2)); have c0 := fun o => Xy hb (w.heap.size) o (by go_size); clear hb))
  all_goals
    go_ret
    refine ⟨_, rfl, ?_, by go_grown⟩
    rw [HSZ.out]
    unfold szq
    (try have u1 := HR1.out)
    (try unfold szq at *)
    go_light
    omega
set_option maxRecDepth 100000 in
set_option maxHeartbeats 1000000 in
theorem szAttrS_c (w : World) (v : Value) (l : List AttrD) (left : Int) (ha : rd w [v] l) (h0 : 0 ≤ left) (h1 : left ≤ 1048576) : Calls Tryz.prog 122 #[v, .int .i64 left] w (RetSz w (GoD.size l) left) := by
  obtain ⟨oa, cap, e1, hl, hm, hel⟩ := ha
  obtain rfl : v = _ := by simpa using e1
  clear e1
  have HE := Lib.hid hel; clear hel
  unfold maxLen at hm
  have hlm : l.length ≤ 9223372036854775807 := by omega
  have hsz : GoD.size l = l.length + (l.map GoD.size).sum := rfl
  have HSZ := Lib.hid hsz; clear hsz
  by_cases hneg : left - l.length < 0
  · go_enter Tryz.func122, Tryz.ntmps122
    go_wp2
    go_ret
    refine ⟨_, rfl, ?_, Below.refl _ _⟩
    rw [HSZ.out]
    unfold szq
    omega
  · go_enter Tryz.func122, Tryz.ntmps122
    go_wp2
    go_loopw [1, 5] (fun q i wr => ∃ (k : Nat) (r : Int), k ≤ l.length ∧ i = .int .i64 k ∧ q = .int .i64 r ∧ 0 ≤ r ∧ r ≤ 1048576 ∧ Hid (r = left - l.length - ((l.take k).map GoD.size).sum) ∧ Below w.heap.size w wr) (fun _ i _ => l.length - (intOf i).toNat)
    case atStart => exact ⟨0, _, Nat.zero_le _, rfl, rfl, by omega, by omega, by show _ = _; simp, Below.refl _ _⟩
    case round =>
      obtain ⟨k, r, hk, rfl, rfl, hr0, hr1, HR, hB⟩ := hrel
      by_cases hkl : k < l.length
      · have hx := List.getElem?_eq_getElem hkl
        obtain ⟨eb, eo, ee, rfl, hcl, hcc, hxr⟩ := HE.out k _ hx
        have HT := Lib.hid (sum_take hx)
        have HU := Lib.hid (sum_take_le hx)
        clear hx
        generalize l[k] = x at *
        obtain ⟨x0, x1, x2, x3, rfl⟩ := len4 (show _ = 4 from hcl)
        have p0 : wr.cell? ⟨eb, eo + k * 4, none⟩ = some x0 := (hB.cell (World.block_lt_of_cell? w _ (hcc 0 _ rfl))).trans (hcc 0 _ rfl)
        have p1 : wr.cell? ⟨eb, eo + k * 4 + 1, none⟩ = some x1 := (hB.cell (World.block_lt_of_cell? w _ (hcc 1 _ rfl))).trans (hcc 1 _ rfl)
        have p2 : wr.cell? ⟨eb, eo + k * 4 + 2, none⟩ = some x2 := (hB.cell (World.block_lt_of_cell? w _ (hcc 2 _ rfl))).trans (hcc 2 _ rfl)
        have p3 : wr.cell? ⟨eb, eo + k * 4 + 3, none⟩ = some x3 := (hB.cell (World.block_lt_of_cell? w _ (hcc 3 _ rfl))).trans (hcc 3 _ rfl)
        have HXR := Lib.hid hxr; clear hxr hcc hcl
        go_wp2_with (go_at_call 164; refine Jm (w := w) (szAttr_c _ [x0, x1, x2, x3] x _ (Qh HXR.out hB) (by omega) (by omega)) (by go_grown) ?_; intro w2 r2 hB2 hb hz hz2 hr2 hs; have HR2 := Lib.hid hr2; clear hr2 hb)
        · go_ret
          refine ⟨_, rfl, ?_, by go_grown⟩
          have u1 := HU.out; have u2 := HR2.out; have u3 := HR.out
          rw [HSZ.out]
          unfold szq at *
          go_light
          omega
        · go_roundw
          case rel => exact ⟨k + 1, _, by omega, by go_num, rfl, by omega, by omega, by
          show _ = _
          have u1 := HT.out; have u2 := HR2.out; have u3 := HR.out
          unfold szq at *
          rw [u1]
          omega, by go_grown⟩
          case measure => simp [intOf]; omega
      · obtain rfl : k = l.length := by omega
        go_wp2
        go_ret
        refine ⟨_, rfl, ?_, hB⟩
        have u3 := HR.out
        rw [List.take_length] at u3
        rw [HSZ.out]
        unfold szq
        omega
set_option maxRecDepth 100000 in
set_option maxHeartbeats 1000000 in
theorem szFile_c (w : World) (ca : List Value) (a : Yo) (left : Int) (ha : rd w ca a) (h0 : 0 ≤ left) (h1 : left ≤ 1048576) : Calls Tryz.prog 84 #[.agg ca.toArray, .int .i64 left] w (RetSz w (GoD.size a) left) := by
  obtain ⟨a1, a2, a3, a4, a5⟩ := a
  obtain ⟨ac1, at1, rfl, ar1, ac2, at2, rfl, ar2, ac3, at3, rfl, ar3, ac4, at4, rfl, ar4, ar5⟩ := ha
  obtain ⟨rfl, ar1⟩ := ar1
  obtain ⟨rfl, ar2⟩ := ar2
  obtain rfl := ar3
  obtain ⟨rfl, ar4⟩ := ar4
  obtain ⟨ax5_0, rfl⟩ := len1 (show _ = 1 from GoD.rd_len ar5)
  dsimp only [List.cons_append, List.nil_append] at *
  clear ar1
  clear ar2
  clear ar4
  have AR5H := Lib.hid ar5; clear ar5
  have tok1 : True := trivial
  have hsz : GoD.size (a1, a2, a3, a4, a5) = (0 + (0 + (0 + (0 + GoD.size a5)))) := rfl
  have HSZ := Lib.hid hsz; clear hsz
  go_enter Tryz.func84, Tryz.ntmps84
  go_wp2_with (first | (go_at_call 122; have tk := tok1; clear tok1; refine Jm (w := w) (szAttrS_c _ ax5_0 a5 _ (Qh AR5H.out (by go_grown)) (by omega) (by omega)) (by go_grown) ?_; intro w1 r1 hB hb hz hz2 hr hs; have HR1 := Lib.hid hr; clear hr; (repeat (first | rewrite [World.size_alloc] at hz2 | rewrite [World.size_setCell] at hz2 | rewrite [World.size_drew] at hz2)); have c0 := fun o => Xy hb (w.heap.size) o (by go_size); clear hb))
  all_goals
    go_ret
    refine ⟨_, rfl, ?_, by go_grown⟩
    rw [HSZ.out]
    unfold szq
    (try have u1 := HR1.out)
    (try unfold szq at *)
    go_light
    omega
set_option maxRecDepth 100000 in
set_option maxHeartbeats 1000000 in
theorem szFileS_c (w : World) (v : Value) (l : List Yo) (left : Int) (ha : rd w [v] l) (h0 : 0 ≤ left) (h1 : left ≤ 1048576) : Calls Tryz.prog 35 #[v, .int .i64 left] w (RetSz w (GoD.size l) left) := by
  obtain ⟨oa, cap, e1, hl, hm, hel⟩ := ha
  obtain rfl : v = _ := by simpa using e1
  clear e1
  have HE := Lib.hid hel; clear hel
  unfold maxLen at hm
  have hlm : l.length ≤ 9223372036854775807 := by omega
  have hsz : GoD.size l = l.length + (l.map GoD.size).sum := rfl
  have HSZ := Lib.hid hsz; clear hsz
  by_cases hneg : left - l.length < 0
  · go_enter Tryz.func35, Tryz.ntmps35
    go_wp2
    go_ret
    refine ⟨_, rfl, ?_, Below.refl _ _⟩
    rw [HSZ.out]
    unfold szq
    omega
  · go_enter Tryz.func35, Tryz.ntmps35
    go_wp2
    go_loopw [1, 5] (fun q i wr => ∃ (k : Nat) (r : Int), k ≤ l.length ∧ i = .int .i64 k ∧ q = .int .i64 r ∧ 0 ≤ r ∧ r ≤ 1048576 ∧ Hid (r = left - l.length - ((l.take k).map GoD.size).sum) ∧ Below w.heap.size w wr) (fun _ i _ => l.length - (intOf i).toNat)
    case atStart => exact ⟨0, _, Nat.zero_le _, rfl, rfl, by omega, by omega, by show _ = _; simp, Below.refl _ _⟩
    case round =>
      obtain ⟨k, r, hk, rfl, rfl, hr0, hr1, HR, hB⟩ := hrel
      by_cases hkl : k < l.length
      · have hx := List.getElem?_eq_getElem hkl
        obtain ⟨eb, eo, ee, rfl, hcl, hcc, hxr⟩ := HE.out k _ hx
        have HT := Lib.hid (sum_take hx)
        have HU := Lib.hid (sum_take_le hx)
        clear hx
        generalize l[k] = x at *
        obtain ⟨x0, x1, x2, x3, x4, rfl⟩ := len5 (show _ = 5 from hcl)
        have p0 : wr.cell? ⟨eb, eo + k * 5, none⟩ = some x0 := (hB.cell (World.block_lt_of_cell? w _ (hcc 0 _ rfl))).trans (hcc 0 _ rfl)
        have p1 : wr.cell? ⟨eb, eo + k * 5 + 1, none⟩ = some x1 := (hB.cell (World.block_lt_of_cell? w _ (hcc 1 _ rfl))).trans (hcc 1 _ rfl)
        have p2 : wr.cell? ⟨eb, eo + k * 5 + 2, none⟩ = some x2 := (hB.cell (World.block_lt_of_cell? w _ (hcc 2 _ rfl))).trans (hcc 2 _ rfl)
        have p3 : wr.cell? ⟨eb, eo + k * 5 + 3, none⟩ = some x3 := (hB.cell (World.block_lt_of_cell? w _ (hcc 3 _ rfl))).trans (hcc 3 _ rfl)
        have p4 : wr.cell? ⟨eb, eo + k * 5 + 4, none⟩ = some x4 := (hB.cell (World.block_lt_of_cell? w _ (hcc 4 _ rfl))).trans (hcc 4 _ rfl)
        have HXR := Lib.hid hxr; clear hxr hcc hcl
        go_wp2_with (go_at_call 84; refine Jm (w := w) (szFile_c _ [x0, x1, x2, x3, x4] x _ (Qh HXR.out hB) (by omega) (by omega)) (by go_grown) ?_; intro w2 r2 hB2 hb hz hz2 hr2 hs; have HR2 := Lib.hid hr2; clear hr2 hb)
        · go_ret
          refine ⟨_, rfl, ?_, by go_grown⟩
          have u1 := HU.out; have u2 := HR2.out; have u3 := HR.out
          rw [HSZ.out]
          unfold szq at *
          go_light
          omega
        · go_roundw
          case rel => exact ⟨k + 1, _, by omega, by go_num, rfl, by omega, by omega, by
          show _ = _
          have u1 := HT.out; have u2 := HR2.out; have u3 := HR.out
          unfold szq at *
          rw [u1]
          omega, by go_grown⟩
          case measure => simp [intOf]; omega
      · obtain rfl : k = l.length := by omega
        go_wp2
        go_ret
        refine ⟨_, rfl, ?_, hB⟩
        have u3 := HR.out
        rw [List.take_length] at u3
        rw [HSZ.out]
        unfold szq
        omega
set_option maxRecDepth 100000 in
set_option maxHeartbeats 1000000 in
theorem szStore_c (w : World) (ca : List Value) (a : Yn) (left : Int) (ha : rd w ca a) (h0 : 0 ≤ left) (h1 : left ≤ 1048576) : Calls Tryz.prog 7 #[.agg ca.toArray, .int .i64 left] w (RetSz w (GoD.size a) left) := by
  obtain ⟨a1, a2, a3⟩ := a
  obtain ⟨ac1, at1, rfl, ar1, ac2, at2, rfl, ar2, ar3⟩ := ha
  obtain ⟨ax1_0, rfl⟩ := len1 (show _ = 1 from GoD.rd_len ar1)
  obtain ⟨ax2_0, rfl⟩ := len1 (show _ = 1 from GoD.rd_len ar2)
  obtain ⟨rfl, ar3⟩ := ar3
  dsimp only [List.cons_append, List.nil_append] at *
  have AR1H := Lib.hid ar1; clear ar1
  have AR2H := Lib.hid ar2; clear ar2
  clear ar3
  have tok1 : True := trivial
  have tok2 : True := trivial
  have hsz : GoD.size (a1, a2, a3) = (GoD.size a1 + (GoD.size a2 + 0)) := rfl
  have HSZ := Lib.hid hsz; clear hsz
  go_enter Tryz.func7, Tryz.ntmps7
  go_wp2_with (first | (go_at_call 34; have tk := tok1; clear tok1; refine Jm (w := w) (szFieldS_c _ ax1_0 a1 _ (Qh AR1H.out (by go_grown)) (by omega) (by omega)) (by go_grown) ?_; intro w1 r1 hB hb hz hz2 hr hs; have HR1 := Lib.hid hr; clear hr; (repeat (first | rewrite [World.size_alloc] at hz2 | rewrite [World.size_setCell] at hz2 | rewrite [World.size_drew] at hz2)); have c0 := fun o => Xy hb (w.heap.size) o (by go_size); clear hb) | (go_at_call 35; have tk := tok2; clear tok2; refine Jm (w := w) (szFileS_c _ ax2_0 a2 _ (Qh AR2H.out (by go_grown)) (by omega) (by omega)) (by go_grown) ?_; intro w2 r2 hB hb hz hz2 hr hs; have HR2 := Lib.hid hr; clear hr; (repeat (first | rewrite [World.size_alloc] at hz2 | rewrite [World.size_setCell] at hz2 | rewrite [World.size_drew] at hz2)); have c0 := fun o => Xy hb (w.heap.size) o (by go_size); clear hb))
  all_goals
    go_ret
    refine ⟨_, rfl, ?_, by go_grown⟩
    rw [HSZ.out]
    unfold szq
    (try have u1 := HR1.out)
    (try have u2 := HR2.out)
    (try unfold szq at *)
    go_light
    omega
set_option maxRecDepth 100000 in
set_option maxHeartbeats 1000000 in
theorem szNode_c (w : World) (ca : List Value) (a : Yg) (left : Int) (ha : rd w ca a) (h0 : 0 ≤ left) (h1 : left ≤ 1048576) : Calls Tryz.prog 123 #[.agg ca.toArray, .int .i64 left] w (RetSz w (GoD.size a) left) := by
  obtain ⟨a1, a2, a3, a4, a5⟩ := a
  obtain ⟨ac1, at1, rfl, ar1, ac2, at2, rfl, ar2, ac3, at3, rfl, ar3, ac4, at4, rfl, ar4, ar5⟩ := ha
  obtain ⟨rfl, ar1⟩ := ar1
  obtain ⟨rfl, ar2⟩ := ar2
  obtain ⟨rfl, ar3⟩ := ar3
  obtain ⟨rfl, ar4⟩ := ar4
  obtain ⟨ax5_0, ax5_1, ax5_2, rfl⟩ := len3 (show _ = 3 from GoD.rd_len ar5)
  dsimp only [List.cons_append, List.nil_append] at *
  clear ar1
  clear ar2
  clear ar3
  unfold maxLen at ar4
  have ar4 : a4.size ≤ 9223372036854775807 := by omega
  have AR5H := Lib.hid ar5; clear ar5
  have tok1 : True := trivial
  have hsz : GoD.size (a1, a2, a3, a4, a5) = (0 + (0 + (0 + (a4.size + GoD.size a5)))) := rfl
  have HSZ := Lib.hid hsz; clear hsz
  go_enter Tryz.func123, Tryz.ntmps123
  go_wp2_with (first | (go_at_call 165; have tk := tok1; clear tok1; refine Jm (w := w) (szValue_c _ [ax5_0, ax5_1, ax5_2] a5 _ (Qh AR5H.out (by go_grown)) (by omega) (by omega)) (by go_grown) ?_; intro w1 r1 hB hb hz hz2 hr hs; have HR1 := Lib.hid hr; clear hr; (repeat (first | rewrite [World.size_alloc] at hz2 | rewrite [World.size_setCell] at hz2 | rewrite [World.size_drew] at hz2)); have c0 := fun o => Xy hb (w.heap.size) o (by go_size); clear hb))
  all_goals
    go_ret
    refine ⟨_, rfl, ?_, by go_grown⟩
    rw [HSZ.out]
    unfold szq
    (try have u1 := HR1.out)
    (try unfold szq at *)
    go_light
    omega
set_option maxRecDepth 100000 in
set_option maxHeartbeats 1000000 in
theorem szNodeS_c (w : World) (v : Value) (l : List Yg) (left : Int) (ha : rd w [v] l) (h0 : 0 ≤ left) (h1 : left ≤ 1048576) : Calls Tryz.prog 85 #[v, .int .i64 left] w (RetSz w (GoD.size l) left) := by
  obtain ⟨oa, cap, e1, hl, hm, hel⟩ := ha
  obtain rfl : v = _ := by simpa using e1
  clear e1
  have HE := Lib.hid hel; clear hel
  unfold maxLen at hm
  have hlm : l.length ≤ 9223372036854775807 := by omega
  have hsz : GoD.size l = l.length + (l.map GoD.size).sum := rfl
  have HSZ := Lib.hid hsz; clear hsz
  by_cases hneg : left - l.length < 0
  · go_enter Tryz.func85, Tryz.ntmps85
    go_wp2
    go_ret
    refine ⟨_, rfl, ?_, Below.refl _ _⟩
    rw [HSZ.out]
    unfold szq
    omega
  · go_enter Tryz.func85, Tryz.ntmps85
    go_wp2
    go_loopw [1, 5] (fun q i wr => ∃ (k : Nat) (r : Int), k ≤ l.length ∧ i = .int .i64 k ∧ q = .int .i64 r ∧ 0 ≤ r ∧ r ≤ 1048576 ∧ Hid (r = left - l.length - ((l.take k).map GoD.size).sum) ∧ Below w.heap.size w wr) (fun _ i _ => l.length - (intOf i).toNat)
    case atStart => exact ⟨0, _, Nat.zero_le _, rfl, rfl, by omega, by omega, by show _ = _; simp, Below.refl _ _⟩
    case round =>
      obtain ⟨k, r, hk, rfl, rfl, hr0, hr1, HR, hB⟩ := hrel
      by_cases hkl : k < l.length
      · have hx := List.getElem?_eq_getElem hkl
        obtain ⟨eb, eo, ee, rfl, hcl, hcc, hxr⟩ := HE.out k _ hx
        have HT := Lib.hid (sum_take hx)
        have HU := Lib.hid (sum_take_le hx)
        clear hx
        generalize l[k] = x at *
        obtain ⟨x0, x1, x2, x3, x4, x5, x6, rfl⟩ := len7 (show _ = 7 from hcl)
        have p0 : wr.cell? ⟨eb, eo + k * 7, none⟩ = some x0 := (hB.cell (World.block_lt_of_cell? w _ (hcc 0 _ rfl))).trans (hcc 0 _ rfl)
        have p1 : wr.cell? ⟨eb, eo + k * 7 + 1, none⟩ = some x1 := (hB.cell (World.block_lt_of_cell? w _ (hcc 1 _ rfl))).trans (hcc 1 _ rfl)
        have p2 : wr.cell? ⟨eb, eo + k * 7 + 2, none⟩ = some x2 := (hB.cell (World.block_lt_of_cell? w _ (hcc 2 _ rfl))).trans (hcc 2 _ rfl)
        have p3 : wr.cell? ⟨eb, eo + k * 7 + 3, none⟩ = some x3 := (hB.cell (World.block_lt_of_cell? w _ (hcc 3 _ rfl))).trans (hcc 3 _ rfl)
        have p4 : wr.cell? ⟨eb, eo + k * 7 + 4, none⟩ = some x4 := (hB.cell (World.block_lt_of_cell? w _ (hcc 4 _ rfl))).trans (hcc 4 _ rfl)
        have p5 : wr.cell? ⟨eb, eo + k * 7 + 5, none⟩ = some x5 := (hB.cell (World.block_lt_of_cell? w _ (hcc 5 _ rfl))).trans (hcc 5 _ rfl)
        have p6 : wr.cell? ⟨eb, eo + k * 7 + 6, none⟩ = some x6 := (hB.cell (World.block_lt_of_cell? w _ (hcc 6 _ rfl))).trans (hcc 6 _ rfl)
        have HXR := Lib.hid hxr; clear hxr hcc hcl
        go_wp2_with (go_at_call 123; refine Jm (w := w) (szNode_c _ [x0, x1, x2, x3, x4, x5, x6] x _ (Qh HXR.out hB) (by omega) (by omega)) (by go_grown) ?_; intro w2 r2 hB2 hb hz hz2 hr2 hs; have HR2 := Lib.hid hr2; clear hr2 hb)
        · go_ret
          refine ⟨_, rfl, ?_, by go_grown⟩
          have u1 := HU.out; have u2 := HR2.out; have u3 := HR.out
          rw [HSZ.out]
          unfold szq at *
          go_light
          omega
        · go_roundw
          case rel => exact ⟨k + 1, _, by omega, by go_num, rfl, by omega, by omega, by
          show _ = _
          have u1 := HT.out; have u2 := HR2.out; have u3 := HR.out
          unfold szq at *
          rw [u1]
          omega, by go_grown⟩
          case measure => simp [intOf]; omega
      · obtain rfl : k = l.length := by omega
        go_wp2
        go_ret
        refine ⟨_, rfl, ?_, hB⟩
        have u3 := HR.out
        rw [List.take_length] at u3
        rw [HSZ.out]
        unfold szq
        omega
set_option maxRecDepth 100000 in
set_option maxHeartbeats 1000000 in
theorem szDir_c (w : World) (ca : List Value) (a : Zh) (left : Int) (ha : rd w ca a) (h0 : 0 ≤ left) (h1 : left ≤ 1048576) : Calls Tryz.prog 36 #[.agg ca.toArray, .int .i64 left] w (RetSz w (GoD.size a) left) := by
  obtain ⟨a1, a2⟩ := a
  obtain ⟨ac1, at1, rfl, ar1, ar2⟩ := ha
  obtain ⟨rfl, ar1⟩ := ar1
  obtain ⟨ax2_0, rfl⟩ := len1 (show _ = 1 from GoD.rd_len ar2)
  dsimp only [List.cons_append, List.nil_append] at *
  unfold maxLen at ar1
  have ar1 : a1.size ≤ 9223372036854775807 := by omega
  have AR2H := Lib.hid ar2; clear ar2
  have tok1 : True := trivial
  have hsz : GoD.size (a1, a2) = (a1.size + GoD.size a2) := rfl
  have HSZ := Lib.hid hsz; clear hsz
  go_enter Tryz.func36, Tryz.ntmps36
  go_wp2_with (first | (go_at_call 85; have tk := tok1; clear tok1; refine Jm (w := w) (szNodeS_c _ ax2_0 a2 _ (Qh AR2H.out (by go_grown)) (by omega) (by omega)) (by go_grown) ?_; intro w1 r1 hB hb hz hz2 hr hs; have HR1 := Lib.hid hr; clear hr; (repeat (first | rewrite [World.size_alloc] at hz2 | rewrite [World.size_setCell] at hz2 | rewrite [World.size_drew] at hz2)); have c0 := fun o => Xy hb (w.heap.size) o (by go_size); clear hb))
  all_goals
    go_ret
    refine ⟨_, rfl, ?_, by go_grown⟩
    rw [HSZ.out]
    unfold szq
    (try have u1 := HR1.out)
    (try unfold szq at *)
    go_light
    omega
set_option maxRecDepth 100000 in
set_option maxHeartbeats 1000000 in
theorem szDirS_c (w : World) (v : Value) (l : List Zh) (left : Int) (ha : rd w [v] l) (h0 : 0 ≤ left) (h1 : left ≤ 1048576) : Calls Tryz.prog 8 #[v, .int .i64 left] w (RetSz w (GoD.size l) left) := by
  obtain ⟨oa, cap, e1, hl, hm, hel⟩ := ha
  obtain rfl : v = _ := by simpa using e1
  clear e1
  have HE := Lib.hid hel; clear hel
  unfold maxLen at hm
  have hlm : l.length ≤ 9223372036854775807 := by omega
  have hsz : GoD.size l = l.length + (l.map GoD.size).sum := rfl
  have HSZ := Lib.hid hsz; clear hsz
  by_cases hneg : left - l.length < 0
  · go_enter Tryz.func8, Tryz.ntmps8
    go_wp2
    go_ret
    refine ⟨_, rfl, ?_, Below.refl _ _⟩
    rw [HSZ.out]
    unfold szq
    omega
  · go_enter Tryz.func8, Tryz.ntmps8
    go_wp2
    go_loopw [1, 5] (fun q i wr => ∃ (k : Nat) (r : Int), k ≤ l.length ∧ i = .int .i64 k ∧ q = .int .i64 r ∧ 0 ≤ r ∧ r ≤ 1048576 ∧ Hid (r = left - l.length - ((l.take k).map GoD.size).sum) ∧ Below w.heap.size w wr) (fun _ i _ => l.length - (intOf i).toNat)
    case atStart => exact ⟨0, _, Nat.zero_le _, rfl, rfl, by omega, by omega, by show _ = _; simp, Below.refl _ _⟩
    case round =>
      obtain ⟨k, r, hk, rfl, rfl, hr0, hr1, HR, hB⟩ := hrel
      by_cases hkl : k < l.length
      · have hx := List.getElem?_eq_getElem hkl
        obtain ⟨eb, eo, ee, rfl, hcl, hcc, hxr⟩ := HE.out k _ hx
        have HT := Lib.hid (sum_take hx)
        have HU := Lib.hid (sum_take_le hx)
        clear hx
        generalize l[k] = x at *
        obtain ⟨x0, x1, rfl⟩ := len2 (show _ = 2 from hcl)
        have p0 : wr.cell? ⟨eb, eo + k * 2, none⟩ = some x0 := (hB.cell (World.block_lt_of_cell? w _ (hcc 0 _ rfl))).trans (hcc 0 _ rfl)
        have p1 : wr.cell? ⟨eb, eo + k * 2 + 1, none⟩ = some x1 := (hB.cell (World.block_lt_of_cell? w _ (hcc 1 _ rfl))).trans (hcc 1 _ rfl)
        have HXR := Lib.hid hxr; clear hxr hcc hcl
        go_wp2_with (go_at_call 36; refine Jm (w := w) (szDir_c _ [x0, x1] x _ (Qh HXR.out hB) (by omega) (by omega)) (by go_grown) ?_; intro w2 r2 hB2 hb hz hz2 hr2 hs; have HR2 := Lib.hid hr2; clear hr2 hb)
        · go_ret
          refine ⟨_, rfl, ?_, by go_grown⟩
          have u1 := HU.out; have u2 := HR2.out; have u3 := HR.out
          rw [HSZ.out]
          unfold szq at *
          go_light
          omega
        · go_roundw
          case rel => exact ⟨k + 1, _, by omega, by go_num, rfl, by omega, by omega, by
          show _ = _
          have u1 := HT.out; have u2 := HR2.out; have u3 := HR.out
          unfold szq at *
          rw [u1]
          omega, by go_grown⟩
          case measure => simp [intOf]; omega
      · obtain rfl : k = l.length := by omega
        go_wp2
        go_ret
        refine ⟨_, rfl, ?_, hB⟩
        have u3 := HR.out
        rw [List.take_length] at u3
        rw [HSZ.out]
        unfold szq
        omega
set_option maxRecDepth 100000 in
set_option maxHeartbeats 1000000 in
theorem szSnapshot_c (w : World) (ca : List Value) (a : SnapshotD) (left : Int) (ha : rd w ca a) (h0 : 0 ≤ left) (h1 : left ≤ 1048576) : Calls Tryz.prog 159 #[.agg ca.toArray, .int .i64 left] w (RetSz w (GoD.size a) left) := by
  obtain ⟨a1, a2⟩ := a
  obtain ⟨ac1, at1, rfl, ar1, ar2⟩ := ha
  obtain ⟨ax1_0, ax1_1, ax1_2, rfl⟩ := len3 (show _ = 3 from GoD.rd_len ar1)
  obtain ⟨ax2_0, rfl⟩ := len1 (show _ = 1 from GoD.rd_len ar2)
  dsimp only [List.cons_append, List.nil_append] at *
  have AR1H := Lib.hid ar1; clear ar1
  have AR2H := Lib.hid ar2; clear ar2
  have tok1 : True := trivial
  have tok2 : True := trivial
  have hsz : GoD.size (a1, a2) = (GoD.size a1 + GoD.size a2) := rfl
  have HSZ := Lib.hid hsz; clear hsz
  go_enter Tryz.func159, Tryz.ntmps159
  go_wp2_with (first | (go_at_call 7; have tk := tok1; clear tok1; refine Jm (w := w) (szStore_c _ [ax1_0, ax1_1, ax1_2] a1 _ (Qh AR1H.out (by go_grown)) (by omega) (by omega)) (by go_grown) ?_; intro w1 r1 hB hb hz hz2 hr hs; have HR1 := Lib.hid hr; clear hr; (repeat (first | rewrite [World.size_alloc] at hz2 | rewrite [World.size_setCell] at hz2 | rewrite [World.size_drew] at hz2)); have c0 := fun o => Xy hb (w.heap.size) o (by go_size); clear hb) | (go_at_call 8; have tk := tok2; clear tok2; refine Jm (w := w) (szDirS_c _ ax2_0 a2 _ (Qh AR2H.out (by go_grown)) (by omega) (by omega)) (by go_grown) ?_; intro w2 r2 hB hb hz hz2 hr hs; have HR2 := Lib.hid hr; clear hr; (repeat (first | rewrite [World.size_alloc] at hz2 | rewrite [World.size_setCell] at hz2 | rewrite [World.size_drew] at hz2)); have c0 := fun o => Xy hb (w.heap.size) o (by go_size); clear hb))
  all_goals
    go_ret
    refine ⟨_, rfl, ?_, by go_grown⟩
    rw [HSZ.out]
    unfold szq
    (try have u1 := HR1.out)
    (try have u2 := HR2.out)
    (try unfold szq at *)
    go_light
    omega
set_option maxRecDepth 100000 in
set_option maxHeartbeats 1000000 in
theorem szVersion_c (w : World) (ca : List Value) (a : VersionD) (left : Int) (ha : rd w ca a) (h0 : 0 ≤ left) (h1 : left ≤ 1048576) : Calls Tryz.prog 116 #[.agg ca.toArray, .int .i64 left] w (RetSz w (GoD.size a) left) := by
  obtain ⟨a1, a2, a3⟩ := a
  obtain ⟨ac1, at1, rfl, ar1, ac2, at2, rfl, ar2, ar3⟩ := ha
  obtain ⟨rfl, ar1⟩ := ar1
  obtain ⟨ax2_0, ax2_1, ax2_2, ax2_3, rfl⟩ := len4 (show _ = 4 from GoD.rd_len ar2)
  obtain ⟨rfl, ar3⟩ := ar3
  dsimp only [List.cons_append, List.nil_append] at *
  clear ar1
  have AR2H := Lib.hid ar2; clear ar2
  clear ar3
  have tok1 : True := trivial
  have hsz : GoD.size (a1, a2, a3) = (0 + (GoD.size a2 + 0)) := rfl
  have HSZ := Lib.hid hsz; clear hsz
  go_enter Tryz.func116, Tryz.ntmps116
  go_wp2_with (first | (go_at_call 159; have tk := tok1; clear tok1; refine Jm (w := w) (szSnapshot_c _ [ax2_0, ax2_1, ax2_2, ax2_3] a2 _ (Qh AR2H.out (by go_grown)) (by omega) (by omega)) (by go_grown) ?_; intro w1 r1 hB hb hz hz2 hr hs; have HR1 := Lib.hid hr; clear hr; (repeat (first | rewrite [World.size_alloc] at hz2 | rewrite [World.size_setCell] at hz2 | rewrite [World.size_drew] at hz2)); have c0 := fun o => Xy hb (w.heap.size) o (by go_size); clear hb))
  all_goals
    go_ret
    refine ⟨_, rfl, ?_, by go_grown⟩
    rw [HSZ.out]
    unfold szq
    (try have u1 := HR1.out)
    (try unfold szq at *)
    go_light
    omega
set_option maxRecDepth 100000 in
set_option maxHeartbeats 1000000 in
theorem szVersionS_c (w : World) (v : Value) (l : List VersionD) (left : Int) (ha : rd w [v] l) (h0 : 0 ≤ left) (h1 : left ≤ 1048576) : Calls Tryz.prog 69 #[v, .int .i64 left] w (RetSz w (GoD.size l) left) := by
  obtain ⟨oa, cap, e1, hl, hm, hel⟩ := ha
  obtain rfl : v = _ := by simpa using e1
  clear e1
  have HE := Lib.hid hel; clear hel
  unfold maxLen at hm
  have hlm : l.length ≤ 9223372036854775807 := by omega
  have hsz : GoD.size l = l.length + (l.map GoD.size).sum := rfl
  have HSZ := Lib.hid hsz; clear hsz
  by_cases hneg : left - l.length < 0
  · go_enter Tryz.func69, Tryz.ntmps69
    go_wp2
    go_ret
    refine ⟨_, rfl, ?_, Below.refl _ _⟩
    rw [HSZ.out]
    unfold szq
    omega
  · go_enter Tryz.func69, Tryz.ntmps69
    go_wp2
    go_loopw [1, 5] (fun q i wr => ∃ (k : Nat) (r : Int), k ≤ l.length ∧ i = .int .i64 k ∧ q = .int .i64 r ∧ 0 ≤ r ∧ r ≤ 1048576 ∧ Hid (r = left - l.length - ((l.take k).map GoD.size).sum) ∧ Below w.heap.size w wr) (fun _ i _ => l.length - (intOf i).toNat)
    case atStart => exact ⟨0, _, Nat.zero_le _, rfl, rfl, by omega, by omega, by show _ = _; simp, Below.refl _ _⟩
    case round =>
      obtain ⟨k, r, hk, rfl, rfl, hr0, hr1, HR, hB⟩ := hrel
      by_cases hkl : k < l.length
      · have hx := List.getElem?_eq_getElem hkl
        obtain ⟨eb, eo, ee, rfl, hcl, hcc, hxr⟩ := HE.out k _ hx
        have HT := Lib.hid (sum_take hx)
        have HU := Lib.hid (sum_take_le hx)
        clear hx
        generalize l[k] = x at *
        obtain ⟨x0, x1, x2, x3, x4, x5, rfl⟩ := len6 (show _ = 6 from hcl)
        have p0 : wr.cell? ⟨eb, eo + k * 6, none⟩ = some x0 := (hB.cell (World.block_lt_of_cell? w _ (hcc 0 _ rfl))).trans (hcc 0 _ rfl)
        have p1 : wr.cell? ⟨eb, eo + k * 6 + 1, none⟩ = some x1 := (hB.cell (World.block_lt_of_cell? w _ (hcc 1 _ rfl))).trans (hcc 1 _ rfl)
        have p2 : wr.cell? ⟨eb, eo + k * 6 + 2, none⟩ = some x2 := (hB.cell (World.block_lt_of_cell? w _ (hcc 2 _ rfl))).trans (hcc 2 _ rfl)
        have p3 : wr.cell? ⟨eb, eo + k * 6 + 3, none⟩ = some x3 := (hB.cell (World.block_lt_of_cell? w _ (hcc 3 _ rfl))).trans (hcc 3 _ rfl)
        have p4 : wr.cell? ⟨eb, eo + k * 6 + 4, none⟩ = some x4 := (hB.cell (World.block_lt_of_cell? w _ (hcc 4 _ rfl))).trans (hcc 4 _ rfl)
        have p5 : wr.cell? ⟨eb, eo + k * 6 + 5, none⟩ = some x5 := (hB.cell (World.block_lt_of_cell? w _ (hcc 5 _ rfl))).trans (hcc 5 _ rfl)
        have HXR := Lib.hid hxr; clear hxr hcc hcl
        go_wp2_with (go_at_call 116; refine Jm (w := w) (szVersion_c _ [x0, x1, x2, x3, x4, x5] x _ (Qh HXR.out hB) (by omega) (by omega)) (by go_grown) ?_; intro w2 r2 hB2 hb hz hz2 hr2 hs; have HR2 := Lib.hid hr2; clear hr2 hb)
        · go_ret
          refine ⟨_, rfl, ?_, by go_grown⟩
          have u1 := HU.out; have u2 := HR2.out; have u3 := HR.out
          rw [HSZ.out]
          unfold szq at *
          go_light
          omega
        · go_roundw
          case rel => exact ⟨k + 1, _, by omega, by go_num, rfl, by omega, by omega, by
          show _ = _
          have u1 := HT.out; have u2 := HR2.out; have u3 := HR.out
          unfold szq at *
          rw [u1]
          omega, by go_grown⟩
          case measure => simp [intOf]; omega
      · obtain rfl : k = l.length := by omega
        go_wp2
        go_ret
        refine ⟨_, rfl, ?_, hB⟩
        have u3 := HR.out
        rw [List.take_length] at u3
        rw [HSZ.out]
        unfold szq
        omega
set_option maxRecDepth 100000 in
set_option maxHeartbeats 1000000 in
theorem szIntS_c (w : World) (v : Value) (l : List Int) (left : Int) (ha : rd w [v] l) (h0 : 0 ≤ left) (h1 : left ≤ 1048576) : Calls Tryz.prog 57 #[v, .int .i64 left] w (RetSz w (GoD.size l) left) := by
  obtain ⟨oa, cap, e1, hl, hm, hel⟩ := ha
  obtain rfl : v = _ := by simpa using e1
  clear e1
  have HE := Lib.hid hel; clear hel
  unfold maxLen at hm
  have hlm : l.length ≤ 9223372036854775807 := by omega
  have hsz : GoD.size l = l.length + (l.map GoD.size).sum := rfl
  have HSZ := Lib.hid hsz; clear hsz
  have hz0 : (l.map GoD.size).sum = 0 := sum_zero l (fun _ => rfl)
  have HZ0 := Lib.hid hz0; clear hz0
  go_enter Tryz.func57, Tryz.ntmps57
  go_wp2
  all_goals
    go_ret
    refine ⟨_, rfl, ?_, by go_grown⟩
    rw [HSZ.out, HZ0.out]
    unfold szq
    go_light
    omega
set_option maxRecDepth 100000 in
set_option maxHeartbeats 1000000 in
theorem szEvent_c (w : World) (ca : List Value) (a : Zs) (left : Int) (ha : rd w ca a) (h0 : 0 ≤ left) (h1 : left ≤ 1048576) : Calls Tryz.prog 106 #[.agg ca.toArray, .int .i64 left] w (RetSz w (GoD.size a) left) := by
  obtain ⟨a1, a2, a3⟩ := a
  obtain ⟨ac1, at1, rfl, ar1, ac2, at2, rfl, ar2, ar3⟩ := ha
  obtain ⟨rfl, ar1⟩ := ar1
  obtain ⟨ax2_0, rfl⟩ := len1 (show _ = 1 from GoD.rd_len ar2)
  obtain ⟨ax3_0, rfl⟩ := len1 (show _ = 1 from GoD.rd_len ar3)
  dsimp only [List.cons_append, List.nil_append] at *
  clear ar1
  have AR2H := Lib.hid ar2; clear ar2
  have AR3H := Lib.hid ar3; clear ar3
  have tok1 : True := trivial
  have tok2 : True := trivial
  have hsz : GoD.size (a1, a2, a3) = (0 + (GoD.size a2 + GoD.size a3)) := rfl
  have HSZ := Lib.hid hsz; clear hsz
  go_enter Tryz.func106, Tryz.ntmps106
  go_wp2_with (first | (go_at_call 57; have tk := tok1; clear tok1; refine Jm (w := w) (szIntS_c _ ax2_0 a2 _ (Qh AR2H.out (by go_grown)) (by omega) (by omega)) (by go_grown) ?_; intro w1 r1 hB hb hz hz2 hr hs; have HR1 := Lib.hid hr; clear hr; (repeat (first | rewrite [World.size_alloc] at hz2 | rewrite [World.size_setCell] at hz2 | rewrite [World.size_drew] at hz2)); have c0 := fun o => Xy hb (w.heap.size) o (by go_size); clear hb) | (go_at_call 57; have tk := tok2; clear tok2; refine Jm (w := w) (szIntS_c _ ax3_0 a3 _ (Qh AR3H.out (by go_grown)) (by omega) (by omega)) (by go_grown) ?_; intro w2 r2 hB hb hz hz2 hr hs; have HR2 := Lib.hid hr; clear hr; (repeat (first | rewrite [World.size_alloc] at hz2 | rewrite [World.size_setCell] at hz2 | rewrite [World.size_drew] at hz2)); have c0 := fun o => Xy hb (w.heap.size) o (by go_size); clear hb))
  all_goals
    go_ret
    refine ⟨_, rfl, ?_, by go_grown⟩
    rw [HSZ.out]
    unfold szq
    (try have u1 := HR1.out)
    (try have u2 := HR2.out)
    (try unfold szq at *)
    go_light
    omega
set_option maxRecDepth 100000 in
set_option maxHeartbeats 1000000 in
theorem szEventS_c (w : World) (v : Value) (l : List Zs) (left : Int) (ha : rd w [v] l) (h0 : 0 ≤ left) (h1 : left ≤ 1048576) : Calls Tryz.prog 58 #[v, .int .i64 left] w (RetSz w (GoD.size l) left) := by
  obtain ⟨oa, cap, e1, hl, hm, hel⟩ := ha
  obtain rfl : v = _ := by simpa using e1
  clear e1
  have HE := Lib.hid hel; clear hel
  unfold maxLen at hm
  have hlm : l.length ≤ 9223372036854775807 := by omega
  have hsz : GoD.size l = l.length + (l.map GoD.size).sum := rfl
  have HSZ := Lib.hid hsz; clear hsz
  by_cases hneg : left - l.length < 0
  · go_enter Tryz.func58, Tryz.ntmps58
    go_wp2
    go_ret
    refine ⟨_, rfl, ?_, Below.refl _ _⟩
    rw [HSZ.out]
    unfold szq
    omega
  · go_enter Tryz.func58, Tryz.ntmps58
    go_wp2
    go_loopw [1, 5] (fun q i wr => ∃ (k : Nat) (r : Int), k ≤ l.length ∧ i = .int .i64 k ∧ q = .int .i64 r ∧ 0 ≤ r ∧ r ≤ 1048576 ∧ Hid (r = left - l.length - ((l.take k).map GoD.size).sum) ∧ Below w.heap.size w wr) (fun _ i _ => l.length - (intOf i).toNat)
    case atStart => exact ⟨0, _, Nat.zero_le _, rfl, rfl, by omega, by omega, by show _ = _; simp, Below.refl _ _⟩
    case round =>
      obtain ⟨k, r, hk, rfl, rfl, hr0, hr1, HR, hB⟩ := hrel
      by_cases hkl : k < l.length
      · have hx := List.getElem?_eq_getElem hkl
        obtain ⟨eb, eo, ee, rfl, hcl, hcc, hxr⟩ := HE.out k _ hx
        have HT := Lib.hid (sum_take hx)
        have HU := Lib.hid (sum_take_le hx)
        clear hx
        generalize l[k] = x at *
        obtain ⟨x0, x1, x2, rfl⟩ := len3 (show _ = 3 from hcl)
        have p0 : wr.cell? ⟨eb, eo + k * 3, none⟩ = some x0 := (hB.cell (World.block_lt_of_cell? w _ (hcc 0 _ rfl))).trans (hcc 0 _ rfl)
        have p1 : wr.cell? ⟨eb, eo + k * 3 + 1, none⟩ = some x1 := (hB.cell (World.block_lt_of_cell? w _ (hcc 1 _ rfl))).trans (hcc 1 _ rfl)
        have p2 : wr.cell? ⟨eb, eo + k * 3 + 2, none⟩ = some x2 := (hB.cell (World.block_lt_of_cell? w _ (hcc 2 _ rfl))).trans (hcc 2 _ rfl)
        have HXR := Lib.hid hxr; clear hxr hcc hcl
        go_wp2_with (go_at_call 106; refine Jm (w := w) (szEvent_c _ [x0, x1, x2] x _ (Qh HXR.out hB) (by omega) (by omega)) (by go_grown) ?_; intro w2 r2 hB2 hb hz hz2 hr2 hs; have HR2 := Lib.hid hr2; clear hr2 hb)
        · go_ret
          refine ⟨_, rfl, ?_, by go_grown⟩
          have u1 := HU.out; have u2 := HR2.out; have u3 := HR.out
          rw [HSZ.out]
          unfold szq at *
          go_light
          omega
        · go_roundw
          case rel => exact ⟨k + 1, _, by omega, by go_num, rfl, by omega, by omega, by
          show _ = _
          have u1 := HT.out; have u2 := HR2.out; have u3 := HR.out
          unfold szq at *
          rw [u1]
          omega, by go_grown⟩
          case measure => simp [intOf]; omega
      · obtain rfl : k = l.length := by omega
        go_wp2
        go_ret
        refine ⟨_, rfl, ?_, hB⟩
        have u3 := HR.out
        rw [List.take_length] at u3
        rw [HSZ.out]
        unfold szq
        omega
set_option maxRecDepth 100000 in
set_option maxHeartbeats 1000000 in
theorem szWatch_c (w : World) (ca : List Value) (a : WatchD) (left : Int) (ha : rd w ca a) (h0 : 0 ≤ left) (h1 : left ≤ 1048576) : Calls Tryz.prog 25 #[.agg ca.toArray, .int .i64 left] w (RetSz w (GoD.size a) left) := by
  obtain ⟨a1, a2, a3, a4⟩ := a
  obtain ⟨ac1, at1, rfl, ar1, ac2, at2, rfl, ar2, ac3, at3, rfl, ar3, ar4⟩ := ha
  obtain ⟨rfl, ar1⟩ := ar1
  obtain ⟨rfl, ar2⟩ := ar2
  obtain ⟨ax3_0, rfl⟩ := len1 (show _ = 1 from GoD.rd_len ar3)
  obtain ⟨ax4_0, rfl⟩ := len1 (show _ = 1 from GoD.rd_len ar4)
  dsimp only [List.cons_append, List.nil_append] at *
  clear ar1
  unfold maxLen at ar2
  have ar2 : a2.size ≤ 9223372036854775807 := by omega
  have AR3H := Lib.hid ar3; clear ar3
  have AR4H := Lib.hid ar4; clear ar4
  have tok1 : True := trivial
  have tok2 : True := trivial
  have hsz : GoD.size (a1, a2, a3, a4) = (0 + (a2.size + (GoD.size a3 + GoD.size a4))) := rfl
  have HSZ := Lib.hid hsz; clear hsz
  go_enter Tryz.func25, Tryz.ntmps25
  go_wp2_with (first | (go_at_call 57; have tk := tok1; clear tok1; refine Jm (w := w) (szIntS_c _ ax3_0 a3 _ (Qh AR3H.out (by go_grown)) (by omega) (by omega)) (by go_grown) ?_; intro w1 r1 hB hb hz hz2 hr hs; have HR1 := Lib.hid hr; clear hr; (repeat (first | rewrite [World.size_alloc] at hz2 | rewrite [World.size_setCell] at hz2 | rewrite [World.size_drew] at hz2)); have c0 := fun o => Xy hb (w.heap.size) o (by go_size); clear hb) | (go_at_call 58; have tk := tok2; clear tok2; refine Jm (w := w) (szEventS_c _ ax4_0 a4 _ (Qh AR4H.out (by go_grown)) (by omega) (by omega)) (by go_grown) ?_; intro w2 r2 hB hb hz hz2 hr hs; have HR2 := Lib.hid hr; clear hr; (repeat (first | rewrite [World.size_alloc] at hz2 | rewrite [World.size_setCell] at hz2 | rewrite [World.size_drew] at hz2)); have c0 := fun o => Xy hb (w.heap.size) o (by go_size); clear hb))
  all_goals
    go_ret
    refine ⟨_, rfl, ?_, by go_grown⟩
    rw [HSZ.out]
    unfold szq
    (try have u1 := HR1.out)
    (try have u2 := HR2.out)
    (try unfold szq at *)
    go_light
    omega
set_option maxRecDepth 100000 in
set_option maxHeartbeats 1000000 in
theorem szWatchS_c (w : World) (v : Value) (l : List WatchD) (left : Int) (ha : rd w [v] l) (h0 : 0 ≤ left) (h1 : left ≤ 1048576) : Calls Tryz.prog 70 #[v, .int .i64 left] w (RetSz w (GoD.size l) left) := by
  obtain ⟨oa, cap, e1, hl, hm, hel⟩ := ha
  obtain rfl : v = _ := by simpa using e1
  clear e1
  have HE := Lib.hid hel; clear hel
  unfold maxLen at hm
  have hlm : l.length ≤ 9223372036854775807 := by omega
  have hsz : GoD.size l = l.length + (l.map GoD.size).sum := rfl
  have HSZ := Lib.hid hsz; clear hsz
  by_cases hneg : left - l.length < 0
  · go_enter Tryz.func70, Tryz.ntmps70
    go_wp2
    go_ret
    refine ⟨_, rfl, ?_, Below.refl _ _⟩
    rw [HSZ.out]
    unfold szq
    omega
  · go_enter Tryz.func70, Tryz.ntmps70
    go_wp2
    go_loopw [1, 5] (fun q i wr => ∃ (k : Nat) (r : Int), k ≤ l.length ∧ i = .int .i64 k ∧ q = .int .i64 r ∧ 0 ≤ r ∧ r ≤ 1048576 ∧ Hid (r = left - l.length - ((l.take k).map GoD.size).sum) ∧ Below w.heap.size w wr) (fun _ i _ => l.length - (intOf i).toNat)
    case atStart => exact ⟨0, _, Nat.zero_le _, rfl, rfl, by omega, by omega, by show _ = _; simp, Below.refl _ _⟩
    case round =>
      obtain ⟨k, r, hk, rfl, rfl, hr0, hr1, HR, hB⟩ := hrel
      by_cases hkl : k < l.length
      · have hx := List.getElem?_eq_getElem hkl
        obtain ⟨eb, eo, ee, rfl, hcl, hcc, hxr⟩ := HE.out k _ hx
        have HT := Lib.hid (sum_take hx)
        have HU := Lib.hid (sum_take_le hx)
        clear hx
        generalize l[k] = x at *
        obtain ⟨x0, x1, x2, x3, rfl⟩ := len4 (show _ = 4 from hcl)
        have p0 : wr.cell? ⟨eb, eo + k * 4, none⟩ = some x0 := (hB.cell (World.block_lt_of_cell? w _ (hcc 0 _ rfl))).trans (hcc 0 _ rfl)
        have p1 : wr.cell? ⟨eb, eo + k * 4 + 1, none⟩ = some x1 := (hB.cell (World.block_lt_of_cell? w _ (hcc 1 _ rfl))).trans (hcc 1 _ rfl)
        have p2 : wr.cell? ⟨eb, eo + k * 4 + 2, none⟩ = some x2 := (hB.cell (World.block_lt_of_cell? w _ (hcc 2 _ rfl))).trans (hcc 2 _ rfl)
        have p3 : wr.cell? ⟨eb, eo + k * 4 + 3, none⟩ = some x3 := (hB.cell (World.block_lt_of_cell? w _ (hcc 3 _ rfl))).trans (hcc 3 _ rfl)
        have HXR := Lib.hid hxr; clear hxr hcc hcl
        go_wp2_with (go_at_call 25; refine Jm (w := w) (szWatch_c _ [x0, x1, x2, x3] x _ (Qh HXR.out hB) (by omega) (by omega)) (by go_grown) ?_; intro w2 r2 hB2 hb hz hz2 hr2 hs; have HR2 := Lib.hid hr2; clear hr2 hb)
        · go_ret
          refine ⟨_, rfl, ?_, by go_grown⟩
          have u1 := HU.out; have u2 := HR2.out; have u3 := HR.out
          rw [HSZ.out]
          unfold szq at *
          go_light
          omega
        · go_roundw
          case rel => exact ⟨k + 1, _, by omega, by go_num, rfl, by omega, by omega, by
          show _ = _
          have u1 := HT.out; have u2 := HR2.out; have u3 := HR.out
          unfold szq at *
          rw [u1]
          omega, by go_grown⟩
          case measure => simp [intOf]; omega
      · obtain rfl : k = l.length := by omega
        go_wp2
        go_ret
        refine ⟨_, rfl, ?_, hB⟩
        have u3 := HR.out
        rw [List.take_length] at u3
        rw [HSZ.out]
        unfold szq
        omega
set_option maxRecDepth 100000 in
set_option maxHeartbeats 1000000 in
theorem szResult_c (w : World) (ca : List Value) (a : Qi) (left : Int) (ha : rd w ca a) (h0 : 0 ≤ left) (h1 : left ≤ 1048576) : Calls Tryz.prog 158 #[.agg ca.toArray, .int .i64 left] w (RetSz w (GoD.size a) left) := by
  obtain ⟨a1, a2⟩ := a
  obtain ⟨ac1, at1, rfl, ar1, ar2⟩ := ha
  obtain ⟨rfl, ar1⟩ := ar1
  obtain ⟨ax2_0, rfl⟩ := len1 (show _ = 1 from GoD.rd_len ar2)
  dsimp only [List.cons_append, List.nil_append] at *
  unfold maxLen at ar1
  have ar1 : a1.size ≤ 9223372036854775807 := by omega
  have AR2H := Lib.hid ar2; clear ar2
  have tok1 : True := trivial
  have hsz : GoD.size (a1, a2) = (a1.size + GoD.size a2) := rfl
  have HSZ := Lib.hid hsz; clear hsz
  go_enter Tryz.func158, Tryz.ntmps158
  go_wp2_with (first | (go_at_call 57; have tk := tok1; clear tok1; refine Jm (w := w) (szIntS_c _ ax2_0 a2 _ (Qh AR2H.out (by go_grown)) (by omega) (by omega)) (by go_grown) ?_; intro w1 r1 hB hb hz hz2 hr hs; have HR1 := Lib.hid hr; clear hr; (repeat (first | rewrite [World.size_alloc] at hz2 | rewrite [World.size_setCell] at hz2 | rewrite [World.size_drew] at hz2)); have c0 := fun o => Xy hb (w.heap.size) o (by go_size); clear hb))
  all_goals
    go_ret
    refine ⟨_, rfl, ?_, by go_grown⟩
    rw [HSZ.out]
    unfold szq
    (try have u1 := HR1.out)
    (try unfold szq at *)
    go_light
    omega
set_option maxRecDepth 100000 in
set_option maxHeartbeats 1000000 in
theorem szResultS_c (w : World) (v : Value) (l : List Qi) (left : Int) (ha : rd w [v] l) (h0 : 0 ≤ left) (h1 : left ≤ 1048576) : Calls Tryz.prog 115 #[v, .int .i64 left] w (RetSz w (GoD.size l) left) := by
  obtain ⟨oa, cap, e1, hl, hm, hel⟩ := ha
  obtain rfl : v = _ := by simpa using e1
  clear e1
  have HE := Lib.hid hel; clear hel
  unfold maxLen at hm
  have hlm : l.length ≤ 9223372036854775807 := by omega
  have hsz : GoD.size l = l.length + (l.map GoD.size).sum := rfl
  have HSZ := Lib.hid hsz; clear hsz
  by_cases hneg : left - l.length < 0
  · go_enter Tryz.func115, Tryz.ntmps115
    go_wp2
    go_ret
    refine ⟨_, rfl, ?_, Below.refl _ _⟩
    rw [HSZ.out]
    unfold szq
    omega
  · go_enter Tryz.func115, Tryz.ntmps115
    go_wp2
    go_loopw [1, 5] (fun q i wr => ∃ (k : Nat) (r : Int), k ≤ l.length ∧ i = .int .i64 k ∧ q = .int .i64 r ∧ 0 ≤ r ∧ r ≤ 1048576 ∧ Hid (r = left - l.length - ((l.take k).map GoD.size).sum) ∧ Below w.heap.size w wr) (fun _ i _ => l.length - (intOf i).toNat)
    case atStart => exact ⟨0, _, Nat.zero_le _, rfl, rfl, by omega, by omega, by show _ = _; simp, Below.refl _ _⟩
    case round =>
      obtain ⟨k, r, hk, rfl, rfl, hr0, hr1, HR, hB⟩ := hrel
      by_cases hkl : k < l.length
      · have hx := List.getElem?_eq_getElem hkl
        obtain ⟨eb, eo, ee, rfl, hcl, hcc, hxr⟩ := HE.out k _ hx
        have HT := Lib.hid (sum_take hx)
        have HU := Lib.hid (sum_take_le hx)
        clear hx
        generalize l[k] = x at *
        obtain ⟨x0, x1, rfl⟩ := len2 (show _ = 2 from hcl)
        have p0 : wr.cell? ⟨eb, eo + k * 2, none⟩ = some x0 := (hB.cell (World.block_lt_of_cell? w _ (hcc 0 _ rfl))).trans (hcc 0 _ rfl)
        have p1 : wr.cell? ⟨eb, eo + k * 2 + 1, none⟩ = some x1 := (hB.cell (World.block_lt_of_cell? w _ (hcc 1 _ rfl))).trans (hcc 1 _ rfl)
        have HXR := Lib.hid hxr; clear hxr hcc hcl
        go_wp2_with (go_at_call 158; refine Jm (w := w) (szResult_c _ [x0, x1] x _ (Qh HXR.out hB) (by omega) (by omega)) (by go_grown) ?_; intro w2 r2 hB2 hb hz hz2 hr2 hs; have HR2 := Lib.hid hr2; clear hr2 hb)
        · go_ret
          refine ⟨_, rfl, ?_, by go_grown⟩
          have u1 := HU.out; have u2 := HR2.out; have u3 := HR.out
          rw [HSZ.out]
          unfold szq at *
          go_light
          omega
        · go_roundw
          case rel => exact ⟨k + 1, _, by omega, by go_num, rfl, by omega, by omega, by
          show _ = _
          have u1 := HT.out; have u2 := HR2.out; have u3 := HR.out
          unfold szq at *
          rw [u1]
          omega, by go_grown⟩
          case measure => simp [intOf]; omega
      · obtain rfl : k = l.length := by omega
        go_wp2
        go_ret
        refine ⟨_, rfl, ?_, hB⟩
        have u3 := HR.out
        rw [List.take_length] at u3
        rw [HSZ.out]
        unfold szq
        omega
set_option maxRecDepth 100000 in
set_option maxHeartbeats 1000000 in
theorem szCatalog_c (w : World) (ca : List Value) (a : CatalogD) (left : Int) (ha : rd w ca a) (h0 : 0 ≤ left) (h1 : left ≤ 1048576) : Calls Tryz.prog 67 #[.agg ca.toArray, .int .i64 left] w (RetSz w (GoD.size a) left) := by
  obtain ⟨a1, a2, a3⟩ := a
  obtain ⟨ac1, at1, rfl, ar1, ac2, at2, rfl, ar2, ar3⟩ := ha
  obtain ⟨ax1_0, ax1_1, ax1_2, rfl⟩ := len3 (show _ = 3 from GoD.rd_len ar1)
  obtain ⟨ax2_0, rfl⟩ := len1 (show _ = 1 from GoD.rd_len ar2)
  obtain ⟨ax3_0, rfl⟩ := len1 (show _ = 1 from GoD.rd_len ar3)
  dsimp only [List.cons_append, List.nil_append] at *
  have AR1H := Lib.hid ar1; clear ar1
  have AR2H := Lib.hid ar2; clear ar2
  have AR3H := Lib.hid ar3; clear ar3
  have tok1 : True := trivial
  have tok2 : True := trivial
  have tok3 : True := trivial
  have hsz : GoD.size (a1, a2, a3) = (GoD.size a1 + (GoD.size a2 + GoD.size a3)) := rfl
  have HSZ := Lib.hid hsz; clear hsz
  go_enter Tryz.func67, Tryz.ntmps67
  go_wp2_with (first | (go_at_call 7; have tk := tok1; clear tok1; refine Jm (w := w) (szStore_c _ [ax1_0, ax1_1, ax1_2] a1 _ (Qh AR1H.out (by go_grown)) (by omega) (by omega)) (by go_grown) ?_; intro w1 r1 hB hb hz hz2 hr hs; have HR1 := Lib.hid hr; clear hr; (repeat (first | rewrite [World.size_alloc] at hz2 | rewrite [World.size_setCell] at hz2 | rewrite [World.size_drew] at hz2)); have c0 := fun o => Xy hb (w.heap.size) o (by go_size); clear hb) | (go_at_call 8; have tk := tok2; clear tok2; refine Jm (w := w) (szDirS_c _ ax2_0 a2 _ (Qh AR2H.out (by go_grown)) (by omega) (by omega)) (by go_grown) ?_; intro w2 r2 hB hb hz hz2 hr hs; have HR2 := Lib.hid hr; clear hr; (repeat (first | rewrite [World.size_alloc] at hz2 | rewrite [World.size_setCell] at hz2 | rewrite [World.size_drew] at hz2)); have c0 := fun o => Xy hb (w.heap.size) o (by go_size); clear hb) | (go_at_call 115; have tk := tok3; clear tok3; refine Jm (w := w) (szResultS_c _ ax3_0 a3 _ (Qh AR3H.out (by go_grown)) (by omega) (by omega)) (by go_grown) ?_; intro w3 r3 hB hb hz hz2 hr hs; have HR3 := Lib.hid hr; clear hr; (repeat (first | rewrite [World.size_alloc] at hz2 | rewrite [World.size_setCell] at hz2 | rewrite [World.size_drew] at hz2)); have c0 := fun o => Xy hb (w.heap.size) o (by go_size); clear hb))
  all_goals
    go_ret
    refine ⟨_, rfl, ?_, by go_grown⟩
    rw [HSZ.out]
    unfold szq
    (try have u1 := HR1.out)
    (try have u2 := HR2.out)
    (try have u3 := HR3.out)
    (try unfold szq at *)
    go_light
    omega
set_option maxRecDepth 100000 in
set_option maxHeartbeats 1000000 in
theorem szDisk_c (w : World) (ca : List Value) (a : DiskD) (left : Int) (ha : rd w ca a) (h0 : 0 ≤ left) (h1 : left ≤ 1048576) : Calls Tryz.prog 68 #[.agg ca.toArray, .int .i64 left] w (RetSz w (GoD.size a) left) := by
  obtain ⟨a1, a2⟩ := a
  obtain ⟨ac1, at1, rfl, ar1, ar2⟩ := ha
  obtain ⟨rfl, ar1⟩ := ar1
  obtain ⟨rfl, ar2⟩ := ar2
  dsimp only [List.cons_append, List.nil_append] at *
  unfold maxLen at ar1
  have ar1 : a1.size ≤ 9223372036854775807 := by omega
  unfold maxLen at ar2
  have ar2 : a2.size ≤ 9223372036854775807 := by omega
  have hsz : GoD.size (a1, a2) = (a1.size + a2.size) := rfl
  have HSZ := Lib.hid hsz; clear hsz
  go_enter Tryz.func68, Tryz.ntmps68
  go_wp2
  all_goals
    go_ret
    refine ⟨_, rfl, ?_, by go_grown⟩
    rw [HSZ.out]
    unfold szq
    (try unfold szq at *)
    go_light
    omega
set_option maxRecDepth 100000 in
set_option maxHeartbeats 1000000 in
theorem szSystem_c (w : World) (ca : List Value) (a : Vo) (left : Int) (ha : rd w ca a) (h0 : 0 ≤ left) (h1 : left ≤ 1048576) : Calls Tryz.prog 29 #[.agg ca.toArray, .int .i64 left] w (RetSz w (GoD.size a) left) := by
  obtain ⟨a1, a2, a3, a4, a5, a6⟩ := a
  obtain ⟨ac1, at1, rfl, ar1, ac2, at2, rfl, ar2, ac3, at3, rfl, ar3, ac4, at4, rfl, ar4, ac5, at5, rfl, ar5, ar6⟩ := ha
  obtain ⟨ax1_0, ax1_1, ax1_2, ax1_3, ax1_4, rfl⟩ := len5 (show _ = 5 from GoD.rd_len ar1)
  obtain ⟨ax2_0, ax2_1, rfl⟩ := len2 (show _ = 2 from GoD.rd_len ar2)
  obtain ⟨rfl, ar3⟩ := ar3
  obtain ⟨ax4_0, rfl⟩ := len1 (show _ = 1 from GoD.rd_len ar4)
  obtain ⟨ax5_0, rfl⟩ := len1 (show _ = 1 from GoD.rd_len ar5)
  obtain ⟨ax6_0, rfl⟩ := len1 (show _ = 1 from GoD.rd_len ar6)
  dsimp only [List.cons_append, List.nil_append] at *
  have AR1H := Lib.hid ar1; clear ar1
  have AR2H := Lib.hid ar2; clear ar2
  clear ar3
  have AR4H := Lib.hid ar4; clear ar4
  have AR5H := Lib.hid ar5; clear ar5
  have AR6H := Lib.hid ar6; clear ar6
  have tok1 : True := trivial
  have tok2 : True := trivial
  have tok3 : True := trivial
  have tok4 : True := trivial
  have tok5 : True := trivial
  have hsz : GoD.size (a1, a2, a3, a4, a5, a6) = (GoD.size a1 + (GoD.size a2 + (0 + (GoD.size a4 + (GoD.size a5 + GoD.size a6))))) := rfl
  have HSZ := Lib.hid hsz; clear hsz
  go_enter Tryz.func29, Tryz.ntmps29
  go_wp2_with (first | (go_at_call 67; have tk := tok1; clear tok1; refine Jm (w := w) (szCatalog_c _ [ax1_0, ax1_1, ax1_2, ax1_3, ax1_4] a1 _ (Qh AR1H.out (by go_grown)) (by omega) (by omega)) (by go_grown) ?_; intro w1 r1 hB hb hz hz2 hr hs; have HR1 := Lib.hid hr; clear hr; (repeat (first | rewrite [World.size_alloc] at hz2 | rewrite [World.size_setCell] at hz2 | rewrite [World.size_drew] at hz2)); have c0 := fun o => Xy hb (w.heap.size) o (by go_size); clear hb) | (go_at_call 68; have tk := tok2; clear tok2; refine Jm (w := w) (szDisk_c _ [ax2_0, ax2_1] a2 _ (Qh AR2H.out (by go_grown)) (by omega) (by omega)) (by go_grown) ?_; intro w2 r2 hB hb hz hz2 hr hs; have HR2 := Lib.hid hr; clear hr; (repeat (first | rewrite [World.size_alloc] at hz2 | rewrite [World.size_setCell] at hz2 | rewrite [World.size_drew] at hz2)); have c0 := fun o => Xy hb (w.heap.size) o (by go_size); clear hb) | (go_at_call 69; have tk := tok3; clear tok3; refine Jm (w := w) (szVersionS_c _ ax4_0 a4 _ (Qh AR4H.out (by go_grown)) (by omega) (by omega)) (by go_grown) ?_; intro w3 r3 hB hb hz hz2 hr hs; have HR3 := Lib.hid hr; clear hr; (repeat (first | rewrite [World.size_alloc] at hz2 | rewrite [World.size_setCell] at hz2 | rewrite [World.size_drew] at hz2)); have c0 := fun o => Xy hb (w.heap.size) o (by go_size); clear hb) | (go_at_call 70; have tk := tok4; clear tok4; refine Jm (w := w) (szWatchS_c _ ax5_0 a5 _ (Qh AR5H.out (by go_grown)) (by omega) (by omega)) (by go_grown) ?_; intro w4 r4 hB hb hz hz2 hr hs; have HR4 := Lib.hid hr; clear hr; (repeat (first | rewrite [World.size_alloc] at hz2 | rewrite [World.size_setCell] at hz2 | rewrite [World.size_drew] at hz2)); have c0 := fun o => Xy hb (w.heap.size) o (by go_size); clear hb) | (go_at_call 57; have tk := tok5; clear tok5; refine Jm (w := w) (szIntS_c _ ax6_0 a6 _ (Qh AR6H.out (by go_grown)) (by omega) (by omega)) (by go_grown) ?_; intro w5 r5 hB hb hz hz2 hr hs; have HR5 := Lib.hid hr; clear hr; (repeat (first | rewrite [World.size_alloc] at hz2 | rewrite [World.size_setCell] at hz2 | rewrite [World.size_drew] at hz2)); have c0 := fun o => Xy hb (w.heap.size) o (by go_size); clear hb))
  all_goals
    go_ret
    refine ⟨_, rfl, ?_, by go_grown⟩
    rw [HSZ.out]
    unfold szq
    (try have u1 := HR1.out)
    (try have u2 := HR2.out)
    (try have u3 := HR3.out)
    (try have u4 := HR4.out)
    (try have u5 := HR5.out)
    (try unfold szq at *)
    go_light
    omega
end Go.Proofs.YtnhmnfmhnepjmaaGreat
