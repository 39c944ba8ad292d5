/- Texts of this proof, put together by a program: Eva, Evb, Eua, Eub, Lid, Rp, Lia, Ir, Is, Wo, Wa, Rpa, Rpb, Rpc, Rpd, Nfa, Nfb, Ma. -/
import Derived.Test.YtnhmnfmhnepjmaaGreatP5
import Derived.KernelRfl
import Derived.Lib.SlicesCompact
import Derived.Sort.Grow
import Derived.Test.YtnhmnfmhnepjmaaGreatProg
import Derived.Outline
import Derived.Lib.SliceRun
import Derived.Laws.IdiomStrings
set_option linter.unusedVariables false
set_option linter.unusedSimpArgs false
namespace Go.Proofs.YtnhmnfmhnepjmaaGreat
open Go.RowKit
open GoE (enc wide)
def Hf (_ : Nat) (a0 : Zh) (s0 : (List ByteArray)) : Rd ((List ByteArray)) ((List ByteArray)) ((List ByteArray)) := (.next (s0 ++ [a0.1]))
def Hg (_ : Nat) (s0 : (List ByteArray)) : (List ByteArray) := s0
def X1 (d : (List Zh)) : (List ByteArray) := (Out.on (Xk Hf Hg d 0 []) (fun y0 => y0))
theorem Qk8 (d : (List Zh)) : ACalls Tryz.prog 135 [.h d] (.o 0 (X1 d)) := by
 refine Qn (tt := tt) Qb Tryz.func135 (fn := Tryz.f135) rfl (by unfold Z7; kernel_rfl) (Nat.le_of_ble_eq_true rfl) fun w0 F0 => ?_
 refine Qa ?_
 refine rk Qb [(2, .e 0)] [] [] [] [] (o0) ?_
 refine Qa ?_
 refine rk Qb [(3, .one (.slc (.own true 384) 1 []))] [] [] [] [] (o0) ?_
 refine Qa ?_
 refine Qa ?_
 refine rk Qb [(7, .h d), (8, .i (d.length : Int)), (9, .i 0)] [0] [] [] [(1, .val (.i (d.length : Int)))] (o1 (Qf (Xc d))) ?_
 refine wdT 7 0 .sh d (fun hw1 => ?_)
 have hl2 : List.length d ≤ 1073741824 := Qp (hw1)
 refine blk (fun (k0 : Nat) (s0 : (List ByteArray)) => [(3, .o 147201 s0), (9, .i ((k0 : Nat) : Int))]) [3, 9] (fun k0 s0 => []) [] (fun (y0 : (List ByteArray)) => [(3, .o 147351 y0)]) [3, 7, 8, 9] (fun y0 => []) [] (fun (k0 : Nat) (s0 : (List ByteArray)) => (Xk Hf Hg d 0 []) = Xk Hf Hg (List.drop k0 d) k0 s0 ∧ List.length s0 ≤ k0) (fun (y0 : (List ByteArray)) => (Xk Hf Hg d 0 []) = .brk y0) d.length [] (Zg [(384, 147201)] (by kernel_rfl)) ⟨rfl, (by simp)⟩ (fun k0 s0 hk0 hI0 => ?_) (fun k0 s0 hk0 hI0 => ?_) (fun y0 hD0 => ?_)
 ·
  have hA0_0 := hI0.2
  obtain ⟨a0, hx0⟩ := X8 (l := d) (i := k0) hk0
  refine Qa ?_
  refine rk Qb [(10, .b true)] [] [] [] [(0, .val (.b true))] (o1 (Qf (Qg (decide_eq_true (p := ((k0 : Nat) : Int) < (d.length : Int)) (by omega))))) ?_
  refine Qa ?_
  refine ckT ?_
  refine Qh ?_
  refine Qa ?_
  refine Q4 ?_
  refine Qa ?_
  refine rk Qb [(5, .p 5 0)] [10] [(5, [.s a0.1, .h a0.2])] [] [(0, .row [.s a0.1, .h a0.2])] (o1 (Ql (Xl (i := ((k0 : Nat) : Int)) (by omega) rfl hx0))) ?_
  refine wdT 3 0 (.own true 147201) s0 (fun hw3 => ?_)
  have hl4 : List.length s0 ≤ 1073741824 := Qp (hw3)
  refine rk Qb [(3, .one (.slc (.own true 1088) 1 ((eL s0) ++ [[.s a0.1]])))] [3, 5] [] [5] [] (o1 (V8 (Wq (Xa s0) (Xa [a0.1]) (by first | omega | (simp; omega) | simp)))) ?_
  refine eqn [(3, .o 1088 (s0 ++ [a0.1]))] [3] [] [] (by rw [show ((eL s0) ++ [[.s a0.1]]) = (eL (s0 ++ [a0.1])) from Qaw (rfl) (rfl)]; first | done | kernel_rfl) ?_
  refine rk Qb [(9, .i ((k0 + 1 : Nat) : Int))] [9] [] [] [(0, .val (.i ((k0 + 1 : Nat) : Int)))] (o1 (Qf (Kw (Qs k0 (by omega))))) ?_
  exact Exists.intro (s0 ++ [a0.1]) (And.intro (Zg [(1088, 147201)] (by kernel_rfl)) ⟨Qw hx0 (rfl) hI0.1, by first | omega | (simp; omega) | simp⟩)
 ·
  have hA0_0 := hI0.2
  refine Qa ?_
  refine rk Qb [(10, .b false)] [] [] [] [(0, .val (.b false))] (o1 (Qf (Qg (decide_eq_false (p := ((k0 : Nat) : Int) < (d.length : Int)) (by omega))))) ?_
  refine Qa ?_
  refine ckF ?_
  refine Xj ?_
  exact Exists.intro s0 (And.intro (Zg [(147201, 147351)] (by kernel_rfl)) (X9 hk0 (rfl) hI0.1))
 ·
  refine Qa ?_
  refine rk Qb [(2, .o 147351 y0)] [2, 3] [] [] [] (o0) ?_
  refine Qi ?_
  exact Zb [] (congrArg (fun z => (.o 0 z : AV)) (show X1 d = y0 from Hk hD0 (rfl)).symm)
def Jg (v : ByteArray) (k0 : Nat) (a0 : ByteArray) (_ : Unit) : Rd (Int) (Unit) (Unit) := (bif (v.toList == a0.toList) then (.ret ((k0 : Nat) : Int)) else (.next ()))
def Ke (_ : Nat) (_ : Unit) : Unit := ()
def Ju (s_ : (List ByteArray)) (v : ByteArray) : Int := (Out.on (Xk (Jg v) Ke s_ 0 ()) (fun _ => -1))
theorem Qfb (s_ : (List ByteArray)) (v : ByteArray) : ACalls Tryz.prog 204 [.h s_, .s v] (.i (Ju s_ v)) := by
 refine Qn (tt := tt) Qb Tryz.func204 (fn := Tryz.f204) rfl (by unfold Z7; kernel_rfl) (Nat.le_of_ble_eq_true rfl) fun w0 F0 => ?_
 refine Qa ?_
 refine rk Qb [(4, .i 0)] [] [] [] [] (o0) ?_
 refine Qa ?_
 refine Qa ?_
 refine rk Qb [(7, .i (s_.length : Int)), (8, .i 0)] [] [] [] [(1, .val (.i (s_.length : Int)))] (o1 (Qf (Xc s_))) ?_
 refine wdT 0 0 .sh s_ (fun hw1 => ?_)
 have hl2 : List.length s_ ≤ 1073741824 := Qp (hw1)
 refine blk (fun (k0 : Nat) (s0 : Unit) => [(8, .i ((k0 : Nat) : Int))]) [8] (fun k0 s0 => []) [] (fun (y0 : Unit) => []) [0, 1, 7, 8] (fun y0 => []) [] (fun (k0 : Nat) (s0 : Unit) => (Xk (Jg v) Ke s_ 0 ()) = Xk (Jg v) Ke (List.drop k0 s_) k0 s0) (fun (y0 : Unit) => (Xk (Jg v) Ke s_ 0 ()) = .brk y0) s_.length () (Qc (by kernel_rfl)) rfl (fun k0 s0 hk0 hI0 => ?_) (fun k0 s0 hk0 hI0 => ?_) (fun y0 hD0 => ?_)
 ·
  obtain ⟨a0, hx0⟩ := X8 (l := s_) (i := k0) hk0
  refine Qa ?_
  refine rk Qb [(9, .b true)] [] [] [] [(0, .val (.b true))] (o1 (Qf (Qg (decide_eq_true (p := ((k0 : Nat) : Int) < (s_.length : Int)) (by omega))))) ?_
  refine Qa ?_
  refine ckT ?_
  refine Qh ?_
  refine Qa ?_
  refine Q4 ?_
  refine Qa ?_
  refine rk Qb [(5, .i ((k0 : Nat) : Int))] [9] [] [] [] (o0) ?_
  refine Qa ?_
  refine rk Qb [(16, .b (v.toList == a0.toList))] [] [] [] [(3, .row [.s a0])] (o1 (Ql (Xl (i := ((k0 : Nat) : Int)) (by omega) rfl hx0))) ?_
  refine ck (v.toList == a0.toList) (fun h3 => ?_) (fun h3 => ?_)
  ·
   refine Qa ?_
   refine rk Qb [(4, .i ((k0 : Nat) : Int))] [4, 5, 16] [] [] [] (o0) ?_
   refine Qi ?_
   have hr4 : (Xk (Jg v) Ke s_ 0 ()) = .ret ((k0 : Nat) : Int) := Jq hx0 (Yf h3 (rfl)) hI0
   exact Zb [] (congrArg (fun z => (.i z : AV)) (show Ju s_ v = ((k0 : Nat) : Int) from Qgl hr4).symm)
  ·
   refine Qh ?_
   refine rk Qb [(8, .i ((k0 + 1 : Nat) : Int))] [5, 8, 16] [] [] [(0, .val (.i ((k0 + 1 : Nat) : Int)))] (o1 (Qf (Kw (Qs k0 (by omega))))) ?_
   exact Exists.intro () (And.intro (Qc (by kernel_rfl)) (Qw hx0 (Qv h3 (rfl)) hI0))
 ·
  refine Qa ?_
  refine rk Qb [(9, .b false)] [] [] [] [(0, .val (.b false))] (o1 (Qf (Qg (decide_eq_false (p := ((k0 : Nat) : Int) < (s_.length : Int)) (by omega))))) ?_
  refine Qa ?_
  refine ckF ?_
  refine Xj ?_
  exact Exists.intro () (And.intro (Qc (by kernel_rfl)) (X9 hk0 (rfl) hI0))
 ·
  refine Qa ?_
  refine rk Qb [(4, .i (-1))] [4] [] [] [] (o0) ?_
  refine Qi ?_
  exact Zb [] (congrArg (fun z => (.i z : AV)) (show Ju s_ v = -1 from Hk hD0 (rfl)).symm)
def Q6 (s_ : (List ByteArray)) (v : ByteArray) : Bool := decide ((Ju s_ v) ≥ (0 : Int))
theorem Qa8 (s_ : (List ByteArray)) (v : ByteArray) : ACalls Tryz.prog 176 [.h s_, .s v] (.b (Q6 s_ v)) := by
 refine Qn (tt := tt) Qb Tryz.func176 (fn := Tryz.f176) rfl (by unfold Z7; kernel_rfl) (Nat.le_of_ble_eq_true rfl) fun w0 F0 => ?_
 refine Qa ?_
 refine rk Qb [(4, .b false)] [] [] [] [] (o0) ?_
 refine Qa ?_
 refine rk Qb [(4, .b (decide ((Ju s_ v) ≥ (0 : Int))))] [0, 1, 4] [] [] [(2, .val (.i (Ju s_ v)))] (o1 (Qe (Qfb s_ v))) ?_
 refine Qi ?_
 exact Zb [] (congrArg (fun z => (.b z : AV)) (show Q6 s_ v = decide ((Ju s_ v) ≥ (0 : Int)) from rfl).symm)
def Kz (x : (List Int)) (k0 : Nat) (s0 : Int) : Rd (Int) (Int) (Int) := (.next (max s0 (nth x (k0 + 1))))
def Wr (_ : Nat) (s0 : Int) : Int := s0
def W3 (x : (List Int)) : Int := (Out.on (U5 (Kz x) Wr (x.length - 1) 0 (nth x 0)) (fun y0 => y0))
theorem Qkp (x : (List Int)) (hp : 0 < x.length) : ACalls Tryz.prog 205 [.h x] (.i (W3 x)) := by
 refine Qn (tt := tt) Qb Tryz.func205 (fn := Tryz.f205) rfl (by unfold Z7; kernel_rfl) (Nat.le_of_ble_eq_true rfl) fun w0 F0 => ?_
 refine Qa ?_
 refine rk Qb [(2, .i 0)] [] [] [] [] (o0) ?_
 refine Qa ?_
 refine Qa ?_
 refine rk Qb [(7, .b false)] [] [] [] [(1, .val (.i (x.length : Int))), (2, .val (.b false))] (o2 (Qf (Xc x)) (o1 (Qf (show .b (decide ((x.length : Int) < (1 : Int))) = .b false from Qg (decide_eq_false (by omega)))))) ?_
 refine ckF ?_
 refine Qh ?_
 refine Qa ?_
 refine wdT 0 0 .sh x (fun hw2 => ?_)
 have hl3 : List.length x ≤ 1073741824 := Qp (hw2)
 have hx1 : x[0]? = some (nth x 0) := X3 (by omega)
 refine rk Qb [(3, .i (nth x 0))] [7] [] [] [(1, .row [.i (nth x 0)])] (o1 (Ql (Xl (i := 0) (by omega) rfl hx1))) ?_
 refine Qa ?_
 refine Qa ?_
 refine rk Qb [(4, .i 1)] [] [] [] [] (o0) ?_
 refine blk (fun (k0 : Nat) (s0 : Int) => [(3, .i s0), (4, .i ((k0 + 1 : Nat) : Int))]) [3, 4] (fun k0 s0 => []) [] (fun (y0 : Int) => [(3, .i y0)]) [0, 3, 4] (fun y0 => []) [] (fun (k0 : Nat) (s0 : Int) => (U5 (Kz x) Wr (x.length - 1) 0 (nth x 0)) = U5 (Kz x) Wr ((x.length - 1) - k0) k0 s0) (fun (y0 : Int) => (U5 (Kz x) Wr (x.length - 1) 0 (nth x 0)) = .brk y0) (x.length - 1) (nth x 0) (Qc (by kernel_rfl)) rfl (fun k0 s0 hk0 hI0 => ?_) (fun k0 s0 hk0 hI0 => ?_) (fun y0 hD0 => ?_)
 ·
  refine Qa ?_
  refine Qa ?_
  refine rk Qb [(15, .b true)] [] [] [] [(2, .val (.i (x.length : Int))), (3, .val (.b true))] (o2 (Qf (Xc x)) (o1 (Qf (Qg (decide_eq_true (p := ((k0 + 1 : Nat) : Int) < (x.length : Int)) (by omega)))))) ?_
  refine ckT ?_
  refine Qh ?_
  refine Qa ?_
  refine Q4 ?_
  have hx4 : x[(k0 + 1)]? = some (nth x (k0 + 1)) := X3 (by omega)
  refine rk Qb [(3, .i (max s0 (nth x (k0 + 1))))] [3, 15] [] [] [(3, .row [.i (nth x (k0 + 1))])] (o1 (Ql (Xl (i := ((k0 + 1 : Nat) : Int)) (by omega) rfl hx4))) ?_
  refine rk Qb [(4, .i ((k0 + 2 : Nat) : Int))] [4] [] [] [(1, .val (.i ((k0 + 2 : Nat) : Int)))] (o1 (Qf (show .i (IntKind.i64.wrap (((k0 + 1 : Nat) : Int) + 1)) = .i ((k0 + 2 : Nat) : Int) from Kw ((IntWalk.i64_in _ (by omega)).trans (by omega))))) ?_
  exact Exists.intro (max s0 (nth x (k0 + 1))) (And.intro (Qc (by kernel_rfl)) (V0 hk0 (rfl) hI0))
 ·
  refine Qa ?_
  refine Qa ?_
  refine rk Qb [(15, .b false)] [] [] [] [(2, .val (.i (x.length : Int))), (3, .val (.b false))] (o2 (Qf (Xc x)) (o1 (Qf (Qg (decide_eq_false (p := ((k0 + 1 : Nat) : Int) < (x.length : Int)) (by omega)))))) ?_
  refine ckF ?_
  refine Xj ?_
  exact Exists.intro s0 (And.intro (Qc (by kernel_rfl)) (Qb8 hk0 (rfl) hI0))
 ·
  refine Qa ?_
  refine rk Qb [(2, .i y0)] [2, 3] [] [] [] (o0) ?_
  refine Qi ?_
  exact Zb [] (congrArg (fun z => (.i z : AV)) (show W3 x = y0 from Hk hD0 (rfl)).symm)
def Y2 (d : (List Zh)) : Int := (bif ((!(((Qj d)).2)) || (((((Qj d)).1).length : Int) == (0 : Int))) then -1 else (W3 (((Qj d)).1)))
theorem Qd7 (d : (List Zh)) : ACalls Tryz.prog 177 [.h d] (.i (Y2 d)) := by
 refine Qn (tt := tt) Qb Tryz.func177 (fn := Tryz.f177) rfl (by unfold Z7; kernel_rfl) (Nat.le_of_ble_eq_true rfl) fun w0 F0 => ?_
 refine Qa ?_
 refine rk Qb [(2, .i 0)] [] [] [] [] (o0) ?_
 refine Qa ?_
 refine rk Qb [(3, .o 448 (((Qj d)).1)), (4, .b (((Qj d)).2))] [0] [] [] [(1, .val (.tup [(false, [.o 0 (((Qj d)).1)]), (false, [.b (((Qj d)).2)])]))] (o1 (Qe (Qil d))) ?_
 refine Qa ?_
 refine Qa ?_
 refine jn [(16, .b ((!(((Qj d)).2)) || (((((Qj d)).1).length : Int) == (0 : Int))))] [4] [] [] (!(((Qj d)).2)) (fun h1 => ?_) (fun h1 => ?_) ?_
 ·
  have h1n : (((Qj d)).2) = false := Qa3 h1
  refine rk Qb [(16, .b true)] [4] [] [] [(0, .val (.b false)), (1, .val (.b true))] (o2 (Qf (Qg h1n)) (o1 (Qf (show .b (!false) = .b true from rfl)))) ?_
  exact ⟨rfl, Qc (by rw [h1]; first | done | kernel_rfl)⟩
 ·
  have h1n : (((Qj d)).2) = true := Vo h1
  refine rk Qb [(16, .b (((((Qj d)).1).length : Int) == (0 : Int)))] [4] [] [] [(0, .val (.b true)), (1, .val (.b false)), (4, .val (.i ((((Qj d)).1).length : Int)))] (o2 (Qf (Qg h1n)) (o2 (Qf (show .b (!true) = .b false from rfl)) (o1 (Qf (Xc (((Qj d)).1)))))) ?_
  exact ⟨rfl, Qc (by rw [h1]; first | done | kernel_rfl)⟩
 refine ck ((!(((Qj d)).2)) || (((((Qj d)).1).length : Int) == (0 : Int))) (fun h2 => ?_) (fun h2 => ?_)
 ·
  refine Qa ?_
  refine rk Qb [(2, .i (-1))] [2, 16] [] [] [] (o0) ?_
  refine Qi ?_
  exact Zb [] (congrArg (fun z => (.i z : AV)) (show Y2 d = -1 from Yf h2 (rfl)).symm)
 ·
  have h2l : ((!(((Qj d)).2))) = false := Qra h2
  have h2ln : (((Qj d)).2) = true := Vo h2l
  have h2r : ((((((Qj d)).1).length : Int) == (0 : Int))) = false := Qul h2
  have h2rd := Zp h2r
  refine Qh ?_
  refine Qa ?_
  refine rk Qb [(2, .i (W3 (((Qj d)).1)))] [2, 3, 16] [] [] [(1, .val (.i (W3 (((Qj d)).1))))] (o1 (Qe (Qkp (((Qj d)).1) (by first | omega | (simp_all; omega))))) ?_
  refine Qi ?_
  exact Zb [] (congrArg (fun z => (.i z : AV)) (show Y2 d = (W3 (((Qj d)).1)) from Qv h2 (rfl)).symm)
def W4 (s2_ : (List Int)) (k0 : Nat) (a0 : Int) (_ : Unit) : Rd (Bool) (Unit) (Unit) := (bif (a0 != (nth s2_ k0)) then (.ret false) else (.next ()))
def W5 (_ : Nat) (_ : Unit) : Unit := ()
def Jh (s1_ : (List Int)) (s2_ : (List Int)) : Bool := (bif ((s1_.length : Int) != (s2_.length : Int)) then false else (Out.on (Xk (W4 s2_) W5 s1_ 0 ()) (fun _ => true)))
theorem Qh4 (s1_ : (List Int)) (s2_ : (List Int)) : ACalls Tryz.prog 78 [.h s1_, .h s2_] (.b (Jh s1_ s2_)) := by
 refine Qn (tt := tt) Qb Tryz.func78 (fn := Tryz.f78) rfl (by unfold Z7; kernel_rfl) (Nat.le_of_ble_eq_true rfl) fun w0 F0 => ?_
 refine Qa ?_
 refine rk Qb [(4, .b false)] [] [] [] [] (o0) ?_
 refine Qa ?_
 refine Qa ?_
 refine rk Qb [(10, .b ((s1_.length : Int) != (s2_.length : Int)))] [] [] [] [(1, .val (.i (s1_.length : Int))), (3, .val (.i (s2_.length : Int)))] (o2 (Qf (Xc s1_)) (o1 (Qf (Xc s2_)))) ?_
 refine ck ((s1_.length : Int) != (s2_.length : Int)) (fun h1 => ?_) (fun h1 => ?_)
 ·
  refine Qa ?_
  refine rk Qb [] [10] [] [] [] (o0) ?_
  refine Qi ?_
  exact Zb [] (congrArg (fun z => (.b z : AV)) (show Jh s1_ s2_ = false from Yf h1 (rfl)).symm)
 ·
  have h1d := H4 h1
  refine Qh ?_
  refine Qa ?_
  refine Qa ?_
  refine rk Qb [(12, .i (s1_.length : Int)), (13, .i 0)] [10] [] [] [(1, .val (.i (s1_.length : Int)))] (o1 (Qf (Xc s1_))) ?_
  refine wdT 0 0 .sh s1_ (fun hw2 => ?_)
  have hl3 : List.length s1_ ≤ 1073741824 := Qp (hw2)
  refine blk (fun (k0 : Nat) (s0 : Unit) => [(13, .i ((k0 : Nat) : Int))]) [13] (fun k0 s0 => []) [] (fun (y0 : Unit) => []) [0, 1, 12, 13] (fun y0 => []) [] (fun (k0 : Nat) (s0 : Unit) => (Xk (W4 s2_) W5 s1_ 0 ()) = Xk (W4 s2_) W5 (List.drop k0 s1_) k0 s0) (fun (y0 : Unit) => (Xk (W4 s2_) W5 s1_ 0 ()) = .brk y0) s1_.length () (Qc (by kernel_rfl)) rfl (fun k0 s0 hk0 hI0 => ?_) (fun k0 s0 hk0 hI0 => ?_) (fun y0 hD0 => ?_)
  ·
   obtain ⟨a0, hx0⟩ := X8 (l := s1_) (i := k0) hk0
   refine Qa ?_
   refine rk Qb [(14, .b true)] [] [] [] [(0, .val (.b true))] (o1 (Qf (Qg (decide_eq_true (p := ((k0 : Nat) : Int) < (s1_.length : Int)) (by omega))))) ?_
   refine Qa ?_
   refine ckT ?_
   refine Qh ?_
   refine Qa ?_
   refine Q4 ?_
   refine Qa ?_
   refine rk Qb [(5, .i ((k0 : Nat) : Int))] [14] [] [] [] (o0) ?_
   refine Qa ?_
   refine wdT 1 0 .sh s2_ (fun hw5 => ?_)
   have hl6 : List.length s2_ ≤ 1073741824 := Qp (hw5)
   have hx4 : s2_[k0]? = some (nth s2_ k0) := X3 (by omega)
   refine rd' Qb Zv [(24, .b (a0 != (nth s2_ k0)))] [5] [] [] [(2, .row [.i a0]), (6, .row [.i (nth s2_ k0)])] (o2 (Ql (Xl (i := ((k0 : Nat) : Int)) (by omega) rfl hx0)) (o1 (Ql (Xl (i := ((k0 : Nat) : Int)) (by omega) rfl hx4)))) ?_
   refine ck (a0 != (nth s2_ k0)) (fun h7 => ?_) (fun h7 => ?_)
   ·
    refine Qa ?_
    refine rk Qb [] [24] [] [] [] (o0) ?_
    refine Qi ?_
    have hr8 : (Xk (W4 s2_) W5 s1_ 0 ()) = .ret false := Jq hx0 (Yf h7 (rfl)) hI0
    exact Zb [] (congrArg (fun z => (.b z : AV)) (show Jh s1_ s2_ = false from Qv h1 (Qgl hr8)).symm)
   ·
    have h7d := H4 h7
    refine Qh ?_
    refine rk Qb [(13, .i ((k0 + 1 : Nat) : Int))] [13, 24] [] [] [(0, .val (.i ((k0 + 1 : Nat) : Int)))] (o1 (Qf (Kw (Qs k0 (by omega))))) ?_
    exact Exists.intro () (And.intro (Qc (by kernel_rfl)) (Qw hx0 (Qv h7 (rfl)) hI0))
  ·
   refine Qa ?_
   refine rk Qb [(14, .b false)] [] [] [] [(0, .val (.b false))] (o1 (Qf (Qg (decide_eq_false (p := ((k0 : Nat) : Int) < (s1_.length : Int)) (by omega))))) ?_
   refine Qa ?_
   refine ckF ?_
   refine Xj ?_
   exact Exists.intro () (And.intro (Qc (by kernel_rfl)) (X9 hk0 (rfl) hI0))
  ·
   refine Qa ?_
   refine rk Qb [(4, .b true)] [4] [] [] [] (o0) ?_
   refine Qi ?_
   exact Zb [] (congrArg (fun z => (.b z : AV)) (show Jh s1_ s2_ = true from Qv h1 (Hk hD0 (rfl))).symm)
def Zi (r : (List Qk)) (names : (List ByteArray)) (_ : Nat) (a0 : Zh) (s0 : (List Qk)) : Rd ((List Qk) × Int × Bool) ((List Qk)) ((List Qk)) := (bif (!(Q6 names a0.1)) then (.next (s0 ++ [(a0.1, (Xb r a0.1))])) else (.next (s0 ++ [((a0.1, []) : Qk)])))
def Zx (_ : Nat) (s0 : (List Qk)) : (List Qk) := s0
def Jj (s_ : X7) (d : (List Zh)) (names : (List ByteArray)) (k1 : Nat) (k3 : Nat) (a3 : Zh) (s3 : (List Qk) × Bool) : Rd (Rd (Rd ((List Qk) × Int × Bool) ((List Qk) × Int) ((List Qk) × Int)) ((List Qk) × Int × Bool) ((List Qk) × Int)) ((List Qk) × Bool) ((List Qk) × Bool) := (bif (((nth (((Qj d)).1) k3) != ((k1 : Nat) : Int)) || (!(Q6 names a3.1))) then (.next (s3.1, s3.2)) else (bif (!(Jh (Xy s_ a3.2 s3.1) ((nth s3.1 k3).2))) then (.next (List.set s3.1 k3 ((nth s3.1 k3).1, (Xy s_ a3.2 s3.1)), true)) else (.next (s3.1, s3.2))))
def Ws (_ : Nat) (s3 : (List Qk) × Bool) : (List Qk) × Bool := (s3.1, s3.2)
def J4 (s_ : X7) (d : (List Zh)) (names : (List ByteArray)) (k1 : Nat) (s2 : (List Qk) × Int × Bool) : Rd (Rd ((List Qk) × Int × Bool) ((List Qk) × Int) ((List Qk) × Int)) ((List Qk) × Int × Bool) ((List Qk) × Int) := (bif s2.2.2 then (Out.on (Xk (Jj s_ d names k1) Ws d 0 (s2.1, false)) (fun y3 => (.next (y3.1, IntKind.i64.wrap (s2.2.1 + 1), y3.2)))) else (.brk (s2.1, s2.2.1)))
def Jk (s_ : X7) (d : (List Zh)) (names : (List ByteArray)) (k1 : Nat) (s1 : (List Qk) × Int) : Rd ((List Qk) × Int × Bool) ((List Qk) × Int) ((List Qk) × Int) := (Out.on (Qk5 (J4 s_ d names k1) (List.length d * List.length s_.2.1 + 2) (s1.1, s1.2, true)) (fun y2 => (.next (y2.1, y2.2))))
def Wt (_ : Nat) (s1 : (List Qk) × Int) : (List Qk) × Int := (s1.1, s1.2)
def Yd (s_ : X7) (d : (List Zh)) (r : (List Qk)) (names : (List ByteArray)) : (List Qk) × Int × Bool := (bif ((!(((Qj d)).2)) || (!(Xm s_))) then ([], 0, false) else (Out.on (Xk (Zi r names) Zx d 0 []) (fun y0 => (Out.on (U5 (Jk s_ d names) Wt (Int.toNat ((Y2 d) + 1)) 0 (y0, 0)) (fun y1 => (y1.1, y1.2, true))))))
theorem max_go {B : Int} {x : List Int} (hx : ∀ a, a ∈ x → a ≤ B) (hB : 0 ≤ B) : ∀ (n k : Nat) (s : Int), s ≤ B → ∃ t, U5 (Kz x) Wr n k s = .brk t ∧ t ≤ B
 | 0, k, s, h => ⟨s, rfl, h⟩
 | n + 1, k, s, h => by
  obtain ⟨t, h1, h2⟩ := max_go hx hB n (k + 1) (max s (nth x (k + 1))) (by
   by_cases hk : k + 1 < x.length
   · have := hx _ (Qrm hk); omega
   · rw [Qkb (by omega)]; omega)
  exact ⟨t, by simp only [U5, Kz]; exact h1, h2⟩
theorem Qg2 {d : List Zh} (h : ((Qj d)).2 = true) : List.length ((Qj d)).1 = List.length d ∧ List.length d ≤ 5 ∧ Y2 d ≤ 5 := by
 obtain ⟨h1, h2, h3⟩ := Qc1 h
 refine ⟨h1, h2, ?_⟩
 unfold Y2
 rw [h]
 simp only [Bool.not_true, Bool.false_or]
 cases hl : (((((Qj d)).1).length : Int) == (0 : Int)) with
 | true => simp only [cond_true]; omega
 | false =>
  simp only [cond_false]
  have hp : 0 < (((Qj d)).1).length := by have := Zp hl; omega
  unfold W3
  obtain ⟨t, e, ht⟩ := max_go (B := 5) (x := ((Qj d)).1) (fun a ha => (h3 a ha).2) (by omega) ((((Qj d)).1).length - 1) 0 (nth ((Qj d)).1 0) (h3 _ (Qrm hp)).2
  rw [e]; exact ht
theorem eqI_dec (a b : List Int) : Jh a b = decide (a = b) := Qnt a b
def onD (d : List Zh) (names : List ByteArray) (j : Nat) : Bool := Q6 names (nth d j).1
theorem Qk9 (s_ : X7) (d : List Zh) (names : List ByteArray) (k1 : Nat) : StepE s_ d (Qj d).1 (onD d names) (k1 : Int) (Jj s_ d names k1) := by
 intro k a o c hk
 have ha : nth d k = a := Ql0 hk
 unfold Jj Qqm onD
 rw [ha, eqI_dec]
 simp only [bne]
 cases (nth (Qj d).1 k == (k1 : Int)) <;> cases Q6 names a.1 <;> rfl
section
variable {s_ : X7} {d : List Zh} {names : List ByteArray} {k1 : Nat} {o : List Qk} {p : Int}
theorem Qcb (hS : ((Qj d)).2 = true) (h : EvS d ((Qj d)).1 (onD d names) (List.length s_.2.1) (k1 : Int) o) : ∃ o' p', whl (J4 s_ d names k1) (List.length d * List.length s_.2.1 + 2) (o, p, true) = some (.brk (o', p')) ∧ EvS d ((Qj d)).1 (onD d names) (List.length s_.2.1) ((k1 : Int) + 1) o' :=
 ev_run (f := Jj s_ d names k1) (e := Ws) (Qk9 s_ d names k1) (fun _ _ => rfl) (fun _ => rfl) (Prod.ext rfl hS) h p
theorem Qrv (hS : ((Qj d)).2 = true) (h : EvS d ((Qj d)).1 (onD d names) (List.length s_.2.1) (((k1 : Nat)) : Int) o) : (whl (J4 s_ d names k1) (List.length d * List.length s_.2.1 + 2) (o, p, true)).isSome = true := by
 obtain ⟨o', p', h1, _⟩ := Qcb (p := p) hS h
 rw [h1]; rfl
theorem Qbm {y : List Qk × Int} (hS : ((Qj d)).2 = true) (h : EvS d ((Qj d)).1 (onD d names) (List.length s_.2.1) (((k1 : Nat)) : Int) o) (hy : Qk5 (J4 s_ d names k1) (List.length d * List.length s_.2.1 + 2) (o, p, true) = .brk y) : EvS d ((Qj d)).1 (onD d names) (List.length s_.2.1) ((((k1 + 1) : Nat)) : Int) y.1 := by
 obtain ⟨o', p', h1, h2⟩ := Qcb (p := p) hS h
 unfold Qk5 at hy
 rw [h1] at hy
 have e : (o', p') = y := by simpa using hy
 rw [← e, Int.natCast_add]; exact h2
def Qfk (r : List Qk) (names : List ByteArray) (a : Zh) : List Int := bif (!(Q6 names a.1)) then (Xb r a.1) else []
theorem Vj {r : List Qk} (hy : Xk (Zi r names) Zx d 0 [] = .brk o) : EvS d ((Qj d)).1 (onD d names) (List.length s_.2.1) (((0 : Nat)) : Int) o := by
 obtain ⟨h1, h2⟩ := Qi8 (L := ((Qj d)).1) (on := onD d names) (B := List.length s_.2.1) (g := Qfk r names) (f := Zi r names) (e := Zx) (d := d) (fun k a s => by
  unfold Zi Qfk
  cases Q6 names a.1 <;> rfl) (fun j _ hj => by unfold onD at hj; unfold Qfk; rw [hj]; rfl)
 rw [h1] at hy
 have e : (d.map fun a => ((a.1, Qfk r names a) : Qk)) = o := Out.brk.inj hy
 rw [← e]; exact h2
end
theorem Qkq (s_ : X7) (d : (List Zh)) (r : (List Qk)) (names : (List ByteArray)) : ACalls Tryz.prog 134 [.a [.h s_.1, .h s_.2.1, .i s_.2.2], .h d, .h r, .h names] (.tup [(false, [.o 0 (((Yd s_ d r names)).1)]), (false, [.i (((Yd s_ d r names)).2.1)]), (false, [.b (((Yd s_ d r names)).2.2)])]) := by
 refine Qn (tt := tt) Qb Tryz.func134 (fn := Tryz.f134) rfl (by unfold Z7; kernel_rfl) (Nat.le_of_ble_eq_true rfl) fun w0 F0 => ?_
 refine Qa ?_
 refine rk Qb [(4, .p 4 0), (8, .e 0), (9, .i 0), (10, .b false)] [0] [(4, [.h s_.1, .h s_.2.1, .i s_.2.2])] [] [] (o0) ?_
 refine Qa ?_
 refine rk Qb [(11, .o 1600 (((Qj d)).1)), (12, .b (((Qj d)).2))] [] [] [] [(1, .val (.tup [(false, [.o 0 (((Qj d)).1)]), (false, [.b (((Qj d)).2)])]))] (o1 (Qe (Qil d))) ?_
 refine Qa ?_
 refine Qa ?_
 refine jn [(34, .b ((!(((Qj d)).2)) || (!(Xm s_))))] [12] [] [] (!(((Qj d)).2)) (fun h1 => ?_) (fun h1 => ?_) ?_
 ·
  have h1n : (((Qj d)).2) = false := Qa3 h1
  refine rk Qb [(34, .b true)] [12] [] [] [(0, .val (.b false)), (1, .val (.b true))] (o2 (Qf (Qg h1n)) (o1 (Qf (show .b (!false) = .b true from rfl)))) ?_
  exact ⟨rfl, Qc (by rw [h1]; first | done | kernel_rfl)⟩
 ·
  have h1n : (((Qj d)).2) = true := Vo h1
  have h1nsf := Qg2 h1n
  refine rk Qb [(34, .b (!(Xm s_)))] [12] [] [] [(0, .val (.b true)), (1, .val (.b false)), (4, .val (.b (Xm s_)))] (o2 (Qf (Qg h1n)) (o2 (Qf (show .b (!true) = .b false from rfl)) (o1 (Qe (Qa6 s_))))) ?_
  exact ⟨rfl, Qc (by rw [h1]; first | done | kernel_rfl)⟩
 refine ck ((!(((Qj d)).2)) || (!(Xm s_))) (fun h2 => ?_) (fun h2 => ?_)
 ·
  refine Qa ?_
  refine rk Qb [] [34] [] [] [] (o0) ?_
  refine opn [(false, 8, 0, true, 384000, 2)] ?_
  refine Qi ?_
  exact Zb [] (congrArg (fun z => (.tup [(false, [.o 0 z.1]), (false, [.i z.2.1]), (false, [.b z.2.2])] : AV)) (show Yd s_ d r names = ([], 0, false) from Yf h2 (rfl)).symm)
 ·
  have h2l : ((!(((Qj d)).2))) = false := Qra h2
  have h2ln : (((Qj d)).2) = true := Vo h2l
  have h2lnsf := Qg2 h2ln
  have h2r : ((!(Xm s_))) = false := Qul h2
  have h2rn : (Xm s_) = true := Vo h2r
  refine Qh ?_
  refine Qa ?_
  refine rk Qb [(13, .one (.slc (.own true 2240) 2 []))] [34] [] [] [] (o0) ?_
  refine Qa ?_
  refine Qa ?_
  refine rk Qb [(36, .h d), (37, .i (d.length : Int)), (38, .i 0)] [] [] [] [(1, .val (.i (d.length : Int)))] (o1 (Qf (Xc d))) ?_
  refine wdT 1 0 .sh d (fun hw3 => ?_)
  have hl4 : List.length d ≤ 1073741824 := Qp (hw3)
  refine blk (fun (k0 : Nat) (s0 : (List Qk)) => [(13, .o 147208 s0), (38, .i ((k0 : Nat) : Int))]) [13, 38] (fun k0 s0 => []) [] (fun (y0 : (List Qk)) => [(13, .o 147358 y0)]) [2, 13, 36, 37, 38] (fun y0 => []) [] (fun (k0 : Nat) (s0 : (List Qk)) => (Xk (Zi r names) Zx d 0 []) = Xk (Zi r names) Zx (List.drop k0 d) k0 s0 ∧ List.length s0 ≤ k0) (fun (y0 : (List Qk)) => (Xk (Zi r names) Zx d 0 []) = .brk y0) d.length [] (Zg [(2240, 147208)] (by kernel_rfl)) ⟨rfl, (by simp)⟩ (fun k0 s0 hk0 hI0 => ?_) (fun k0 s0 hk0 hI0 => ?_) (fun y0 hD0 => ?_)
  ·
   have hA0_0 := hI0.2
   obtain ⟨a0, hx0⟩ := X8 (l := d) (i := k0) hk0
   refine Qa ?_
   refine rk Qb [(39, .b true)] [] [] [] [(0, .val (.b true))] (o1 (Qf (Qg (decide_eq_true (p := ((k0 : Nat) : Int) < (d.length : Int)) (by omega))))) ?_
   refine Qa ?_
   refine ckT ?_
   refine Qh ?_
   refine Qa ?_
   refine Q4 ?_
   refine Qa ?_
   refine rk Qb [(15, .p 15 0)] [39] [(15, [.s a0.1, .h a0.2])] [] [(0, .row [.s a0.1, .h a0.2])] (o1 (Ql (Xl (i := ((k0 : Nat) : Int)) (by omega) rfl hx0))) ?_
   refine Qa ?_
   refine rk Qb [(16, .p 16 0)] [] [(16, [.s a0.1, .e 1])] [] [] (o0) ?_
   refine Qa ?_
   refine Qa ?_
   refine rk Qb [(49, .b (!(Q6 names a0.1)))] [] [] [] [(3, .val (.b (Q6 names a0.1)))] (o1 (Qe (Qa8 names a0.1))) ?_
   refine ck (!(Q6 names a0.1)) (fun h5 => ?_) (fun h5 => ?_)
   ·
    have h5n : (Q6 names a0.1) = false := Qa3 h5
    refine rk Qb [] [15, 49] [(16, [.s a0.1, .o 3392 (Xb r a0.1)])] [15, 16] [(3, .val (.o 0 (Xb r a0.1)))] (o1 (Qe (Qa7 r a0.1))) ?_
    refine wdT 13 0 (.own true 147208) s0 (fun hw6 => ?_)
    have hl7 : List.length s0 ≤ 1073741824 := Qp (hw6)
    refine rk Qb [(13, .one (.slc (.own true 3712) 2 ((eL s0) ++ [[.s a0.1, .h (Xb r a0.1)]])))] [13, 16] [] [16] [] (o1 (V8 (Wq (Xa s0) (Xa [(a0.1, (Xb r a0.1))]) (by first | omega | (simp; omega) | simp)))) ?_
    refine eqn [(13, .o 3712 (s0 ++ [(a0.1, (Xb r a0.1))]))] [13] [] [] (by rw [show ((eL s0) ++ [[.s a0.1, .h (Xb r a0.1)]]) = (eL (s0 ++ [(a0.1, (Xb r a0.1))])) from Qaw (rfl) (rfl)]; first | done | kernel_rfl) ?_
    refine rk Qb [(38, .i ((k0 + 1 : Nat) : Int))] [38] [] [] [(0, .val (.i ((k0 + 1 : Nat) : Int)))] (o1 (Qf (Kw (Qs k0 (by omega))))) ?_
    exact Exists.intro (s0 ++ [(a0.1, (Xb r a0.1))]) (And.intro (Zg [(3712, 147208)] (by kernel_rfl)) ⟨Qw hx0 (Yf h5 (rfl)) hI0.1, by first | omega | (simp; omega) | simp⟩)
   ·
    have h5n : (Q6 names a0.1) = true := Vo h5
    refine Qh ?_
    refine wdT 13 0 (.own true 147208) s0 (fun hw8 => ?_)
    have hl9 : List.length s0 ≤ 1073741824 := Qp (hw8)
    refine rk Qb [(13, .one (.slc (.own true 3712) 2 ((eL s0) ++ [[.s a0.1, .slc 1 []]])))] [13, 15, 16, 49] [] [15, 16] [] (o1 (V8 (Wq (Xa s0) (Xa [((a0.1, []) : Qk)]) (by first | omega | (simp; omega) | simp)))) ?_
    refine eqn [(13, .o 3712 (s0 ++ [((a0.1, []) : Qk)]))] [13] [] [] (by rw [show ((eL s0) ++ [[.s a0.1, .slc 1 []]]) = (eL (s0 ++ [((a0.1, []) : Qk)])) from Qaw (rfl) (rfl)]; first | done | kernel_rfl) ?_
    refine rk Qb [(38, .i ((k0 + 1 : Nat) : Int))] [38] [] [] [(0, .val (.i ((k0 + 1 : Nat) : Int)))] (o1 (Qf (Kw (Qs k0 (by omega))))) ?_
    exact Exists.intro (s0 ++ [((a0.1, []) : Qk)]) (And.intro (Zg [(3712, 147208)] (by kernel_rfl)) ⟨Qw hx0 (Qv h5 (rfl)) hI0.1, by first | omega | (simp; omega) | simp⟩)
  ·
   have hA0_0 := hI0.2
   refine Qa ?_
   refine rk Qb [(39, .b false)] [] [] [] [(0, .val (.b false))] (o1 (Qf (Qg (decide_eq_false (p := ((k0 : Nat) : Int) < (d.length : Int)) (by omega))))) ?_
   refine Qa ?_
   refine ckF ?_
   refine Xj ?_
   exact Exists.intro s0 (And.intro (Zg [(147208, 147358)] (by kernel_rfl)) (X9 hk0 (rfl) hI0.1))
  ·
   refine Qa ?_
   refine rk Qb [(17, .i 0)] [] [] [] [] (o0) ?_
   refine Qa ?_
   refine Qa ?_
   refine rk Qb [(18, .i 0)] [] [] [] [] (o0) ?_
   refine blk (fun (k1 : Nat) (s1 : (List Qk) × Int) => [(13, .o 147358 s1.1), (17, .i s1.2), (18, .i ((k1 : Nat) : Int))]) [13, 17, 18] (fun k1 s1 => []) [] (fun (y1 : (List Qk) × Int) => [(13, .o 147358 y1.1), (17, .i y1.2)]) [1, 3, 4, 11, 13, 17, 18] (fun y1 => []) [4] (fun (k1 : Nat) (s1 : (List Qk) × Int) => (U5 (Jk s_ d names) Wt (Int.toNat ((Y2 d) + 1)) 0 (y0, 0)) = U5 (Jk s_ d names) Wt ((Int.toNat ((Y2 d) + 1)) - k1) k1 s1 ∧ EvS d ((Qj d)).1 (onD d names) (List.length s_.2.1) (((k1 : Nat)) : Int) s1.1 ∧ List.length s1.1 = List.length d) (fun (y1 : (List Qk) × Int) => (U5 (Jk s_ d names) Wt (Int.toNat ((Y2 d) + 1)) 0 (y0, 0)) = .brk y1) (Int.toNat ((Y2 d) + 1)) (y0, 0) (Qc (by kernel_rfl)) ⟨rfl, (by first | exact Vj hD0 | exact Vj hD0.1 | exact Qb2 (B := List.length s_.2.1) (Vj hD0) | exact Qb2 (B := List.length s_.2.1) (Vj hD0.1)), (by first | exact Vj hD0 | exact Vj hD0.1 | exact Qb2 (B := List.length s_.2.1) (Vj hD0) | exact Qb2 (B := List.length s_.2.1) (Vj hD0.1))⟩ (fun k1 s1 hk1 hI1 => ?_) (fun k1 s1 hk1 hI1 => ?_) (fun y1 hD1 => ?_)
   ·
    have hA1_0 := hI1.2.1
    have hA1_1 := hI1.2.2
    refine Qa ?_
    refine Qa ?_
    refine rk Qb [(63, .b true)] [] [] [] [(2, .val (.i (Y2 d))), (3, .val (.b true))] (o2 (Qe (Qd7 d)) (o1 (Qf (Qg (decide_eq_true (p := ((k1 : Nat) : Int) ≤ (Y2 d)) (by omega)))))) ?_
    refine ckT ?_
    refine Qh ?_
    refine Qa ?_
    refine Q4 ?_
    refine Qa ?_
    refine rk Qb [(19, .b true)] [63] [] [] [] (o0) ?_
    refine blw (fun (s2 : (List Qk) × Int × Bool) => [(13, .o 147358 s2.1), (17, .i s2.2.1), (19, .b s2.2.2)]) [13, 17, 19] (fun s2 => []) [] (fun (y2 : (List Qk) × Int) => [(13, .o 147358 y2.1), (17, .i y2.2)]) [13, 17, 19] (fun y2 => []) [] (fun (k2 : Nat) (s2 : (List Qk) × Int × Bool) => whl (J4 s_ d names k1) k2 s2 = some (Qk5 (J4 s_ d names k1) (List.length d * List.length s_.2.1 + 2) (s1.1, s1.2, true)) ∧ List.length s2.1 = List.length d) (fun (y2 : (List Qk) × Int) => (Qk5 (J4 s_ d names k1) (List.length d * List.length s_.2.1 + 2) (s1.1, s1.2, true)) = .brk y2) (List.length d * List.length s_.2.1 + 2) (s1.1, s1.2, true) (Qc (by kernel_rfl)) ⟨Qm7 (Qrv (by assumption) (by assumption)), (by assumption)⟩ (fun _ h => Qm8 h.1) (fun k2 s2 hI2 => ?_) (fun y2 hD2 => ?_)
    ·
     have hA2_0 := hI2.2
     refine Qa ?_
     refine Qa ?_
     refine rk Qb [(66, .b s2.2.2)] [] [] [] [] (o0) ?_
     refine ck s2.2.2 (fun h10 => ?_) (fun h10 => ?_)
     ·
      refine Qh ?_
      refine Q4 ?_
      refine Qa ?_
      refine rk Qb [(19, .b false)] [19, 66] [] [] [] (o0) ?_
      refine Qa ?_
      refine rk Qb [(17, .i (IntKind.i64.wrap (s2.2.1 + 1)))] [17] [] [] [] (o0) ?_
      refine Qa ?_
      refine rk Qb [(69, .h d), (70, .i (d.length : Int)), (71, .i 0)] [] [] [] [(1, .val (.i (d.length : Int)))] (o1 (Qf (Xc d))) ?_
      refine blk (fun (k3 : Nat) (s3 : (List Qk) × Bool) => [(13, .o 147358 s3.1), (19, .b s3.2), (71, .i ((k3 : Nat) : Int))]) [13, 19, 71] (fun k3 s3 => []) [] (fun (y3 : (List Qk) × Bool) => [(13, .o 147358 y3.1), (19, .b y3.2)]) [13, 19, 69, 70, 71] (fun y3 => []) [] (fun (k3 : Nat) (s3 : (List Qk) × Bool) => (Xk (Jj s_ d names k1) Ws d 0 (s2.1, false)) = Xk (Jj s_ d names k1) Ws (List.drop k3 d) k3 s3 ∧ List.length s3.1 = List.length s2.1) (fun (y3 : (List Qk) × Bool) => (Xk (Jj s_ d names k1) Ws d 0 (s2.1, false)) = .brk y3 ∧ List.length y3.1 = List.length s2.1) d.length (s2.1, false) (Qc (by kernel_rfl)) ⟨rfl, (by simp)⟩ (fun k3 s3 hk3 hI3 => ?_) (fun k3 s3 hk3 hI3 => ?_) (fun y3 hD3 => ?_)
      ·
       have hA3_0 := hI3.2
       obtain ⟨a3, hx3⟩ := X8 (l := d) (i := k3) hk3
       refine Qa ?_
       refine rk Qb [(72, .b true)] [] [] [] [(0, .val (.b true))] (o1 (Qf (Qg (decide_eq_true (p := ((k3 : Nat) : Int) < (d.length : Int)) (by omega))))) ?_
       refine Qa ?_
       refine ckT ?_
       refine Qh ?_
       refine Qa ?_
       refine Q4 ?_
       refine Qa ?_
       refine rk Qb [(20, .i ((k3 : Nat) : Int)), (21, .p 21 0)] [72] [(21, [.s a3.1, .h a3.2])] [] [(1, .row [.s a3.1, .h a3.2])] (o1 (Ql (Xl (i := ((k3 : Nat) : Int)) (by omega) rfl hx3))) ?_
       refine Qa ?_
       refine Qa ?_
       refine jn [(88, .b (((nth (((Qj d)).1) k3) != ((k1 : Nat) : Int)) || (!(Q6 names a3.1))))] [] [] [] ((nth (((Qj d)).1) k3) != ((k1 : Nat) : Int)) (fun h11 => ?_) (fun h11 => ?_) ?_
       ·
        have h11d := Qj3 h11
        refine wdT 11 0 (.own true 1600) (((Qj d)).1) (fun hw13 => ?_)
        have hl14 : List.length (((Qj d)).1) ≤ 1073741824 := Qp (hw13)
        have hx12 : (((Qj d)).1)[k3]? = some (nth (((Qj d)).1) k3) := X3 (by omega)
        refine rk Qb [(88, .b true)] [] [] [] [(2, .rowE [.i (nth (((Qj d)).1) k3)]), (5, .val (.b true))] (o2 (Ql (Xl (i := ((k3 : Nat) : Int)) (by omega) rfl hx12)) (o1 (Qf (Qg h11)))) ?_
        exact ⟨rfl, Qc (by rw [h11]; first | done | kernel_rfl)⟩
       ·
        have h11d := H4 h11
        refine wdT 11 0 (.own true 1600) (((Qj d)).1) (fun hw16 => ?_)
        have hl17 : List.length (((Qj d)).1) ≤ 1073741824 := Qp (hw16)
        have hx15 : (((Qj d)).1)[k3]? = some (nth (((Qj d)).1) k3) := X3 (by omega)
        refine rk Qb [(88, .b (!(Q6 names a3.1)))] [] [] [] [(2, .rowE [.i (nth (((Qj d)).1) k3)]), (5, .val (.b false)), (10, .val (.b (Q6 names a3.1)))] (o2 (Ql (Xl (i := ((k3 : Nat) : Int)) (by omega) rfl hx15)) (o2 (Qf (Qg h11)) (o1 (Qe (Qa8 names a3.1))))) ?_
        exact ⟨rfl, Qc (by rw [h11]; first | done | kernel_rfl)⟩
       refine ck (((nth (((Qj d)).1) k3) != ((k1 : Nat) : Int)) || (!(Q6 names a3.1))) (fun h18 => ?_) (fun h18 => ?_)
       ·
        refine Xj ?_
        refine rk Qb [(71, .i ((k3 + 1 : Nat) : Int))] [20, 21, 71, 88] [] [21] [(0, .val (.i ((k3 + 1 : Nat) : Int)))] (o1 (Qf (Kw (Qs k3 (by omega))))) ?_
        exact Exists.intro (s3.1, s3.2) (And.intro (Qc (by kernel_rfl)) ⟨Qw hx3 (Yf h18 (rfl)) hI3.1, (by first | omega | (simp only [List.length_set]; omega))⟩)
       ·
        have h18l : (((nth (((Qj d)).1) k3) != ((k1 : Nat) : Int))) = false := Qra h18
        have h18ld := H4 h18l
        have h18r : ((!(Q6 names a3.1))) = false := Qul h18
        have h18rn : (Q6 names a3.1) = true := Vo h18r
        refine Qh ?_
        refine Qa ?_
        refine rk Qb [(22, .o 5952 (Xy s_ a3.2 s3.1))] [21, 88] [] [21] [(4, .val (.o 0 (Xy s_ a3.2 s3.1)))] (o1 (Qe (Qh2 s_ a3.2 s3.1))) ?_
        refine Qa ?_
        refine wdT 13 0 (.own true 147358) s3.1 (fun hw20 => ?_)
        have hl21 : List.length s3.1 ≤ 1073741824 := Qp (hw20)
        have hx19 : s3.1[k3]? = some (nth s3.1 k3) := X3 (by omega)
        refine rk Qb [(101, .b (!(Jh (Xy s_ a3.2 s3.1) ((nth s3.1 k3).2))))] [] [] [] [(3, .rowE [.s ((nth s3.1 k3).1), .h ((nth s3.1 k3).2)]), (6, .val (.b (Jh (Xy s_ a3.2 s3.1) ((nth s3.1 k3).2))))] (o2 (Ql (Xl (i := ((k3 : Nat) : Int)) (by omega) rfl hx19)) (o1 (Qe (Qh4 (Xy s_ a3.2 s3.1) ((nth s3.1 k3).2))))) ?_
        refine ck (!(Jh (Xy s_ a3.2 s3.1) ((nth s3.1 k3).2))) (fun h22 => ?_) (fun h22 => ?_)
        ·
         have h22n : (Jh (Xy s_ a3.2 s3.1) ((nth s3.1 k3).2)) = false := Qa3 h22
         refine Qa ?_
         refine rk Qb [(13, .one (.slc (.own true 147358) 2 (setRow (eL s3.1) k3 1 [.h (Xy s_ a3.2 s3.1)])))] [13, 20, 22, 101] [] [] [(3, .rowE [.s ((nth s3.1 k3).1), .h ((nth s3.1 k3).2)])] (o1 (Ql (Xl (i := ((k3 : Nat) : Int)) (by omega) rfl hx19))) ?_
         refine eqn [(13, .o 147358 (List.set s3.1 k3 ((nth s3.1 k3).1, (Xy s_ a3.2 s3.1))))] [13] [] [] (by rw [Kd (y := ((nth s3.1 k3).1, (Xy s_ a3.2 s3.1))) hx19 rfl]; first | done | kernel_rfl) ?_
         refine rk Qb [(19, .b true)] [19] [] [] [] (o0) ?_
         refine rk Qb [(71, .i ((k3 + 1 : Nat) : Int))] [71] [] [] [(0, .val (.i ((k3 + 1 : Nat) : Int)))] (o1 (Qf (Kw (Qs k3 (by omega))))) ?_
         exact Exists.intro (List.set s3.1 k3 ((nth s3.1 k3).1, (Xy s_ a3.2 s3.1)), true) (And.intro (Qc (by kernel_rfl)) ⟨Qw hx3 (Qv h18 (Yf h22 (rfl))) hI3.1, (by first | omega | (simp only [List.length_set]; omega))⟩)
        ·
         have h22n : (Jh (Xy s_ a3.2 s3.1) ((nth s3.1 k3).2)) = true := Vo h22
         refine Qh ?_
         refine rk Qb [(71, .i ((k3 + 1 : Nat) : Int))] [20, 22, 71, 101] [] [] [(0, .val (.i ((k3 + 1 : Nat) : Int)))] (o1 (Qf (Kw (Qs k3 (by omega))))) ?_
         exact Exists.intro (s3.1, s3.2) (And.intro (Qc (by kernel_rfl)) ⟨Qw hx3 (Qv h18 (Qv h22 (rfl))) hI3.1, (by first | omega | (simp only [List.length_set]; omega))⟩)
      ·
       have hA3_0 := hI3.2
       refine Qa ?_
       refine rk Qb [(72, .b false)] [] [] [] [(0, .val (.b false))] (o1 (Qf (Qg (decide_eq_false (p := ((k3 : Nat) : Int) < (d.length : Int)) (by omega))))) ?_
       refine Qa ?_
       refine ckF ?_
       refine Xj ?_
       exact Exists.intro (s3.1, s3.2) (And.intro (Qc (by kernel_rfl)) ⟨X9 hk3 (rfl) hI3.1, by first | omega | (simp only [List.length_set]; omega)⟩)
      ·
       have hD3_0 := hD3.2
       exact Exists.intro (y3.1, IntKind.i64.wrap (s2.2.1 + 1), y3.2) (And.intro (Qc (by kernel_rfl)) ⟨Qm6 (Yf h10 (Hk hD3.1 (rfl))) hI2.1, (by first | omega | (simp only [List.length_set]; omega))⟩)
     ·
      refine Xj ?_
      exact Exists.intro (s2.1, s2.2.1) (And.intro (Qc (by kernel_rfl)) (Qq9 (Qv h10 (rfl)) hI2.1))
    ·
     refine rk Qb [(18, .i ((k1 + 1 : Nat) : Int))] [18] [] [] [(1, .val (.i ((k1 + 1 : Nat) : Int)))] (o1 (Qf (Kw (Qs k1 (by omega))))) ?_
     exact Exists.intro (y2.1, y2.2) (And.intro (Qc (by kernel_rfl)) ⟨V0 hk1 (Hk hD2 (rfl)) hI1.1, (by first | exact Qbm (by assumption) (by assumption) (by assumption) | exact Qb2 (B := List.length s_.2.1) (Qbm (by assumption) (by assumption) (by assumption))), (by first | exact Qbm (by assumption) (by assumption) (by assumption) | exact Qb2 (B := List.length s_.2.1) (Qbm (by assumption) (by assumption) (by assumption)))⟩)
   ·
    have hA1_0 := hI1.2.1
    have hA1_1 := hI1.2.2
    refine Qa ?_
    refine Qa ?_
    refine rk Qb [(63, .b false)] [] [] [] [(2, .val (.i (Y2 d))), (3, .val (.b false))] (o2 (Qe (Qd7 d)) (o1 (Qf (Qg (decide_eq_false (p := ((k1 : Nat) : Int) ≤ (Y2 d)) (by omega)))))) ?_
    refine ckF ?_
    refine Xj ?_
    exact Exists.intro (s1.1, s1.2) (And.intro (Qc (by kernel_rfl)) (Qb8 hk1 (rfl) hI1.1))
   ·
    refine Qa ?_
    refine rk Qb [(8, .o 147358 y1.1), (9, .i y1.2), (10, .b true)] [8, 9, 10, 13, 17] [] [] [] (o0) ?_
    refine Qi ?_
    exact Zb [] (congrArg (fun z => (.tup [(false, [.o 0 z.1]), (false, [.i z.2.1]), (false, [.b z.2.2])] : AV)) (show Yd s_ d r names = (y1.1, y1.2, true) from Qv h2 (Hk hD0 (Hk hD1 (rfl)))).symm)
def Y6 (s_ : X7) (d : (List Zh)) : (List Qk) × Bool := (((Yd s_ d [] (X1 d))).1, ((Yd s_ d [] (X1 d))).2.2)
theorem Qla (s_ : X7) (d : (List Zh)) : ACalls Tryz.prog 95 [.a [.h s_.1, .h s_.2.1, .i s_.2.2], .h d] (.tup [(false, [.o 0 (((Y6 s_ d)).1)]), (false, [.b (((Y6 s_ d)).2)])]) := by
 refine Qn (tt := tt) Qb Tryz.func95 (fn := Tryz.f95) rfl (by unfold Z7; kernel_rfl) (Nat.le_of_ble_eq_true rfl) fun w0 F0 => ?_
 refine Qa ?_
 refine rk Qb [(2, .p 2 0), (4, .e 0), (5, .b false)] [0] [(2, [.h s_.1, .h s_.2.1, .i s_.2.2])] [] [] (o0) ?_
 refine Qa ?_
 refine rd' Qb Zv [(6, .o 896 (((Yd s_ d [] (X1 d))).1)), (8, .b (((Yd s_ d [] (X1 d))).2.2))] [1, 2] [] [2] [(3, .val (.o 0 (X1 d))), (4, .val (.tup [(false, [.o 0 (((Yd s_ d [] (X1 d))).1)]), (false, [.i (((Yd s_ d [] (X1 d))).2.1)]), (false, [.b (((Yd s_ d [] (X1 d))).2.2)])]))] (o2 (Qe (Qk8 d)) (o1 (Qe (Qrt (.cons (ArgLe.rfl _) ( .cons (ArgLe.rfl _) ( .cons (ArgLe.nil 2) ( .cons (ArgLe.rfl _) (.nil))))) (Qkq s_ d [] (X1 d)))))) ?_
 refine Qa ?_
 refine rk Qb [(4, .o 896 (((Yd s_ d [] (X1 d))).1)), (5, .b (((Yd s_ d [] (X1 d))).2.2))] [4, 5, 6, 8] [] [] [] (o0) ?_
 refine Qi ?_
 exact Zb [] (congrArg (fun z => (.tup [(false, [.o 0 z.1]), (false, [.b z.2])] : AV)) (show Y6 s_ d = (((Yd s_ d [] (X1 d))).1, ((Yd s_ d [] (X1 d))).2.2) from rfl).symm)
def Kf (_ : Nat) (a0 : Int) (s0 : Int) : Rd (Int) (Int) (Int) := (bif decide (a0 > s0) then (.next a0) else (.next s0))
def Wc (_ : Nat) (s0 : Int) : Int := s0
def Zn (d : (List Zh)) : Int := (Out.on (Xk Kf Wc (((Q9 d)).1) 0 (-1)) (fun y0 => y0))
theorem Qd8 (d : (List Zh)) : ACalls Tryz.prog 169 [.h d] (.i (Zn d)) := by
 refine Qn (tt := tt) Qb Tryz.func169 (fn := Tryz.f169) rfl (by unfold Z7; kernel_rfl) (Nat.le_of_ble_eq_true rfl) fun w0 F0 => ?_
 refine Qa ?_
 refine rk Qb [(2, .i 0)] [] [] [] [] (o0) ?_
 refine Qa ?_
 refine rk Qb [(3, .o 576 (((Q9 d)).1))] [0] [] [] [(1, .val (.tup [(false, [.o 0 (((Q9 d)).1)]), (false, [.b (((Q9 d)).2)])]))] (o1 (Qe (Qik d))) ?_
 refine Qa ?_
 refine rk Qb [(5, .i (-1))] [] [] [] [] (o0) ?_
 refine Qa ?_
 refine Qa ?_
 refine rk Qb [(6, .i 0)] [] [] [] [] (o0) ?_
 refine wdT 3 0 (.own true 576) (((Q9 d)).1) (fun hw1 => ?_)
 have hl2 : List.length (((Q9 d)).1) ≤ 1073741824 := Qp (hw1)
 refine blk (fun (k0 : Nat) (s0 : Int) => [(5, .i s0), (6, .i ((k0 : Nat) : Int))]) [5, 6] (fun k0 s0 => []) [] (fun (y0 : Int) => [(5, .i y0)]) [3, 5, 6] (fun y0 => []) [] (fun (k0 : Nat) (s0 : Int) => (Xk Kf Wc (((Q9 d)).1) 0 (-1)) = Xk Kf Wc (List.drop k0 (((Q9 d)).1)) k0 s0) (fun (y0 : Int) => (Xk Kf Wc (((Q9 d)).1) 0 (-1)) = .brk y0) ((((Q9 d)).1).length) (-1) (Qc (by kernel_rfl)) rfl (fun k0 s0 hk0 hI0 => ?_) (fun k0 s0 hk0 hI0 => ?_) (fun y0 hD0 => ?_)
 ·
  obtain ⟨a0, hx0⟩ := X8 (l := ((Q9 d)).1) (i := k0) hk0
  refine Qa ?_
  refine Qa ?_
  refine rk Qb [(15, .b true)] [] [] [] [(2, .val (.i ((((Q9 d)).1).length : Int))), (3, .val (.b true))] (o2 (Qf (Xc (((Q9 d)).1))) (o1 (Qf (Qg (decide_eq_true (p := ((k0 : Nat) : Int) < ((((Q9 d)).1).length : Int)) (by omega)))))) ?_
  refine ckT ?_
  refine Qh ?_
  refine Qa ?_
  refine Q4 ?_
  refine Qa ?_
  refine rk Qb [(23, .b (decide (a0 > s0)))] [15] [] [] [(2, .rowE [.i a0])] (o1 (Ql (Xl (i := ((k0 : Nat) : Int)) (by omega) rfl hx0))) ?_
  refine ck (decide (a0 > s0)) (fun h3 => ?_) (fun h3 => ?_)
  ·
   have h3d := of_decide_eq_true h3
   refine rk Qb [(5, .i a0)] [5, 23] [] [] [(2, .rowE [.i a0])] (o1 (Ql (Xl (i := ((k0 : Nat) : Int)) (by omega) rfl hx0))) ?_
   refine rk Qb [(6, .i ((k0 + 1 : Nat) : Int))] [6] [] [] [(1, .val (.i ((k0 + 1 : Nat) : Int)))] (o1 (Qf (Kw (Qs k0 (by omega))))) ?_
   exact Exists.intro a0 (And.intro (Qc (by kernel_rfl)) (Qw hx0 (Yf h3 (rfl)) hI0))
  ·
   have h3d := of_decide_eq_false h3
   refine Qh ?_
   refine rk Qb [(6, .i ((k0 + 1 : Nat) : Int))] [6, 23] [] [] [(1, .val (.i ((k0 + 1 : Nat) : Int)))] (o1 (Qf (Kw (Qs k0 (by omega))))) ?_
   exact Exists.intro s0 (And.intro (Qc (by kernel_rfl)) (Qw hx0 (Qv h3 (rfl)) hI0))
 ·
  refine Qa ?_
  refine Qa ?_
  refine rk Qb [(15, .b false)] [] [] [] [(2, .val (.i ((((Q9 d)).1).length : Int))), (3, .val (.b false))] (o2 (Qf (Xc (((Q9 d)).1))) (o1 (Qf (Qg (decide_eq_false (p := ((k0 : Nat) : Int) < ((((Q9 d)).1).length : Int)) (by omega)))))) ?_
  refine ckF ?_
  refine Xj ?_
  exact Exists.intro s0 (And.intro (Qc (by kernel_rfl)) (X9 hk0 (rfl) hI0))
 ·
  refine Qa ?_
  refine rk Qb [(2, .i y0)] [2, 5] [] [] [] (o0) ?_
  refine Qi ?_
  exact Zb [] (congrArg (fun z => (.i z : AV)) (show Zn d = y0 from Hk hD0 (rfl)).symm)
def W6 (_ : Nat) (a0 : Zh) (s0 : (List Qk)) : Rd ((List Qk) × Int × Bool) ((List Qk)) ((List Qk)) := (.next (s0 ++ [((a0.1, []) : Qk)]))
def Um (_ : Nat) (s0 : (List Qk)) : (List Qk) := s0
def Ve (s_ : X7) (d : (List Zh)) (k1 : Nat) (k3 : Nat) (a3 : Zh) (s3 : (List Qk) × Bool) : Rd (Rd (Rd ((List Qk) × Int × Bool) ((List Qk) × Int) ((List Qk) × Int)) ((List Qk) × Int × Bool) ((List Qk) × Int)) ((List Qk) × Bool) ((List Qk) × Bool) := (bif ((nth (((Q9 d)).1) k3) != ((k1 : Nat) : Int)) then (.next (s3.1, s3.2)) else (bif (!(Z3 (Ys s_ a3.2 s3.1) ((nth s3.1 k3).2))) then (.next (List.set s3.1 k3 ((nth s3.1 k3).1, (Ys s_ a3.2 s3.1)), true)) else (.next (s3.1, s3.2))))
def Hu (_ : Nat) (s3 : (List Qk) × Bool) : (List Qk) × Bool := (s3.1, s3.2)
def V7 (s_ : X7) (d : (List Zh)) (k1 : Nat) (s2 : (List Qk) × Int × Bool) : Rd (Rd ((List Qk) × Int × Bool) ((List Qk) × Int) ((List Qk) × Int)) ((List Qk) × Int × Bool) ((List Qk) × Int) := (bif s2.2.2 then (Out.on (Xk (Ve s_ d k1) Hu d 0 (s2.1, false)) (fun y3 => (.next (y3.1, IntKind.i64.wrap (s2.2.1 + 1), y3.2)))) else (.brk (s2.1, s2.2.1)))
def Hv (s_ : X7) (d : (List Zh)) (k1 : Nat) (s1 : (List Qk) × Int) : Rd ((List Qk) × Int × Bool) ((List Qk) × Int) ((List Qk) × Int) := (Out.on (Qk5 (V7 s_ d k1) (List.length d * List.length s_.2.1 + 2) (s1.1, s1.2, true)) (fun y2 => (.next (y2.1, y2.2))))
def Qcc (_ : Nat) (s1 : (List Qk) × Int) : (List Qk) × Int := (s1.1, s1.2)
def Jz (s_ : X7) (d : (List Zh)) : (List Qk) × Int × Bool := (bif ((!(((Q9 d)).2)) || (!(Yp s_))) then ([], 0, false) else (Out.on (Xk W6 Um d 0 []) (fun y0 => (Out.on (U5 (Hv s_ d) Qcc (Int.toNat ((Zn d) + 1)) 0 (y0, 0)) (fun y1 => (y1.1, y1.2, true))))))
theorem Qrw {B : Int} : ∀ (x : List Int) (k : Nat) (s : Int), (∀ a, a ∈ x → a ≤ B) → s ≤ B → ∃ t, Xk Kf Wc x k s = .brk t ∧ t ≤ B
 | [], k, s, _, h => ⟨s, rfl, h⟩
 | a :: x, k, s, hx, h => by
  simp only [Xk, Kf]
  cases hc : decide (a > s) with
  | true => exact Qrw x (k + 1) a (fun b hb => hx b (List.mem_cons_of_mem _ hb)) (hx a (List.mem_cons_self ..))
  | false => exact Qrw x (k + 1) s (fun b hb => hx b (List.mem_cons_of_mem _ hb)) h
theorem Qg3 {d : List Zh} (h : ((Q9 d)).2 = true) : List.length ((Q9 d)).1 = List.length d ∧ List.length d ≤ 5 ∧ Zn d ≤ 5 := by
 have h' := h
 rw [Hc] at h'
 obtain ⟨h1, h2, h3⟩ := Qc1 h'
 unfold Zn
 rw [Hc]
 obtain ⟨t, e, ht⟩ := Qrw (B := 5) ((Qj d)).1 0 (-1) (fun a ha => (h3 a ha).2) (by omega)
 refine ⟨h1, h2, ?_⟩
 rw [e]; exact ht
theorem Qrx (s_ : X7) (d : List Zh) (k1 : Nat) : StepE s_ d (Qj d).1 (fun _ => true) (k1 : Int) (Ve s_ d k1) := by
 intro k a o c hk
 unfold Ve Qqm
 rw [Qnt, Hc, ← Qpt]
 simp only [bne]
 cases (nth (Qj d).1 k == (k1 : Int)) <;> rfl
section
variable {s_ : X7} {d : List Zh} {k1 : Nat} {o : List Qk} {p : Int}
theorem Qmf (hS : ((Q9 d)).2 = true) (h : EvS d ((Q9 d)).1 (fun _ => true) (List.length s_.2.1) (k1 : Int) o) : ∃ o' p', whl (V7 s_ d k1) (List.length d * List.length s_.2.1 + 2) (o, p, true) = some (.brk (o', p')) ∧ EvS d ((Q9 d)).1 (fun _ => true) (List.length s_.2.1) ((k1 : Int) + 1) o' := by
 rw [Hc] at hS h ⊢
 exact ev_run (f := Ve s_ d k1) (e := Hu) (Qrx s_ d k1) (fun _ _ => rfl) (fun _ => rfl) (Prod.ext rfl hS) h p
theorem l15Run_w (hS : ((Q9 d)).2 = true) (h : EvS d ((Q9 d)).1 (fun _ => true) (List.length s_.2.1) (((k1 : Nat)) : Int) o) : (whl (V7 s_ d k1) (List.length d * List.length s_.2.1 + 2) (o, p, true)).isSome = true := by
 obtain ⟨o', p', h1, _⟩ := Qmf (p := p) hS h
 rw [h1]; rfl
theorem Qd0 {y : List Qk × Int} (hS : ((Q9 d)).2 = true) (h : EvS d ((Q9 d)).1 (fun _ => true) (List.length s_.2.1) (((k1 : Nat)) : Int) o) (hy : Qk5 (V7 s_ d k1) (List.length d * List.length s_.2.1 + 2) (o, p, true) = .brk y) : EvS d ((Q9 d)).1 (fun _ => true) (List.length s_.2.1) ((((k1 + 1) : Nat)) : Int) y.1 := by
 obtain ⟨o', p', h1, h2⟩ := Qmf (p := p) hS h
 unfold Qk5 at hy
 rw [h1] at hy
 have e : (o', p') = y := by simpa using hy
 rw [← e, Int.natCast_add]; exact h2
theorem Ui (hy : Xk W6 Um d 0 [] = .brk o) : EvS d ((Q9 d)).1 (fun _ => true) (List.length s_.2.1) (((0 : Nat)) : Int) o := by
 obtain ⟨h1, h2⟩ := Qi8 (L := ((Q9 d)).1) (on := fun _ => true) (B := List.length s_.2.1) (g := fun _ => []) (f := W6) (e := Um) (d := d) (fun k a s => rfl) (fun j _ hj => rfl)
 rw [h1] at hy
 have e : (d.map fun a => ((a.1, ([] : List Int)) : Qk)) = o := Out.brk.inj hy
 rw [← e]; exact h2
end
theorem Qpy (s_ : X7) (d : (List Zh)) : ACalls Tryz.prog 126 [.a [.h s_.1, .h s_.2.1, .i s_.2.2], .h d] (.tup [(false, [.o 0 (((Jz s_ d)).1)]), (false, [.i (((Jz s_ d)).2.1)]), (false, [.b (((Jz s_ d)).2.2)])]) := by
 refine Qn (tt := tt) Qb Tryz.func126 (fn := Tryz.f126) rfl (by unfold Z7; kernel_rfl) (Nat.le_of_ble_eq_true rfl) fun w0 F0 => ?_
 refine Qa ?_
 refine rk Qb [(2, .p 2 0), (4, .e 0), (5, .i 0), (6, .b false)] [0] [(2, [.h s_.1, .h s_.2.1, .i s_.2.2])] [] [] (o0) ?_
 refine Qa ?_
 refine rk Qb [(7, .o 1152 (((Q9 d)).1)), (8, .b (((Q9 d)).2))] [] [] [] [(1, .val (.tup [(false, [.o 0 (((Q9 d)).1)]), (false, [.b (((Q9 d)).2)])]))] (o1 (Qe (Qik d))) ?_
 refine Qa ?_
 refine Qa ?_
 refine jn [(27, .b ((!(((Q9 d)).2)) || (!(Yp s_))))] [8] [] [] (!(((Q9 d)).2)) (fun h1 => ?_) (fun h1 => ?_) ?_
 ·
  have h1n : (((Q9 d)).2) = false := Qa3 h1
  refine rk Qb [(27, .b true)] [8] [] [] [(0, .val (.b false)), (1, .val (.b true))] (o2 (Qf (Qg h1n)) (o1 (Qf (show .b (!false) = .b true from rfl)))) ?_
  exact ⟨rfl, Qc (by rw [h1]; first | done | kernel_rfl)⟩
 ·
  have h1n : (((Q9 d)).2) = true := Vo h1
  have h1nsf := Qg3 h1n
  refine rk Qb [(27, .b (!(Yp s_)))] [8] [] [] [(0, .val (.b true)), (1, .val (.b false)), (4, .val (.b (Yp s_)))] (o2 (Qf (Qg h1n)) (o2 (Qf (show .b (!true) = .b false from rfl)) (o1 (Qe (Qc0 s_))))) ?_
  exact ⟨rfl, Qc (by rw [h1]; first | done | kernel_rfl)⟩
 refine ck ((!(((Q9 d)).2)) || (!(Yp s_))) (fun h2 => ?_) (fun h2 => ?_)
 ·
  refine Qa ?_
  refine rk Qb [(4, .one (.slc (.own true 1792) 2 []))] [4, 27] [] [] [] (o0) ?_
  refine Qi ?_
  exact Zb [] (congrArg (fun z => (.tup [(false, [.o 0 z.1]), (false, [.i z.2.1]), (false, [.b z.2.2])] : AV)) (show Jz s_ d = ([], 0, false) from Yf h2 (rfl)).symm)
 ·
  have h2l : ((!(((Q9 d)).2))) = false := Qra h2
  have h2ln : (((Q9 d)).2) = true := Vo h2l
  have h2lnsf := Qg3 h2ln
  have h2r : ((!(Yp s_))) = false := Qul h2
  have h2rn : (Yp s_) = true := Vo h2r
  refine Qh ?_
  refine Qa ?_
  refine rk Qb [(9, .one (.slc (.own true 1856) 2 []))] [27] [] [] [] (o0) ?_
  refine Qa ?_
  refine Qa ?_
  refine rk Qb [(10, .i 0)] [] [] [] [] (o0) ?_
  refine wdT 1 0 .sh d (fun hw3 => ?_)
  have hl4 : List.length d ≤ 1073741824 := Qp (hw3)
  refine blk (fun (k0 : Nat) (s0 : (List Qk)) => [(9, .o 147206 s0), (10, .i ((k0 : Nat) : Int))]) [9, 10] (fun k0 s0 => []) [] (fun (y0 : (List Qk)) => [(9, .o 147356 y0)]) [9, 10] (fun y0 => []) [] (fun (k0 : Nat) (s0 : (List Qk)) => (Xk W6 Um d 0 []) = Xk W6 Um (List.drop k0 d) k0 s0 ∧ List.length s0 ≤ k0) (fun (y0 : (List Qk)) => (Xk W6 Um d 0 []) = .brk y0) d.length [] (Zg [(1856, 147206)] (by kernel_rfl)) ⟨rfl, (by simp)⟩ (fun k0 s0 hk0 hI0 => ?_) (fun k0 s0 hk0 hI0 => ?_) (fun y0 hD0 => ?_)
  ·
   have hA0_0 := hI0.2
   obtain ⟨a0, hx0⟩ := X8 (l := d) (i := k0) hk0
   refine Qa ?_
   refine Qa ?_
   refine rk Qb [(33, .b true)] [] [] [] [(2, .val (.i (d.length : Int))), (3, .val (.b true))] (o2 (Qf (Xc d)) (o1 (Qf (Qg (decide_eq_true (p := ((k0 : Nat) : Int) < (d.length : Int)) (by omega)))))) ?_
   refine ckT ?_
   refine Qh ?_
   refine Qa ?_
   refine Q4 ?_
   refine wdT 9 0 (.own true 147206) s0 (fun hw5 => ?_)
   have hl6 : List.length s0 ≤ 1073741824 := Qp (hw5)
   refine rk Qb [(9, .one (.slc (.own true 2880) 2 ((eL s0) ++ [[.s a0.1, .slc 1 []]])))] [9, 33] [] [] [(3, .row [.s a0.1, .h a0.2])] (o2 (Ql (Xl (i := ((k0 : Nat) : Int)) (by omega) rfl hx0)) (o1 (V8 (Wq (Xa s0) (Xa [((a0.1, []) : Qk)]) (by first | omega | (simp; omega) | simp))))) ?_
   refine eqn [(9, .o 2880 (s0 ++ [((a0.1, []) : Qk)]))] [9] [] [] (by rw [show ((eL s0) ++ [[.s a0.1, .slc 1 []]]) = (eL (s0 ++ [((a0.1, []) : Qk)])) from Qaw (rfl) (rfl)]; first | done | kernel_rfl) ?_
   refine rk Qb [(10, .i ((k0 + 1 : Nat) : Int))] [10] [] [] [(1, .val (.i ((k0 + 1 : Nat) : Int)))] (o1 (Qf (Kw (Qs k0 (by omega))))) ?_
   exact Exists.intro (s0 ++ [((a0.1, []) : Qk)]) (And.intro (Zg [(2880, 147206)] (by kernel_rfl)) ⟨Qw hx0 (rfl) hI0.1, by first | omega | (simp; omega) | simp⟩)
  ·
   have hA0_0 := hI0.2
   refine Qa ?_
   refine Qa ?_
   refine rk Qb [(33, .b false)] [] [] [] [(2, .val (.i (d.length : Int))), (3, .val (.b false))] (o2 (Qf (Xc d)) (o1 (Qf (Qg (decide_eq_false (p := ((k0 : Nat) : Int) < (d.length : Int)) (by omega)))))) ?_
   refine ckF ?_
   refine Xj ?_
   exact Exists.intro s0 (And.intro (Zg [(147206, 147356)] (by kernel_rfl)) (X9 hk0 (rfl) hI0.1))
  ·
   refine Qa ?_
   refine rk Qb [(11, .i 0)] [] [] [] [] (o0) ?_
   refine Qa ?_
   refine Qa ?_
   refine rk Qb [(12, .i 0)] [] [] [] [] (o0) ?_
   refine blk (fun (k1 : Nat) (s1 : (List Qk) × Int) => [(9, .o 147356 s1.1), (11, .i s1.2), (12, .i ((k1 : Nat) : Int))]) [9, 11, 12] (fun k1 s1 => []) [] (fun (y1 : (List Qk) × Int) => [(9, .o 147356 y1.1), (11, .i y1.2)]) [1, 2, 7, 9, 11, 12] (fun y1 => []) [2] (fun (k1 : Nat) (s1 : (List Qk) × Int) => (U5 (Hv s_ d) Qcc (Int.toNat ((Zn d) + 1)) 0 (y0, 0)) = U5 (Hv s_ d) Qcc ((Int.toNat ((Zn d) + 1)) - k1) k1 s1 ∧ EvS d ((Q9 d)).1 (fun _ => true) (List.length s_.2.1) (((k1 : Nat)) : Int) s1.1 ∧ List.length s1.1 = List.length d) (fun (y1 : (List Qk) × Int) => (U5 (Hv s_ d) Qcc (Int.toNat ((Zn d) + 1)) 0 (y0, 0)) = .brk y1) (Int.toNat ((Zn d) + 1)) (y0, 0) (Qc (by kernel_rfl)) ⟨rfl, (by first | exact Ui hD0 | exact Ui hD0.1 | exact Qb2 (B := List.length s_.2.1) (Ui hD0) | exact Qb2 (B := List.length s_.2.1) (Ui hD0.1)), (by first | exact Ui hD0 | exact Ui hD0.1 | exact Qb2 (B := List.length s_.2.1) (Ui hD0) | exact Qb2 (B := List.length s_.2.1) (Ui hD0.1))⟩ (fun k1 s1 hk1 hI1 => ?_) (fun k1 s1 hk1 hI1 => ?_) (fun y1 hD1 => ?_)
   ·
    have hA1_0 := hI1.2.1
    have hA1_1 := hI1.2.2
    refine Qa ?_
    refine Qa ?_
    refine rk Qb [(49, .b true)] [] [] [] [(2, .val (.i (Zn d))), (3, .val (.b true))] (o2 (Qe (Qd8 d)) (o1 (Qf (Qg (decide_eq_true (p := ((k1 : Nat) : Int) ≤ (Zn d)) (by omega)))))) ?_
    refine ckT ?_
    refine Qh ?_
    refine Qa ?_
    refine Q4 ?_
    refine Qa ?_
    refine rk Qb [(13, .b true)] [49] [] [] [] (o0) ?_
    refine blw (fun (s2 : (List Qk) × Int × Bool) => [(9, .o 147356 s2.1), (11, .i s2.2.1), (13, .b s2.2.2)]) [9, 11, 13] (fun s2 => []) [] (fun (y2 : (List Qk) × Int) => [(9, .o 147356 y2.1), (11, .i y2.2)]) [9, 11, 13] (fun y2 => []) [] (fun (k2 : Nat) (s2 : (List Qk) × Int × Bool) => whl (V7 s_ d k1) k2 s2 = some (Qk5 (V7 s_ d k1) (List.length d * List.length s_.2.1 + 2) (s1.1, s1.2, true)) ∧ List.length s2.1 = List.length d) (fun (y2 : (List Qk) × Int) => (Qk5 (V7 s_ d k1) (List.length d * List.length s_.2.1 + 2) (s1.1, s1.2, true)) = .brk y2) (List.length d * List.length s_.2.1 + 2) (s1.1, s1.2, true) (Qc (by kernel_rfl)) ⟨Qm7 (l15Run_w (by assumption) (by assumption)), (by assumption)⟩ (fun _ h => Qm8 h.1) (fun k2 s2 hI2 => ?_) (fun y2 hD2 => ?_)
    ·
     have hA2_0 := hI2.2
     refine Qa ?_
     refine Qa ?_
     refine rk Qb [(52, .b s2.2.2)] [] [] [] [] (o0) ?_
     refine ck s2.2.2 (fun h7 => ?_) (fun h7 => ?_)
     ·
      refine Qh ?_
      refine Q4 ?_
      refine Qa ?_
      refine rk Qb [(13, .b false)] [13, 52] [] [] [] (o0) ?_
      refine Qa ?_
      refine rk Qb [(11, .i (IntKind.i64.wrap (s2.2.1 + 1)))] [11] [] [] [] (o0) ?_
      refine Qa ?_
      refine rk Qb [(14, .i 0)] [] [] [] [] (o0) ?_
      refine blk (fun (k3 : Nat) (s3 : (List Qk) × Bool) => [(9, .o 147356 s3.1), (13, .b s3.2), (14, .i ((k3 : Nat) : Int))]) [9, 13, 14] (fun k3 s3 => []) [] (fun (y3 : (List Qk) × Bool) => [(9, .o 147356 y3.1), (13, .b y3.2)]) [9, 13, 14] (fun y3 => []) [] (fun (k3 : Nat) (s3 : (List Qk) × Bool) => (Xk (Ve s_ d k1) Hu d 0 (s2.1, false)) = Xk (Ve s_ d k1) Hu (List.drop k3 d) k3 s3 ∧ List.length s3.1 = List.length s2.1) (fun (y3 : (List Qk) × Bool) => (Xk (Ve s_ d k1) Hu d 0 (s2.1, false)) = .brk y3 ∧ List.length y3.1 = List.length s2.1) d.length (s2.1, false) (Qc (by kernel_rfl)) ⟨rfl, (by simp)⟩ (fun k3 s3 hk3 hI3 => ?_) (fun k3 s3 hk3 hI3 => ?_) (fun y3 hD3 => ?_)
      ·
       have hA3_0 := hI3.2
       obtain ⟨a3, hx3⟩ := X8 (l := d) (i := k3) hk3
       refine Qa ?_
       refine Qa ?_
       refine rk Qb [(58, .b true)] [] [] [] [(2, .val (.i (d.length : Int))), (3, .val (.b true))] (o2 (Qf (Xc d)) (o1 (Qf (Qg (decide_eq_true (p := ((k3 : Nat) : Int) < (d.length : Int)) (by omega)))))) ?_
       refine ckT ?_
       refine Qh ?_
       refine Qa ?_
       refine Q4 ?_
       refine Qa ?_
       refine Qa ?_
       refine wdT 7 0 (.own true 1152) (((Q9 d)).1) (fun hw9 => ?_)
       have hl10 : List.length (((Q9 d)).1) ≤ 1073741824 := Qp (hw9)
       have hx8 : (((Q9 d)).1)[k3]? = some (nth (((Q9 d)).1) k3) := X3 (by omega)
       refine rk Qb [(66, .b ((nth (((Q9 d)).1) k3) != ((k1 : Nat) : Int)))] [58] [] [] [(2, .rowE [.i (nth (((Q9 d)).1) k3)])] (o1 (Ql (Xl (i := ((k3 : Nat) : Int)) (by omega) rfl hx8))) ?_
       refine ck ((nth (((Q9 d)).1) k3) != ((k1 : Nat) : Int)) (fun h11 => ?_) (fun h11 => ?_)
       ·
        have h11d := Qj3 h11
        refine Xj ?_
        refine rk Qb [(14, .i ((k3 + 1 : Nat) : Int))] [14, 66] [] [] [(1, .val (.i ((k3 + 1 : Nat) : Int)))] (o1 (Qf (Kw (Qs k3 (by omega))))) ?_
        exact Exists.intro (s3.1, s3.2) (And.intro (Qc (by kernel_rfl)) ⟨Qw hx3 (Yf h11 (rfl)) hI3.1, (by first | omega | (simp only [List.length_set]; omega))⟩)
       ·
        have h11d := H4 h11
        refine Qh ?_
        refine Qa ?_
        refine rd' Qb Zv [(15, .o 4736 (Ys s_ a3.2 s3.1))] [66] [] [] [(3, .row [.s a3.1, .h a3.2]), (7, .val (.o 0 (Ys s_ a3.2 s3.1)))] (o2 (Ql (Xl (i := ((k3 : Nat) : Int)) (by omega) rfl hx3)) (o1 (Qe (Qh3 s_ a3.2 s3.1)))) ?_
        refine Qa ?_
        refine wdT 9 0 (.own true 147356) s3.1 (fun hw13 => ?_)
        have hl14 : List.length s3.1 ≤ 1073741824 := Qp (hw13)
        have hx12 : s3.1[k3]? = some (nth s3.1 k3) := X3 (by omega)
        refine rk Qb [(82, .b (!(Z3 (Ys s_ a3.2 s3.1) ((nth s3.1 k3).2))))] [] [] [] [(3, .rowE [.s ((nth s3.1 k3).1), .h ((nth s3.1 k3).2)]), (6, .val (.b (Z3 (Ys s_ a3.2 s3.1) ((nth s3.1 k3).2))))] (o2 (Ql (Xl (i := ((k3 : Nat) : Int)) (by omega) rfl hx12)) (o1 (Qe (Qg1 (Ys s_ a3.2 s3.1) ((nth s3.1 k3).2))))) ?_
        refine ck (!(Z3 (Ys s_ a3.2 s3.1) ((nth s3.1 k3).2))) (fun h15 => ?_) (fun h15 => ?_)
        ·
         have h15n : (Z3 (Ys s_ a3.2 s3.1) ((nth s3.1 k3).2)) = false := Qa3 h15
         refine Qa ?_
         refine rk Qb [(9, .one (.slc (.own true 147356) 2 (setRow (eL s3.1) k3 1 [.h (Ys s_ a3.2 s3.1)])))] [9, 15, 82] [] [] [(3, .rowE [.s ((nth s3.1 k3).1), .h ((nth s3.1 k3).2)])] (o1 (Ql (Xl (i := ((k3 : Nat) : Int)) (by omega) rfl hx12))) ?_
         refine eqn [(9, .o 147356 (List.set s3.1 k3 ((nth s3.1 k3).1, (Ys s_ a3.2 s3.1))))] [9] [] [] (by rw [Kd (y := ((nth s3.1 k3).1, (Ys s_ a3.2 s3.1))) hx12 rfl]; first | done | kernel_rfl) ?_
         refine rk Qb [(13, .b true)] [13] [] [] [] (o0) ?_
         refine rk Qb [(14, .i ((k3 + 1 : Nat) : Int))] [14] [] [] [(1, .val (.i ((k3 + 1 : Nat) : Int)))] (o1 (Qf (Kw (Qs k3 (by omega))))) ?_
         exact Exists.intro (List.set s3.1 k3 ((nth s3.1 k3).1, (Ys s_ a3.2 s3.1)), true) (And.intro (Qc (by kernel_rfl)) ⟨Qw hx3 (Qv h11 (Yf h15 (rfl))) hI3.1, (by first | omega | (simp only [List.length_set]; omega))⟩)
        ·
         have h15n : (Z3 (Ys s_ a3.2 s3.1) ((nth s3.1 k3).2)) = true := Vo h15
         refine Qh ?_
         refine rk Qb [(14, .i ((k3 + 1 : Nat) : Int))] [14, 15, 82] [] [] [(1, .val (.i ((k3 + 1 : Nat) : Int)))] (o1 (Qf (Kw (Qs k3 (by omega))))) ?_
         exact Exists.intro (s3.1, s3.2) (And.intro (Qc (by kernel_rfl)) ⟨Qw hx3 (Qv h11 (Qv h15 (rfl))) hI3.1, (by first | omega | (simp only [List.length_set]; omega))⟩)
      ·
       have hA3_0 := hI3.2
       refine Qa ?_
       refine Qa ?_
       refine rk Qb [(58, .b false)] [] [] [] [(2, .val (.i (d.length : Int))), (3, .val (.b false))] (o2 (Qf (Xc d)) (o1 (Qf (Qg (decide_eq_false (p := ((k3 : Nat) : Int) < (d.length : Int)) (by omega)))))) ?_
       refine ckF ?_
       refine Xj ?_
       exact Exists.intro (s3.1, s3.2) (And.intro (Qc (by kernel_rfl)) ⟨X9 hk3 (rfl) hI3.1, by first | omega | (simp only [List.length_set]; omega)⟩)
      ·
       have hD3_0 := hD3.2
       exact Exists.intro (y3.1, IntKind.i64.wrap (s2.2.1 + 1), y3.2) (And.intro (Qc (by kernel_rfl)) ⟨Qm6 (Yf h7 (Hk hD3.1 (rfl))) hI2.1, (by first | omega | (simp only [List.length_set]; omega))⟩)
     ·
      refine Xj ?_
      exact Exists.intro (s2.1, s2.2.1) (And.intro (Qc (by kernel_rfl)) (Qq9 (Qv h7 (rfl)) hI2.1))
    ·
     refine rk Qb [(12, .i ((k1 + 1 : Nat) : Int))] [12] [] [] [(1, .val (.i ((k1 + 1 : Nat) : Int)))] (o1 (Qf (Kw (Qs k1 (by omega))))) ?_
     exact Exists.intro (y2.1, y2.2) (And.intro (Qc (by kernel_rfl)) ⟨V0 hk1 (Hk hD2 (rfl)) hI1.1, (by first | exact Qd0 (by assumption) (by assumption) (by assumption) | exact Qb2 (B := List.length s_.2.1) (Qd0 (by assumption) (by assumption) (by assumption))), (by first | exact Qd0 (by assumption) (by assumption) (by assumption) | exact Qb2 (B := List.length s_.2.1) (Qd0 (by assumption) (by assumption) (by assumption)))⟩)
   ·
    have hA1_0 := hI1.2.1
    have hA1_1 := hI1.2.2
    refine Qa ?_
    refine Qa ?_
    refine rk Qb [(49, .b false)] [] [] [] [(2, .val (.i (Zn d))), (3, .val (.b false))] (o2 (Qe (Qd8 d)) (o1 (Qf (Qg (decide_eq_false (p := ((k1 : Nat) : Int) ≤ (Zn d)) (by omega)))))) ?_
    refine ckF ?_
    refine Xj ?_
    exact Exists.intro (s1.1, s1.2) (And.intro (Qc (by kernel_rfl)) (Qb8 hk1 (rfl) hI1.1))
   ·
    refine Qa ?_
    refine rk Qb [(4, .o 147356 y1.1), (5, .i y1.2), (6, .b true)] [4, 5, 6, 9, 11] [] [] [] (o0) ?_
    refine Qi ?_
    exact Zb [] (congrArg (fun z => (.tup [(false, [.o 0 z.1]), (false, [.i z.2.1]), (false, [.b z.2.2])] : AV)) (show Jz s_ d = (y1.1, y1.2, true) from Qv h2 (Hk hD0 (Hk hD1 (rfl)))).symm)
def Kg (s_ : X7) (d : (List Zh)) : (List Qk) × Bool := (((Jz s_ d)).1, ((Jz s_ d)).2.2)
theorem Qlb (s_ : X7) (d : (List Zh)) : ACalls Tryz.prog 88 [.a [.h s_.1, .h s_.2.1, .i s_.2.2], .h d] (.tup [(false, [.o 0 (((Kg s_ d)).1)]), (false, [.b (((Kg s_ d)).2)])]) := by
 refine Qn (tt := tt) Qb Tryz.func88 (fn := Tryz.f88) rfl (by unfold Z7; kernel_rfl) (Nat.le_of_ble_eq_true rfl) fun w0 F0 => ?_
 refine Qa ?_
 refine rk Qb [(2, .p 2 0), (4, .e 0), (5, .b false)] [0] [(2, [.h s_.1, .h s_.2.1, .i s_.2.2])] [] [] (o0) ?_
 refine Qa ?_
 refine rk Qb [(6, .o 768 (((Jz s_ d)).1)), (8, .b (((Jz s_ d)).2.2))] [1, 2] [] [2] [(2, .val (.tup [(false, [.o 0 (((Jz s_ d)).1)]), (false, [.i (((Jz s_ d)).2.1)]), (false, [.b (((Jz s_ d)).2.2)])]))] (o1 (Qe (Qpy s_ d))) ?_
 refine Qa ?_
 refine rk Qb [(4, .o 768 (((Jz s_ d)).1)), (5, .b (((Jz s_ d)).2.2))] [4, 5, 6, 8] [] [] [] (o0) ?_
 refine Qi ?_
 exact Zb [] (congrArg (fun z => (.tup [(false, [.o 0 z.1]), (false, [.b z.2])] : AV)) (show Kg s_ d = (((Jz s_ d)).1, ((Jz s_ d)).2.2) from rfl).symm)
end Go.Proofs.YtnhmnfmhnepjmaaGreat
namespace Go.Proofs.YtnhmnfmhnepjmaaGreat
open Go.RowKit
theorem Qpz (v : ByteArray) (l : List ByteArray) : Q6 l v = true ↔ v ∈ l := by
  unfold Q6 Ju
  have key : ∀ (l : List ByteArray) (k : Nat), (0 : Int) ≤ ((Xk (Jg v) Ke l k ()).on fun _ => -1) ↔ v ∈ l := by
    intro l
    induction l with
    | nil => intro k; simp [Xk, Out.on]
    | cons a l ih =>
      intro k
      simp only [Xk, Jg]
      have hab : (v.toList == a.toList) = decide (v = a) := toList_inj
      cases hc : (v.toList == a.toList) with
      | true =>
        obtain rfl : v = a := by rw [hc] at hab; exact of_decide_eq_true hab.symm
        simp [Out.on]
      | false =>
        have h : v ≠ a := by rw [hc] at hab; exact of_decide_eq_false hab.symm
        simp only [cond_false]
        refine (ih (k + 1)).trans ?_
        simp [h]
  exact decide_eq_true_iff.trans (key l 0)
theorem Qry (d : List Zh) : X1 d = d.map (·.1) := by
  unfold X1
  rw [Qgm (f := Hf) (g := fun a : Zh => a.1) (fun _ _ _ => rfl)]
  simp [Out.on, Hg]
theorem Qet {d : List Zh} {i : Nat} {a : Zh} (h : d[i]? = some a) : Q6 (X1 d) a.1 = true := by
  rw [Qpz, Qry]
  exact List.mem_map.2 ⟨a, List.mem_of_getElem? h, rfl⟩
/-! ### the greatest stratum -/
theorem Qtr (x : List Int) : ∀ (n k : Nat) (s : Int), k + 1 + n = x.length → U5 (Kz x) Wr n k s = .brk ((x.drop (k + 1)).foldl max s)
  | 0, k, s, h => by rw [List.drop_eq_nil_of_le (by omega)]; rfl
  | n + 1, k, s, h => by
    have hg : x[k + 1]? = some (nth x (k + 1)) := X3 (by omega)
    rw [Qm5 hg]
    simp only [U5, Kz, List.foldl_cons]
    exact Qtr x n (k + 1) _ (by omega)
theorem Qkr : ∀ (x : List Int) (k : Nat) (s : Int), Xk Kf Wc x k s = .brk (x.foldl max s)
  | [], k, s => rfl
  | a :: x, k, s => by
    simp only [Xk, Kf, List.foldl_cons]
    by_cases h : a > s
    · rw [decide_eq_true h, cond_true, show max s a = a by omega]; exact Qkr x (k + 1) a
    · rw [decide_eq_false h, cond_false, show max s a = s by omega]; exact Qkr x (k + 1) s
theorem Qnv (d : List Zh) : Zn d = Y2 d := by
  unfold Zn Y2
  rw [Hc, Qkr]
  simp only [Out.on]
  cases hs : (Qj d).2 with
  | false =>
    have : (Qj d).1 = [] := by
      unfold Qj at hs ⊢
      cases hv : Y4 d with
      | false => rfl
      | true =>
        rw [hv] at hs
        simp only [Bool.not_true, cond_false] at hs ⊢
        have h5 := Qcs hv
        have hw := Qdh (d := d) (f := Vb d) (e := Vc) (F := Vd d) (fun _ _ _ => rfl) (fun _ _ => rfl) (fun _ => rfl) (by omega) (d.length * d.length + 3) (List.replicate d.length 0) true (Qah _).1 (Qah _).2
        have hsome : (Qhw (Z6 d) d.length d.length (d.length * d.length + 3) (true, List.replicate d.length 0)).isSome = true := by
          have := Qbv d h5
          rw [Int.toNat_natCast, hw, Option.isSome_map] at this
          exact this
        obtain ⟨r, hr⟩ := Option.isSome_iff_exists.1 hsome
        unfold Qk5 at hs ⊢
        rw [Int.toNat_natCast, hw, hr] at hs ⊢
        cases r with
        | none => rfl
        | some M => simp [endD, Out.on] at hs
    rw [this]; rfl
  | true =>
    obtain ⟨h1, h2, h3⟩ := Qc1 hs
    simp only [Bool.not_true, Bool.false_or]
    generalize (Qj d).1 = x at h3
    cases x with
    | nil => rfl
    | cons a x =>
      have h0 := (h3 a (List.mem_cons_self ..)).1
      have e : ((((a :: x).length : Nat) : Int) == (0 : Int)) = false := by
        rw [beq_eq_false_iff_ne, List.length_cons]; omega
      rw [e, cond_false]
      unfold W3
      rw [Qtr _ _ _ _ (by simp; omega)]
      simp only [Out.on, List.foldl_cons, Nat.zero_add, List.drop_succ_cons, List.drop_zero]
      have e2 : nth (a :: x) 0 = a := rfl
      rw [show max (-1) a = a by omega, e2]
/-! ### the evaluation -/
theorem l15_f3 (s : X7) (d : List Zh) (k1 k : Nat) (a : Zh) (t : List Qk × Bool) (h : d[k]? = some a) : Ve s d k1 k a t = Jj s d (X1 d) k1 k a t := by
  unfold Ve Jj
  rw [Qet h, Hc, ← Qpt, Qnt, eqI_dec]
  simp
theorem l15_f2 (s : X7) (d : List Zh) (k1 : Nat) : V7 s d k1 = J4 s d (X1 d) k1 := by
  funext t
  unfold V7 J4
  rw [Qce (f := Ve s d k1) (g := Jj s d (X1 d) k1) (e := Hu) (e' := Ws) (fun _ _ => rfl) d 0 _ (fun i a t h => by rw [Nat.zero_add]; exact l15_f3 s d k1 i a t h)]
theorem l15_eq (s : X7) (d : List Zh) : Jz s d = Yd s d [] (X1 d) := by
  unfold Jz Yd
  rw [Hc, Qtm, Qnv]
  rw [Qce (f := W6) (g := Zi [] (X1 d)) (e := Um) (e' := Zx) (fun _ _ => rfl) d 0 _ (fun i a t h => by unfold W6 Zi; rw [Qet h]; rfl)]
  congr 1
  congr 1
  funext y
  rw [show Hv s d = Jk s d (X1 d) from by funext k t; unfold Hv Jk; rw [l15_f2]]
  rfl
theorem Qrz (s : X7) (d : List Zh) : Kg s d = Y6 s d := by
  unfold Kg Y6
  rw [l15_eq]
theorem Qp0 {s : X7} {d : List Zh} {names : List ByteArray} {r : List Qk} (h : (Yd s d r names).2.2 = true) : List.length d ≤ 5 ∧ Xm s = true ∧ (Yd s d r names).1.map (·.1) = d.map (·.1) ∧ ∀ j, j < d.length → onD d names j = true → (nth (Yd s d r names).1 j).2.length ≤ s.2.1.length := by
  unfold Yd at h ⊢
  cases hc : ((!(((Qj d)).2)) || (!(Xm s))) with
  | true => rw [hc] at h; simp at h
  | false =>
    have hs : ((Qj d)).2 = true := Vo (Qra hc)
    have hv : Xm s = true := Vo (Qul hc)
    simp only [cond_false]
    obtain ⟨h1, h2⟩ := Qi8 (L := ((Qj d)).1) (on := onD d names) (B := List.length s.2.1) (g := Qfk r names) (f := Zi r names) (e := Zx) (d := d) (fun k a s => by
      unfold Zi Qfk
      cases Q6 names a.1 <;> rfl) (fun j _ hj => by unfold onD at hj; unfold Qfk; rw [hj]; rfl)
    rw [h1]
    have key : ∀ (n k : Nat) (o : List Qk) (p : Int), EvS d ((Qj d)).1 (onD d names) (List.length s.2.1) (((k : Nat)) : Int) o → ∃ o' p', U5 (Jk s d names) Wt n k (o, p) = .brk (o', p') ∧ EvS d ((Qj d)).1 (onD d names) (List.length s.2.1) (((k + n : Nat)) : Int) o' := by
      intro n
      induction n with
      | zero => intro k o p ho; exact ⟨o, p, rfl, ho⟩
      | succ n ih =>
        intro k o p ho
        obtain ⟨o1, p1, g1, g2⟩ := Qcb (p := p) hs ho
        obtain ⟨o2, p2, g3, g4⟩ := ih (k + 1) o1 p1 (by rw [Int.natCast_add]; exact g2)
        refine ⟨o2, p2, ?_, by rw [show k + (n + 1) = k + 1 + n by omega]; exact g4⟩
        simp only [U5]
        unfold Jk Qk5
        rw [g1]
        exact g3
    obtain ⟨o, p, g1, g2⟩ := key (Int.toNat (Y2 d + 1)) 0 _ 0 h2
    simp only [Out.on, Zx]
    rw [g1]
    exact ⟨(Qc1 hs).2.1, hv, g2.names, fun j hj hon => g2.short j hj hon⟩
theorem Qr0 {s : X7} {d : List Zh} (h : (Y6 s d).2 = true) : List.length d ≤ 5 ∧ Xm s = true ∧ (Y6 s d).1.map (·.1) = d.map (·.1) ∧ ∀ x, x ∈ (Y6 s d).1 → x.2.length ≤ s.2.1.length := by
  unfold Y6 at h ⊢
  obtain ⟨h1, h2, h3, h4⟩ := Qp0 h
  refine ⟨h1, h2, h3, fun x hx => ?_⟩
  obtain ⟨i, hi⟩ := List.getElem?_of_mem hx
  have hlen : (Yd s d [] (X1 d)).1.length = d.length := by have := congrArg List.length h3; simpa using this
  have hi' : i < (Yd s d [] (X1 d)).1.length := (List.getElem?_eq_some_iff.1 hi).1
  have hil : i < d.length := by omega
  have := h4 i hil (by unfold onD; exact Qet (X3 hil))
  rw [Ql0 hi] at this
  exact this
theorem Qr1 {s : X7} {d : List Zh} (h : (Y6 s d).2 = false) : (Y6 s d).1 = [] := by
  unfold Y6 at h ⊢
  unfold Yd at h ⊢
  cases hc : ((!(((Qj d)).2)) || (!(Xm s))) with
  | true => rfl
  | false =>
    exfalso
    have hs : ((Qj d)).2 = true := Vo (Qra hc)
    rw [hc] at h
    simp only [cond_false] at h
    obtain ⟨h1, h2⟩ := Qi8 (L := ((Qj d)).1) (on := onD d (X1 d)) (B := List.length s.2.1) (g := Qfk [] (X1 d)) (f := Zi [] (X1 d)) (e := Zx) (d := d) (fun k a s => by
      unfold Zi Qfk
      cases Q6 (X1 d) a.1 <;> rfl) (fun j _ hj => by unfold onD at hj; unfold Qfk; rw [hj]; rfl)
    rw [h1] at h
    have key : ∀ (n k : Nat) (o : List Qk) (p : Int), EvS d ((Qj d)).1 (onD d (X1 d)) (List.length s.2.1) (((k : Nat)) : Int) o → ∃ y, U5 (Jk s d (X1 d)) Wt n k (o, p) = .brk y := by
      intro n
      induction n with
      | zero => intro k o p ho; exact ⟨_, rfl⟩
      | succ n ih =>
        intro k o p ho
        obtain ⟨o1, p1, g1, g2⟩ := Qcb (p := p) hs ho
        obtain ⟨y, g3⟩ := ih (k + 1) o1 p1 (by rw [Int.natCast_add]; exact g2)
        refine ⟨y, ?_⟩
        simp only [U5]
        unfold Jk Qk5
        rw [g1]
        exact g3
    obtain ⟨y, g1⟩ := key (Int.toNat (Y2 d + 1)) 0 _ 0 h2
    simp only [Out.on, Zx] at h
    rw [g1] at h
    cases h
open GoE (enc wide)
def Qbi (f : Yt) (user : Int) : Bool := ((Jy user) && ((f.2.1 == user) || f.2.2.1))
theorem Qnw (f : Yt) (user : Int) : ACalls Tryz.prog 137 [.a [.i f.1, .i f.2.1, .b f.2.2.1, .i f.2.2.2.1, .h f.2.2.2.2], .i user] (.b (Qbi f user)) := by
 refine Qn (tt := tt) Qb Tryz.func137 (fn := Tryz.f137) rfl (by unfold Z7; kernel_rfl) (Nat.le_of_ble_eq_true rfl) fun w0 F0 => ?_
 refine Qa ?_
 refine rk Qb [(2, .p 2 0), (4, .b false)] [0] [(2, [.i f.1, .i f.2.1, .b f.2.2.1, .i f.2.2.2.1, .h f.2.2.2.2])] [] [] (o0) ?_
 refine Qa ?_
 refine jn [(4, .b ((Jy user) && ((f.2.1 == user) || f.2.2.1)))] [1, 2, 4] [] [2] (Jy user) (fun h1 => ?_) (fun h1 => ?_) ?_
 ·
  refine X4 (f.2.1 == user) (fun h2 => ?_) (fun h2 => ?_)
  ·
   refine rk Qb [(4, .b true)] [1, 2, 4] [] [2] [(1, .val (.b true)), (6, .val (.b true))] (o2 (Qe (cb h1 (Hd user))) (o1 (Qf (Qg h2)))) ?_
   exact ⟨rfl, Qc (by rw [h1, h2]; first | done | kernel_rfl)⟩
  ·
   refine rk Qb [(4, .b f.2.2.1)] [1, 2, 4] [] [2] [(1, .val (.b true)), (6, .val (.b false))] (o2 (Qe (cb h1 (Hd user))) (o1 (Qf (Qg h2)))) ?_
   exact ⟨rfl, Qc (by rw [h1, h2]; first | done | kernel_rfl)⟩
 ·
  refine rk Qb [] [1, 2] [] [2] [(1, .val (.b false))] (o1 (Qe (cb h1 (Hd user)))) ?_
  exact ⟨rfl, Qc (by rw [h1]; first | done | kernel_rfl)⟩
 refine Qi ?_
 exact Zb [] (congrArg (fun z => (.b z : AV)) (show Qbi f user = ((Jy user) && ((f.2.1 == user) || f.2.2.1)) from rfl).symm)
def Yk (f : Yt) : Yt := f
theorem Qlc (f : Yt) : ACalls Tryz.prog 138 [.a [.i f.1, .i f.2.1, .b f.2.2.1, .i f.2.2.2.1, .h f.2.2.2.2]] (.a [.i ((Yk f).1), .i ((Yk f).2.1), .b ((Yk f).2.2.1), .i ((Yk f).2.2.2.1), .o 0 ((Yk f).2.2.2.2)]) := by
 refine Qn (tt := tt) Qb Tryz.func138 (fn := Tryz.f138) rfl (by unfold Z7; kernel_rfl) (Nat.le_of_ble_eq_true rfl) fun w0 F0 => ?_
 refine Qa ?_
 refine rk Qb [(1, .p 1 0), (2, .p 2 0)] [0] [(1, [.i f.1, .i f.2.1, .b f.2.2.1, .i f.2.2.2.1, .h f.2.2.2.2]), (2, [.i 0, .i 0, .b false, .i 0, .e 4])] [] [] (o0) ?_
 refine Qa ?_
 refine rk Qb [] [] [(1, [.i f.1, .i f.2.1, .b f.2.2.1, .i f.2.2.2.1, .o 320 f.2.2.2.2])] [1] [(2, .val (.o 0 f.2.2.2.2))] (o1 (Qe (Qri f.2.2.2.2))) ?_
 refine Qa ?_
 refine rk Qb [] [1] [(2, [.i f.1, .i f.2.1, .b f.2.2.1, .i f.2.2.2.1, .o 320 f.2.2.2.2])] [1, 2] [] (o0) ?_
 refine Qi ?_
 exact Zb [] (congrArg (fun z => (.a [.i z.1, .i z.2.1, .b z.2.2.1, .i z.2.2.2.1, .o 0 z.2.2.2.2] : AV)) (show Yk f = f from rfl).symm)
def Qax (f : Yt) (q0 : Int) : Bool := (f.1 == q0)
theorem Qld (f : Yt) (q0 : Int) : ACalls Tryz.prog 181 [.a [.i f.1, .i f.2.1, .b f.2.2.1, .i f.2.2.2.1, .h f.2.2.2.2], .one (.rptr .sh [.i q0])] (.b (Qax f q0)) := by
 refine Qn (tt := tt) Qb Tryz.func181 (fn := Tryz.f181) rfl (by unfold Z7; kernel_rfl) (Nat.le_of_ble_eq_true rfl) fun w0 F0 => ?_
 refine Qa ?_
 refine rk Qb [(2, .p 2 0), (3, .b false)] [0] [(2, [.i f.1, .i f.2.1, .b f.2.2.1, .i f.2.2.2.1, .h f.2.2.2.2])] [] [] (o0) ?_
 refine Qa ?_
 refine rk Qb [(3, .b (f.1 == q0))] [1, 2, 3] [] [2] [] (o0) ?_
 refine Qi ?_
 exact Zb [] (congrArg (fun z => (.b z : AV)) (show Qax f q0 = (f.1 == q0) from rfl).symm)
def Y7 (c0 : Int) (k0 : Nat) (a0 : Yt) (_ : Unit) : Rd (Int) (Unit) (Unit) := (bif (Qax a0 c0) then (.ret ((k0 : Nat) : Int)) else (.next ()))
def Y8 (_ : Nat) (_ : Unit) : Unit := ()
def Ym (s_ : (List Yt)) (c0 : Int) : Int := (Out.on (Xk (Y7 c0) Y8 s_ 0 ()) (fun _ => -1))
theorem Qas (s_ : (List Yt)) (c0 : Int) : ACalls Tryz.prog 180 [.h s_, .one (.fnr 181 [[.i c0]])] (.i (Ym s_ c0)) := by
 refine Qn (tt := tt) Qb Tryz.func180 (fn := Tryz.f180) rfl (by unfold Z7; kernel_rfl) (Nat.le_of_ble_eq_true rfl) fun w0 F0 => ?_
 refine Qa ?_
 refine rk Qb [(4, .i 0)] [] [] [] [] (o0) ?_
 refine Qa ?_
 refine Qa ?_
 refine rk Qb [(7, .i (s_.length : Int)), (8, .i 0)] [] [] [] [(1, .val (.i (s_.length : Int)))] (o1 (Qf (Xc s_))) ?_
 refine wdT 0 0 .sh s_ (fun hw1 => ?_)
 have hl2 : List.length s_ ≤ 1073741824 := Qp (hw1)
 refine blk (fun (k0 : Nat) (s0 : Unit) => [(8, .i ((k0 : Nat) : Int))]) [8] (fun k0 s0 => []) [] (fun (y0 : Unit) => []) [0, 1, 7, 8] (fun y0 => []) [] (fun (k0 : Nat) (s0 : Unit) => (Xk (Y7 c0) Y8 s_ 0 ()) = Xk (Y7 c0) Y8 (List.drop k0 s_) k0 s0) (fun (y0 : Unit) => (Xk (Y7 c0) Y8 s_ 0 ()) = .brk y0) s_.length () (Qc (by kernel_rfl)) rfl (fun k0 s0 hk0 hI0 => ?_) (fun k0 s0 hk0 hI0 => ?_) (fun y0 hD0 => ?_)
 ·
  obtain ⟨a0, hx0⟩ := X8 (l := s_) (i := k0) hk0
  refine Qa ?_
  refine rk Qb [(9, .b true)] [] [] [] [(0, .val (.b true))] (o1 (Qf (Qg (decide_eq_true (p := ((k0 : Nat) : Int) < (s_.length : Int)) (by omega))))) ?_
  refine Qa ?_
  refine ckT ?_
  refine Qh ?_
  refine Qa ?_
  refine Q4 ?_
  refine Qa ?_
  refine rk Qb [(5, .i ((k0 : Nat) : Int))] [9] [] [] [] (o0) ?_
  refine Qa ?_
  refine rk Qb [(16, .b (Qax a0 c0))] [] [] [] [(3, .row [.i a0.1, .i a0.2.1, .b a0.2.2.1, .i a0.2.2.2.1, .h a0.2.2.2.2]), (5, .val (.b (Qax a0 c0)))] (o2 (Ql (Xl (i := ((k0 : Nat) : Int)) (by omega) rfl hx0)) (o1 (Qe (Qld a0 c0)))) ?_
  refine ck (Qax a0 c0) (fun h3 => ?_) (fun h3 => ?_)
  ·
   refine Qa ?_
   refine rk Qb [(4, .i ((k0 : Nat) : Int))] [4, 5, 16] [] [] [] (o0) ?_
   refine Qi ?_
   have hr4 : (Xk (Y7 c0) Y8 s_ 0 ()) = .ret ((k0 : Nat) : Int) := Jq hx0 (Yf h3 (rfl)) hI0
   exact Zb [] (congrArg (fun z => (.i z : AV)) (show Ym s_ c0 = ((k0 : Nat) : Int) from Qgl hr4).symm)
  ·
   refine Qh ?_
   refine rk Qb [(8, .i ((k0 + 1 : Nat) : Int))] [5, 8, 16] [] [] [(0, .val (.i ((k0 + 1 : Nat) : Int)))] (o1 (Qf (Kw (Qs k0 (by omega))))) ?_
   exact Exists.intro () (And.intro (Qc (by kernel_rfl)) (Qw hx0 (Qv h3 (rfl)) hI0))
 ·
  refine Qa ?_
  refine rk Qb [(9, .b false)] [] [] [] [(0, .val (.b false))] (o1 (Qf (Qg (decide_eq_false (p := ((k0 : Nat) : Int) < (s_.length : Int)) (by omega))))) ?_
  refine Qa ?_
  refine ckF ?_
  refine Xj ?_
  exact Exists.intro () (And.intro (Qc (by kernel_rfl)) (X9 hk0 (rfl) hI0))
 ·
  refine Qa ?_
  refine rk Qb [(4, .i (-1))] [4] [] [] [] (o0) ?_
  refine Qi ?_
  exact Zb [] (congrArg (fun z => (.i z : AV)) (show Ym s_ c0 = -1 from Hk hD0 (rfl)).symm)
def Qcg (s_ : X7) (id : Int) : Int := (Ym s_.2.1 id)
theorem Qp1 (s_ : X7) (id : Int) : ACalls Tryz.prog 139 [.a [.h s_.1, .h s_.2.1, .i s_.2.2], .i id] (.i (Qcg s_ id)) := by
 refine Qn (tt := tt) Qb Tryz.func139 (fn := Tryz.f139) rfl (by unfold Z7; kernel_rfl) (Nat.le_of_ble_eq_true rfl) fun w0 F0 => ?_
 refine Qa ?_
 refine rk Qb [(2, .p 2 0), (3, .p 3 0), (4, .i 0)] [0, 1] [(2, [.h s_.1, .h s_.2.1, .i s_.2.2]), (3, [.i id])] [] [] (o0) ?_
 refine Qa ?_
 refine rk Qb [(4, .i (Ym s_.2.1 id))] [2, 3, 4] [] [2, 3] [(3, .val (.i (Ym s_.2.1 id)))] (o1 (Qe (Qas s_.2.1 id))) ?_
 refine Qi ?_
 exact Zb [] (congrArg (fun z => (.i z : AV)) (show Qcg s_ id = (Ym s_.2.1 id) from rfl).symm)
def Wh (user : Int) (_ : Nat) (a0 : Yt) (s0 : (List Yt)) : Rd (X7) ((List Yt)) ((List Yt)) := (bif (Qbi a0 user) then (.next (s0 ++ [(Yk a0)])) else (.next s0))
def Wi (_ : Nat) (s0 : (List Yt)) : (List Yt) := s0
def Wj (s_ : X7) (k1 : Nat) (_ : Yt) (s1 : (List Yt)) : Rd (X7) ((List Yt)) ((List Yt)) := (bif decide ((Qcg (s_.1, s1, s_.2.2) ((nth s1 k1).2.2.2.1)) < (0 : Int)) then (.next (List.set s1 k1 ((nth s1 k1).1, (nth s1 k1).2.1, (nth s1 k1).2.2.1, 0, (nth s1 k1).2.2.2.2))) else (.next s1))
def Wk (_ : Nat) (s1 : (List Yt)) : (List Yt) := s1
def Ye (s_ : X7) (user : Int) : X7 := (Out.on (Xk (Wh user) Wi s_.2.1 0 []) (fun y0 => (Out.on (Xk (Wj s_) Wk y0 0 y0) (fun y1 => (s_.1, y1, s_.2.2)))))
theorem Qg4 (s_ : X7) (user : Int) : ACalls Tryz.prog 96 [.a [.h s_.1, .h s_.2.1, .i s_.2.2], .i user] (.a [.o 0 ((Ye s_ user).1), .o 1 ((Ye s_ user).2.1), .i ((Ye s_ user).2.2)]) := by
 refine Qn (tt := tt) Qb Tryz.func96 (fn := Tryz.f96) rfl (by unfold Z7; kernel_rfl) (Nat.le_of_ble_eq_true rfl) fun w0 F0 => ?_
 refine Qa ?_
 refine rk Qb [(2, .p 2 0), (4, .p 4 0)] [0] [(2, [.h s_.1, .h s_.2.1, .i s_.2.2]), (4, [.e 2, .e 5, .i 0])] [] [] (o0) ?_
 refine Qa ?_
 refine rd' Qb Zv [(5, .p 5 0)] [] [(5, [.o 768 s_.1, .e 5, .i s_.2.2])] [] [(2, .val (.o 0 s_.1))] (o1 (Qe (Qpd s_.1))) ?_
 refine Qa ?_
 refine Qa ?_
 refine rk Qb [(17, .h s_.2.1), (18, .i (s_.2.1.length : Int)), (19, .i 0)] [2] [] [2] [(2, .val (.i (s_.2.1.length : Int)))] (o1 (Qf (Xc s_.2.1))) ?_
 refine wdT 17 0 .sh s_.2.1 (fun hw1 => ?_)
 have hl2 : List.length s_.2.1 ≤ 1073741824 := Qp (hw1)
 refine blk (fun (k0 : Nat) (s0 : (List Yt)) => [(19, .i ((k0 : Nat) : Int))]) [19] (fun k0 s0 => [(5, [.o 768 s_.1, .o 147210 s0, .i s_.2.2])]) [5] (fun (y0 : (List Yt)) => []) [1, 17, 18, 19] (fun y0 => [(5, [.o 768 s_.1, .o 147360 y0, .i s_.2.2])]) [5] (fun (k0 : Nat) (s0 : (List Yt)) => (Xk (Wh user) Wi s_.2.1 0 []) = Xk (Wh user) Wi (List.drop k0 s_.2.1) k0 s0 ∧ List.length s0 ≤ k0) (fun (y0 : (List Yt)) => (Xk (Wh user) Wi s_.2.1 0 []) = .brk y0) s_.2.1.length [] (Qm9 [(true, 5, 1, true, 320008, 5)] [] [] [(320008, 147210)] (by kernel_rfl)) ⟨rfl, (by simp)⟩ (fun k0 s0 hk0 hI0 => ?_) (fun k0 s0 hk0 hI0 => ?_) (fun y0 hD0 => ?_)
 ·
  have hA0_0 := hI0.2
  obtain ⟨a0, hx0⟩ := X8 (l := s_.2.1) (i := k0) hk0
  refine Qa ?_
  refine rk Qb [(20, .b true)] [] [] [] [(0, .val (.b true))] (o1 (Qf (Qg (decide_eq_true (p := ((k0 : Nat) : Int) < (s_.2.1.length : Int)) (by omega))))) ?_
  refine Qa ?_
  refine ckT ?_
  refine Qh ?_
  refine Qa ?_
  refine Q4 ?_
  refine Qa ?_
  refine rk Qb [(7, .p 7 0)] [20] [(7, [.i a0.1, .i a0.2.1, .b a0.2.2.1, .i a0.2.2.2.1, .h a0.2.2.2.2])] [] [(0, .row [.i a0.1, .i a0.2.1, .b a0.2.2.1, .i a0.2.2.2.1, .h a0.2.2.2.2])] (o1 (Ql (Xl (i := ((k0 : Nat) : Int)) (by omega) rfl hx0))) ?_
  refine Qa ?_
  refine rk Qb [(25, .b (Qbi a0 user))] [] [] [] [(2, .val (.b (Qbi a0 user)))] (o1 (Qe (Qnw a0 user))) ?_
  refine ck (Qbi a0 user) (fun h3 => ?_) (fun h3 => ?_)
  ·
   refine wdB 5 1 (.own true 147210) s0 (fun hw4 => ?_)
   have hl5 : List.length s0 ≤ 1073741824 := Qp (hw4)
   refine rd' Qb Zv [] [7, 25] [(5, [.o 768 s_.1, .slc (.own true 1984) 5 ((eL s0) ++ [[.i ((Yk a0).1), .i ((Yk a0).2.1), .b ((Yk a0).2.2.1), .i ((Yk a0).2.2.2.1), .h ((Yk a0).2.2.2.2)]]), .i s_.2.2])] [5, 7] [(3, .val (.a [.i ((Yk a0).1), .i ((Yk a0).2.1), .b ((Yk a0).2.2.1), .i ((Yk a0).2.2.2.1), .o 0 ((Yk a0).2.2.2.2)]))] (o2 (Qe (Qlc a0)) (o1 (V8 (Wq (Xa s0) (Xa [(Yk a0)]) (by first | omega | (simp; omega) | simp))))) ?_
   refine eqn [] [] [(5, [.o 768 s_.1, .o 1984 (s0 ++ [(Yk a0)]), .i s_.2.2])] [5] (by rw [show ((eL s0) ++ [[.i ((Yk a0).1), .i ((Yk a0).2.1), .b ((Yk a0).2.2.1), .i ((Yk a0).2.2.2.1), .h ((Yk a0).2.2.2.2)]]) = (eL (s0 ++ [(Yk a0)])) from Qaw (rfl) (rfl)]; first | done | kernel_rfl) ?_
   refine rk Qb [(19, .i ((k0 + 1 : Nat) : Int))] [19] [] [] [(0, .val (.i ((k0 + 1 : Nat) : Int)))] (o1 (Qf (Kw (Qs k0 (by omega))))) ?_
   exact Exists.intro (s0 ++ [(Yk a0)]) (And.intro (Zg [(1984, 147210)] (by kernel_rfl)) ⟨Qw hx0 (Yf h3 (rfl)) hI0.1, by first | omega | (simp; omega) | simp⟩)
  ·
   refine Qh ?_
   refine rk Qb [(19, .i ((k0 + 1 : Nat) : Int))] [7, 19, 25] [] [7] [(0, .val (.i ((k0 + 1 : Nat) : Int)))] (o1 (Qf (Kw (Qs k0 (by omega))))) ?_
   exact Exists.intro s0 (And.intro (Qc (by kernel_rfl)) ⟨Qw hx0 (Qv h3 (rfl)) hI0.1, by first | omega | (simp; omega) | simp⟩)
 ·
  have hA0_0 := hI0.2
  refine Qa ?_
  refine rk Qb [(20, .b false)] [] [] [] [(0, .val (.b false))] (o1 (Qf (Qg (decide_eq_false (p := ((k0 : Nat) : Int) < (s_.2.1.length : Int)) (by omega))))) ?_
  refine Qa ?_
  refine ckF ?_
  refine Xj ?_
  exact Exists.intro s0 (And.intro (Zg [(147210, 147360)] (by kernel_rfl)) (X9 hk0 (rfl) hI0.1))
 ·
  refine Qa ?_
  refine Qa ?_
  refine rk Qb [(35, .o 147360 y0), (36, .i (y0.length : Int)), (37, .i 0)] [] [] [] [(2, .val (.i (y0.length : Int)))] (o1 (Qf (Xc y0))) ?_
  refine wdT 35 0 (.own true 147360) y0 (fun hw6 => ?_)
  have hl7 : List.length y0 ≤ 1073741824 := Qp (hw6)
  refine blk (fun (k1 : Nat) (s1 : (List Yt)) => [(35, .o 147360 s1), (37, .i ((k1 : Nat) : Int))]) [35, 37] (fun k1 s1 => [(5, [.o 768 s_.1, .o 147360 s1, .i s_.2.2])]) [5] (fun (y1 : (List Yt)) => []) [35, 36, 37] (fun y1 => [(5, [.o 768 s_.1, .o 147360 y1, .i s_.2.2])]) [5] (fun (k1 : Nat) (s1 : (List Yt)) => (Xk (Wj s_) Wk y0 0 y0) = Xk (Wj s_) Wk (List.drop k1 y0) k1 s1 ∧ List.length s1 = List.length y0) (fun (y1 : (List Yt)) => (Xk (Wj s_) Wk y0 0 y0) = .brk y1) y0.length y0 (Qc (by kernel_rfl)) ⟨rfl, (by simp)⟩ (fun k1 s1 hk1 hI1 => ?_) (fun k1 s1 hk1 hI1 => ?_) (fun y1 hD1 => ?_)
  ·
   have hA1_0 := hI1.2
   obtain ⟨a1, hx1⟩ := X8 (l := y0) (i := k1) hk1
   refine Qa ?_
   refine rk Qb [(38, .b true)] [] [] [] [(0, .val (.b true))] (o1 (Qf (Qg (decide_eq_true (p := ((k1 : Nat) : Int) < (y0.length : Int)) (by omega))))) ?_
   refine Qa ?_
   refine ckT ?_
   refine Qh ?_
   refine Qa ?_
   refine Q4 ?_
   refine Qa ?_
   refine wdT 35 0 (.own true 147360) s1 (fun hw9 => ?_)
   have hl10 : List.length s1 ≤ 1073741824 := Qp (hw9)
   have hx8 : s1[k1]? = some (nth s1 k1) := X3 (by omega)
   refine rk Qb [(8, .i ((k1 : Nat) : Int)), (9, .p 9 0)] [38] [(9, [.i ((nth s1 k1).1), .i ((nth s1 k1).2.1), .b ((nth s1 k1).2.2.1), .i ((nth s1 k1).2.2.2.1), .v 147360 ((nth s1 k1).2.2.2.2)])] [] [(1, .rowE [.i ((nth s1 k1).1), .i ((nth s1 k1).2.1), .b ((nth s1 k1).2.2.1), .i ((nth s1 k1).2.2.2.1), .h ((nth s1 k1).2.2.2.2)])] (o1 (Ql (Xl (i := ((k1 : Nat) : Int)) (by omega) rfl hx8))) ?_
   refine Qa ?_
   refine rk Qb [(46, .b (decide ((Qcg (s_.1, s1, s_.2.2) ((nth s1 k1).2.2.2.1)) < (0 : Int))))] [9] [] [9] [(3, .val (.i (Qcg (s_.1, s1, s_.2.2) ((nth s1 k1).2.2.2.1))))] (o1 (Qe (Qp1 (s_.1, s1, s_.2.2) ((nth s1 k1).2.2.2.1)))) ?_
   refine ck (decide ((Qcg (s_.1, s1, s_.2.2) ((nth s1 k1).2.2.2.1)) < (0 : Int))) (fun h11 => ?_) (fun h11 => ?_)
   ·
    have h11d := of_decide_eq_true h11
    refine rk Qb [(35, .one (.slc (.own true 147360) 5 (setRow (eL s1) k1 3 [.i 0])))] [8, 35, 46] [(5, [.o 768 s_.1, .slc (.own true 147360) 5 (setRow (eL s1) k1 3 [.i 0]), .i s_.2.2])] [5] [(3, .rowE [.i ((nth s1 k1).1), .i ((nth s1 k1).2.1), .b ((nth s1 k1).2.2.1), .i ((nth s1 k1).2.2.2.1), .h ((nth s1 k1).2.2.2.2)])] (o1 (Ql (Xl (i := ((k1 : Nat) : Int)) (by omega) rfl hx8))) ?_
    refine eqn [(35, .o 147360 (List.set s1 k1 ((nth s1 k1).1, (nth s1 k1).2.1, (nth s1 k1).2.2.1, 0, (nth s1 k1).2.2.2.2)))] [35] [(5, [.o 768 s_.1, .o 147360 (List.set s1 k1 ((nth s1 k1).1, (nth s1 k1).2.1, (nth s1 k1).2.2.1, 0, (nth s1 k1).2.2.2.2)), .i s_.2.2])] [5] (by rw [Kd (y := ((nth s1 k1).1, (nth s1 k1).2.1, (nth s1 k1).2.2.1, 0, (nth s1 k1).2.2.2.2)) hx8 rfl]; first | done | kernel_rfl) ?_
    refine rk Qb [(37, .i ((k1 + 1 : Nat) : Int))] [37] [] [] [(0, .val (.i ((k1 + 1 : Nat) : Int)))] (o1 (Qf (Kw (Qs k1 (by omega))))) ?_
    exact Exists.intro (List.set s1 k1 ((nth s1 k1).1, (nth s1 k1).2.1, (nth s1 k1).2.2.1, 0, (nth s1 k1).2.2.2.2)) (And.intro (Qc (by kernel_rfl)) ⟨Qw hx1 (Yf h11 (rfl)) hI1.1, (by first | omega | (simp only [List.length_set]; omega))⟩)
   ·
    have h11d := of_decide_eq_false h11
    refine Qh ?_
    refine rk Qb [(37, .i ((k1 + 1 : Nat) : Int))] [8, 37, 46] [] [] [(0, .val (.i ((k1 + 1 : Nat) : Int)))] (o1 (Qf (Kw (Qs k1 (by omega))))) ?_
    exact Exists.intro s1 (And.intro (Qc (by kernel_rfl)) ⟨Qw hx1 (Qv h11 (rfl)) hI1.1, (by first | omega | (simp only [List.length_set]; omega))⟩)
  ·
   have hA1_0 := hI1.2
   refine Qa ?_
   refine rk Qb [(38, .b false)] [] [] [] [(0, .val (.b false))] (o1 (Qf (Qg (decide_eq_false (p := ((k1 : Nat) : Int) < (y0.length : Int)) (by omega))))) ?_
   refine Qa ?_
   refine ckF ?_
   refine Xj ?_
   exact Exists.intro s1 (And.intro (Qc (by kernel_rfl)) (X9 hk1 (rfl) hI1.1))
  ·
   refine Qa ?_
   refine rk Qb [] [5] [(4, [.o 768 s_.1, .o 147360 y1, .i s_.2.2])] [4, 5] [] (o0) ?_
   refine Qi ?_
   exact Zb [] (congrArg (fun z => (.a [.o 0 z.1, .o 1 z.2.1, .i z.2.2] : AV)) (show Ye s_ user = (s_.1, y1, s_.2.2) from Hk hD0 (Hk hD1 (rfl))).symm)
def Xw (s_ : X7) (d : (List Zh)) (user : Int) : (List Qk) × Bool := (bif ((!(Xm s_)) || (!(Jy user))) then ([], false) else (((Y6 (Ye s_ user) d)).1, ((Y6 (Ye s_ user) d)).2))
theorem Qeu (s_ : X7) (d : (List Zh)) (user : Int) : ACalls Tryz.prog 42 [.a [.h s_.1, .h s_.2.1, .i s_.2.2], .h d, .i user] (.tup [(false, [.o 0 (((Xw s_ d user)).1)]), (false, [.b (((Xw s_ d user)).2)])]) := by
 refine Qn (tt := tt) Qb Tryz.func42 (fn := Tryz.f42) rfl (by unfold Z7; kernel_rfl) (Nat.le_of_ble_eq_true rfl) fun w0 F0 => ?_
 refine Qa ?_
 refine rk Qb [(3, .p 3 0), (6, .e 0), (7, .b false)] [0] [(3, [.h s_.1, .h s_.2.1, .i s_.2.2])] [] [] (o0) ?_
 refine Qa ?_
 refine Qa ?_
 refine jn [(15, .b ((!(Xm s_)) || (!(Jy user))))] [] [] [] (!(Xm s_)) (fun h1 => ?_) (fun h1 => ?_) ?_
 ·
  have h1n : (Xm s_) = false := Qa3 h1
  refine rk Qb [(15, .b true)] [] [] [] [(1, .val (.b false)), (2, .val (.b true))] (o2 (Qe (cb h1n (Qa6 s_))) (o1 (Qf (show .b (!false) = .b true from rfl)))) ?_
  exact ⟨rfl, Qc (by rw [h1]; first | done | kernel_rfl)⟩
 ·
  have h1n : (Xm s_) = true := Vo h1
  refine rk Qb [(15, .b (!(Jy user)))] [] [] [] [(1, .val (.b true)), (2, .val (.b false)), (5, .val (.b (Jy user)))] (o2 (Qe (cb h1n (Qa6 s_))) (o2 (Qf (show .b (!true) = .b false from rfl)) (o1 (Qe (Hd user))))) ?_
  exact ⟨rfl, Qc (by rw [h1]; first | done | kernel_rfl)⟩
 refine ck ((!(Xm s_)) || (!(Jy user))) (fun h2 => ?_) (fun h2 => ?_)
 ·
  refine Qa ?_
  refine rk Qb [] [15] [] [] [] (o0) ?_
  refine opn [(false, 6, 0, true, 384000, 2)] ?_
  refine Qi ?_
  exact Zb [] (congrArg (fun z => (.tup [(false, [.o 0 z.1]), (false, [.b z.2])] : AV)) (show Xw s_ d user = ([], false) from Yf h2 (rfl)).symm)
 ·
  refine Qh ?_
  refine Qa ?_
  refine rk Qb [(6, .o 1280 (((Y6 (Ye s_ user) d)).1)), (7, .b (((Y6 (Ye s_ user) d)).2))] [1, 2, 3, 6, 7, 15] [] [3] [(2, .val (.a [.o 0 ((Ye s_ user).1), .o 1 ((Ye s_ user).2.1), .i ((Ye s_ user).2.2)])), (4, .val (.tup [(false, [.o 0 (((Y6 (Ye s_ user) d)).1)]), (false, [.b (((Y6 (Ye s_ user) d)).2)])]))] (o2 (Qe (Qg4 s_ user)) (o1 (Qe (Qla (Ye s_ user) d)))) ?_
  refine Qi ?_
  exact Zb [] (congrArg (fun z => (.tup [(false, [.o 0 z.1]), (false, [.b z.2])] : AV)) (show Xw s_ d user = (((Y6 (Ye s_ user) d)).1, ((Y6 (Ye s_ user) d)).2) from Qv h2 (rfl)).symm)
def Xh (s_ : X7) (d : (List Zh)) (user : Int) (name : ByteArray) : (List Int) := (Xb (((Xw s_ d user)).1) name)
theorem Qnx (s_ : X7) (d : (List Zh)) (user : Int) (name : ByteArray) : ACalls Tryz.prog 53 [.a [.h s_.1, .h s_.2.1, .i s_.2.2], .h d, .i user, .s name] (.o 0 (Xh s_ d user name)) := by
 refine Qn (tt := tt) Qb Tryz.func53 (fn := Tryz.f53) rfl (by unfold Z7; kernel_rfl) (Nat.le_of_ble_eq_true rfl) fun w0 F0 => ?_
 refine Qa ?_
 refine rk Qb [(4, .p 4 0), (8, .e 0)] [0] [(4, [.h s_.1, .h s_.2.1, .i s_.2.2])] [] [] (o0) ?_
 refine Qa ?_
 refine rk Qb [(9, .o 960 (((Xw s_ d user)).1))] [1, 2, 4] [] [4] [(3, .val (.tup [(false, [.o 0 (((Xw s_ d user)).1)]), (false, [.b (((Xw s_ d user)).2)])]))] (o1 (Qe (Qeu s_ d user))) ?_
 refine Qa ?_
 refine rk Qb [(8, .o 1280 (Xb (((Xw s_ d user)).1) name))] [3, 8, 9] [] [] [(2, .val (.o 0 (Xb (((Xw s_ d user)).1) name)))] (o1 (Qe (Qa7 (((Xw s_ d user)).1) name))) ?_
 refine Qi ?_
 exact Zb [] (congrArg (fun z => (.o 0 z : AV)) (show Xh s_ d user name = (Xb (((Xw s_ d user)).1) name) from rfl).symm)
def Qbj (f : Yt) (u : Int) : Bool := ((Qt u 0 2) && ((f.2.1 == u) || f.2.2.1))
theorem Qny (f : Yt) (u : Int) : ACalls Tryz.prog 127 [.a [.i f.1, .i f.2.1, .b f.2.2.1, .i f.2.2.2.1, .h f.2.2.2.2], .i u] (.b (Qbj f u)) := by
 refine Qn (tt := tt) Qb Tryz.func127 (fn := Tryz.f127) rfl (by unfold Z7; kernel_rfl) (Nat.le_of_ble_eq_true rfl) fun w0 F0 => ?_
 refine Qa ?_
 refine rk Qb [(2, .p 2 0), (4, .b false)] [0] [(2, [.i f.1, .i f.2.1, .b f.2.2.1, .i f.2.2.2.1, .h f.2.2.2.2])] [] [] (o0) ?_
 refine Qa ?_
 refine jn [(4, .b ((Qt u 0 2) && ((f.2.1 == u) || f.2.2.1)))] [1, 2, 4] [] [2] (Qt u 0 2) (fun h1 => ?_) (fun h1 => ?_) ?_
 ·
  have h1w := Qcp.1 h1
  refine X4 (f.2.1 == u) (fun h2 => ?_) (fun h2 => ?_)
  ·
   refine rk Qb [(4, .b true)] [1, 2, 4] [] [2] [(1, .val (.b true)), (6, .val (.b true))] (o2 (Qe (cb h1 (Y5 u 0 2))) (o1 (Qf (Qg h2)))) ?_
   exact ⟨rfl, Qc (by rw [h1, h2]; first | done | kernel_rfl)⟩
  ·
   refine rk Qb [(4, .b f.2.2.1)] [1, 2, 4] [] [2] [(1, .val (.b true)), (6, .val (.b false))] (o2 (Qe (cb h1 (Y5 u 0 2))) (o1 (Qf (Qg h2)))) ?_
   exact ⟨rfl, Qc (by rw [h1, h2]; first | done | kernel_rfl)⟩
 ·
  refine rk Qb [] [1, 2] [] [2] [(1, .val (.b false))] (o1 (Qe (cb h1 (Y5 u 0 2)))) ?_
  exact ⟨rfl, Qc (by rw [h1]; first | done | kernel_rfl)⟩
 refine Qi ?_
 exact Zb [] (congrArg (fun z => (.b z : AV)) (show Qbj f u = ((Qt u 0 2) && ((f.2.1 == u) || f.2.2.1)) from rfl).symm)
def Y1 (f : Yt) : Yt := f
theorem Qnz (f : Yt) : ACalls Tryz.prog 128 [.a [.i f.1, .i f.2.1, .b f.2.2.1, .i f.2.2.2.1, .h f.2.2.2.2]] (.a [.i ((Y1 f).1), .i ((Y1 f).2.1), .b ((Y1 f).2.2.1), .i ((Y1 f).2.2.2.1), .o 0 ((Y1 f).2.2.2.2)]) := by
 refine Qn (tt := tt) Qb Tryz.func128 (fn := Tryz.f128) rfl (by unfold Z7; kernel_rfl) (Nat.le_of_ble_eq_true rfl) fun w0 F0 => ?_
 refine Qa ?_
 refine rk Qb [(1, .p 1 0), (2, .p 2 0)] [0] [(1, [.i f.1, .i f.2.1, .b f.2.2.1, .i f.2.2.2.1, .h f.2.2.2.2]), (2, [.i 0, .i 0, .b false, .i 0, .e 4])] [] [] (o0) ?_
 refine Qa ?_
 refine wdB 1 4 .sh f.2.2.2.2 (fun hw1 => ?_)
 have hl2 : List.length f.2.2.2.2 ≤ 1073741824 := Qp (hw1)
 refine rk Qb [] [] [(1, [.i f.1, .i f.2.1, .b f.2.2.1, .i f.2.2.2.1, .o 384 f.2.2.2.2])] [1] [(3, .flat)] (o2 (V8 (n := (([] : List (List PV)).length + ((eL f.2.2.2.2) : List (List PV)).length)) (Wq (rfl) (Xa f.2.2.2.2) (by first | omega | (simp; omega) | simp))) (o1 (Qam (Hx f.2.2.2.2)))) ?_
 refine Qa ?_
 refine rk Qb [] [1] [(2, [.i f.1, .i f.2.1, .b f.2.2.1, .i f.2.2.2.1, .o 384 f.2.2.2.2])] [1, 2] [] (o0) ?_
 refine Qi ?_
 exact Zb [] (congrArg (fun z => (.a [.i z.1, .i z.2.1, .b z.2.2.1, .i z.2.2.2.1, .o 0 z.2.2.2.2] : AV)) (show Y1 f = f from rfl).symm)
def Hh (id : Int) (k0 : Nat) (a0 : Yt) (_ : Unit) : Rd (Int) (Unit) (Unit) := (bif (a0.1 == id) then (.ret ((k0 : Nat) : Int)) else (.next ()))
def Hi (_ : Nat) (_ : Unit) : Unit := ()
def Hj (s_ : X7) (id : Int) : Int := (Out.on (Xk (Hh id) Hi s_.2.1 0 ()) (fun _ => -1))
theorem Qle (s_ : X7) (id : Int) : ACalls Tryz.prog 129 [.a [.h s_.1, .h s_.2.1, .i s_.2.2], .i id] (.i (Hj s_ id)) := by
 refine Qn (tt := tt) Qb Tryz.func129 (fn := Tryz.f129) rfl (by unfold Z7; kernel_rfl) (Nat.le_of_ble_eq_true rfl) fun w0 F0 => ?_
 refine Qa ?_
 refine rk Qb [(2, .p 2 0), (4, .i 0)] [0] [(2, [.h s_.1, .h s_.2.1, .i s_.2.2])] [] [] (o0) ?_
 refine Qa ?_
 refine Qa ?_
 refine rk Qb [(5, .i 0)] [] [] [] [] (o0) ?_
 refine wdB 2 1 .sh s_.2.1 (fun hw1 => ?_)
 have hl2 : List.length s_.2.1 ≤ 1073741824 := Qp (hw1)
 refine blk (fun (k0 : Nat) (s0 : Unit) => [(5, .i ((k0 : Nat) : Int))]) [5] (fun k0 s0 => []) [] (fun (y0 : Unit) => []) [1, 2, 5] (fun y0 => []) [2] (fun (k0 : Nat) (s0 : Unit) => (Xk (Hh id) Hi s_.2.1 0 ()) = Xk (Hh id) Hi (List.drop k0 s_.2.1) k0 s0) (fun (y0 : Unit) => (Xk (Hh id) Hi s_.2.1 0 ()) = .brk y0) s_.2.1.length () (Qc (by kernel_rfl)) rfl (fun k0 s0 hk0 hI0 => ?_) (fun k0 s0 hk0 hI0 => ?_) (fun y0 hD0 => ?_)
 ·
  obtain ⟨a0, hx0⟩ := X8 (l := s_.2.1) (i := k0) hk0
  refine Qa ?_
  refine Qa ?_
  refine rk Qb [(10, .b true)] [] [] [] [(3, .val (.i (s_.2.1.length : Int))), (4, .val (.b true))] (o2 (Qf (Xc s_.2.1)) (o1 (Qf (Qg (decide_eq_true (p := ((k0 : Nat) : Int) < (s_.2.1.length : Int)) (by omega)))))) ?_
  refine ckT ?_
  refine Qh ?_
  refine Qa ?_
  refine Q4 ?_
  refine Qa ?_
  refine rk Qb [(20, .b (a0.1 == id))] [10] [] [] [(3, .row [.i a0.1, .i a0.2.1, .b a0.2.2.1, .i a0.2.2.2.1, .h a0.2.2.2.2])] (o1 (Ql (Xl (i := ((k0 : Nat) : Int)) (by omega) rfl hx0))) ?_
  refine ck (a0.1 == id) (fun h3 => ?_) (fun h3 => ?_)
  ·
   refine Qa ?_
   refine rk Qb [(4, .i ((k0 : Nat) : Int))] [4, 20] [] [] [] (o0) ?_
   refine Qi ?_
   have hr4 : (Xk (Hh id) Hi s_.2.1 0 ()) = .ret ((k0 : Nat) : Int) := Jq hx0 (Yf h3 (rfl)) hI0
   exact Zb [] (congrArg (fun z => (.i z : AV)) (show Hj s_ id = ((k0 : Nat) : Int) from Qgl hr4).symm)
  ·
   have h3d := Zp h3
   refine Qh ?_
   refine rk Qb [(5, .i ((k0 + 1 : Nat) : Int))] [5, 20] [] [] [(1, .val (.i ((k0 + 1 : Nat) : Int)))] (o1 (Qf (Kw (Qs k0 (by omega))))) ?_
   exact Exists.intro () (And.intro (Qc (by kernel_rfl)) (Qw hx0 (Qv h3 (rfl)) hI0))
 ·
  refine Qa ?_
  refine Qa ?_
  refine rk Qb [(10, .b false)] [] [] [] [(3, .val (.i (s_.2.1.length : Int))), (4, .val (.b false))] (o2 (Qf (Xc s_.2.1)) (o1 (Qf (Qg (decide_eq_false (p := ((k0 : Nat) : Int) < (s_.2.1.length : Int)) (by omega)))))) ?_
  refine ckF ?_
  refine Xj ?_
  exact Exists.intro () (And.intro (Qc (by kernel_rfl)) (X9 hk0 (rfl) hI0))
 ·
  refine Qa ?_
  refine rk Qb [(4, .i (-1))] [4] [] [] [] (o0) ?_
  refine Qi ?_
  exact Zb [] (congrArg (fun z => (.i z : AV)) (show Hj s_ id = -1 from Hk hD0 (rfl)).symm)
def Wl (u : Int) (_ : Nat) (a0 : Yt) (s0 : (List Yt)) : Rd (X7) ((List Yt)) ((List Yt)) := (bif (Qbj a0 u) then (.next (s0 ++ [(Y1 a0)])) else (.next s0))
def Wm (_ : Nat) (s0 : (List Yt)) : (List Yt) := s0
def Wn (s_ : X7) (k1 : Nat) (s1 : (List Yt)) : Rd (X7) ((List Yt)) ((List Yt)) := (bif decide ((Hj (s_.1, s1, s_.2.2) ((nth s1 k1).2.2.2.1)) < (0 : Int)) then (.next (List.set s1 k1 ((nth s1 k1).1, (nth s1 k1).2.1, (nth s1 k1).2.2.1, 0, (nth s1 k1).2.2.2.2))) else (.next s1))
def Wo (_ : Nat) (s1 : (List Yt)) : (List Yt) := s1
def Yj (s_ : X7) (u : Int) : X7 := (Out.on (Xk (Wl u) Wm s_.2.1 0 []) (fun y0 => (Out.on (U5 (Wn s_) Wo (List.length y0) 0 y0) (fun y1 => (s_.1, y1, s_.2.2)))))
theorem Qg5 (s_ : X7) (u : Int) : ACalls Tryz.prog 89 [.a [.h s_.1, .h s_.2.1, .i s_.2.2], .i u] (.a [.o 0 ((Yj s_ u).1), .o 1 ((Yj s_ u).2.1), .i ((Yj s_ u).2.2)]) := by
 refine Qn (tt := tt) Qb Tryz.func89 (fn := Tryz.f89) rfl (by unfold Z7; kernel_rfl) (Nat.le_of_ble_eq_true rfl) fun w0 F0 => ?_
 refine Qa ?_
 refine rk Qb [(2, .p 2 0), (4, .p 4 0)] [0] [(2, [.h s_.1, .h s_.2.1, .i s_.2.2]), (4, [.e 2, .e 5, .i 0])] [] [] (o0) ?_
 refine Qa ?_
 refine wdB 2 0 .sh s_.1 (fun hw1 => ?_)
 have hl2 : List.length s_.1 ≤ 1073741824 := Qp (hw1)
 refine rd' Qb Zv [(5, .p 5 0)] [] [(5, [.o 704 s_.1, .e 5, .i s_.2.2])] [] [(3, .flat)] (o2 (V8 (n := (([] : List (List PV)).length + ((eL s_.1) : List (List PV)).length)) (Wq (rfl) (Xa s_.1) (by first | omega | (simp; omega) | simp))) (o1 (Qam (Hx s_.1)))) ?_
 refine Qa ?_
 refine Qa ?_
 refine rk Qb [(6, .i 0)] [] [] [] [] (o0) ?_
 refine wdB 2 1 .sh s_.2.1 (fun hw3 => ?_)
 have hl4 : List.length s_.2.1 ≤ 1073741824 := Qp (hw3)
 refine blk (fun (k0 : Nat) (s0 : (List Yt)) => [(6, .i ((k0 : Nat) : Int))]) [6] (fun k0 s0 => [(5, [.o 704 s_.1, .o 147212 s0, .i s_.2.2])]) [5] (fun (y0 : (List Yt)) => []) [1, 2, 6] (fun y0 => [(5, [.o 704 s_.1, .o 147362 y0, .i s_.2.2])]) [2, 5] (fun (k0 : Nat) (s0 : (List Yt)) => (Xk (Wl u) Wm s_.2.1 0 []) = Xk (Wl u) Wm (List.drop k0 s_.2.1) k0 s0 ∧ List.length s0 ≤ k0) (fun (y0 : (List Yt)) => (Xk (Wl u) Wm s_.2.1 0 []) = .brk y0) s_.2.1.length [] (Qm9 [(true, 5, 1, true, 320008, 5)] [] [] [(320008, 147212)] (by kernel_rfl)) ⟨rfl, (by simp)⟩ (fun k0 s0 hk0 hI0 => ?_) (fun k0 s0 hk0 hI0 => ?_) (fun y0 hD0 => ?_)
 ·
  have hA0_0 := hI0.2
  obtain ⟨a0, hx0⟩ := X8 (l := s_.2.1) (i := k0) hk0
  refine Qa ?_
  refine Qa ?_
  refine rk Qb [(19, .b true)] [] [] [] [(3, .val (.i (s_.2.1.length : Int))), (4, .val (.b true))] (o2 (Qf (Xc s_.2.1)) (o1 (Qf (Qg (decide_eq_true (p := ((k0 : Nat) : Int) < (s_.2.1.length : Int)) (by omega)))))) ?_
  refine ckT ?_
  refine Qh ?_
  refine Qa ?_
  refine Q4 ?_
  refine Qa ?_
  refine rk Qb [(28, .b (Qbj a0 u))] [19] [] [] [(3, .row [.i a0.1, .i a0.2.1, .b a0.2.2.1, .i a0.2.2.2.1, .h a0.2.2.2.2]), (6, .val (.b (Qbj a0 u)))] (o2 (Ql (Xl (i := ((k0 : Nat) : Int)) (by omega) rfl hx0)) (o1 (Qe (Qny a0 u)))) ?_
  refine ck (Qbj a0 u) (fun h5 => ?_) (fun h5 => ?_)
  ·
   refine wdB 5 1 (.own true 147212) s0 (fun hw6 => ?_)
   have hl7 : List.length s0 ≤ 1073741824 := Qp (hw6)
   refine rd' Qb Zv [] [28] [(5, [.o 704 s_.1, .slc (.own true 2432) 5 ((eL s0) ++ [[.i ((Y1 a0).1), .i ((Y1 a0).2.1), .b ((Y1 a0).2.2.1), .i ((Y1 a0).2.2.2.1), .h ((Y1 a0).2.2.2.2)]]), .i s_.2.2])] [5] [(5, .row [.i a0.1, .i a0.2.1, .b a0.2.2.1, .i a0.2.2.2.1, .h a0.2.2.2.2]), (7, .val (.a [.i ((Y1 a0).1), .i ((Y1 a0).2.1), .b ((Y1 a0).2.2.1), .i ((Y1 a0).2.2.2.1), .o 0 ((Y1 a0).2.2.2.2)]))] (o2 (Ql (Xl (i := ((k0 : Nat) : Int)) (by omega) rfl hx0)) (o2 (Qe (Qnz a0)) (o1 (V8 (Wq (Xa s0) (Xa [(Y1 a0)]) (by first | omega | (simp; omega) | simp)))))) ?_
   refine eqn [] [] [(5, [.o 704 s_.1, .o 2432 (s0 ++ [(Y1 a0)]), .i s_.2.2])] [5] (by rw [show ((eL s0) ++ [[.i ((Y1 a0).1), .i ((Y1 a0).2.1), .b ((Y1 a0).2.2.1), .i ((Y1 a0).2.2.2.1), .h ((Y1 a0).2.2.2.2)]]) = (eL (s0 ++ [(Y1 a0)])) from Qaw (rfl) (rfl)]; first | done | kernel_rfl) ?_
   refine rk Qb [(6, .i ((k0 + 1 : Nat) : Int))] [6] [] [] [(1, .val (.i ((k0 + 1 : Nat) : Int)))] (o1 (Qf (Kw (Qs k0 (by omega))))) ?_
   exact Exists.intro (s0 ++ [(Y1 a0)]) (And.intro (Zg [(2432, 147212)] (by kernel_rfl)) ⟨Qw hx0 (Yf h5 (rfl)) hI0.1, by first | omega | (simp; omega) | simp⟩)
  ·
   refine Qh ?_
   refine rk Qb [(6, .i ((k0 + 1 : Nat) : Int))] [6, 28] [] [] [(1, .val (.i ((k0 + 1 : Nat) : Int)))] (o1 (Qf (Kw (Qs k0 (by omega))))) ?_
   exact Exists.intro s0 (And.intro (Qc (by kernel_rfl)) ⟨Qw hx0 (Qv h5 (rfl)) hI0.1, by first | omega | (simp; omega) | simp⟩)
 ·
  have hA0_0 := hI0.2
  refine Qa ?_
  refine Qa ?_
  refine rk Qb [(19, .b false)] [] [] [] [(3, .val (.i (s_.2.1.length : Int))), (4, .val (.b false))] (o2 (Qf (Xc s_.2.1)) (o1 (Qf (Qg (decide_eq_false (p := ((k0 : Nat) : Int) < (s_.2.1.length : Int)) (by omega)))))) ?_
  refine ckF ?_
  refine Xj ?_
  exact Exists.intro s0 (And.intro (Zg [(147212, 147362)] (by kernel_rfl)) (X9 hk0 (rfl) hI0.1))
 ·
  refine Qa ?_
  refine Qa ?_
  refine rk Qb [(7, .i 0)] [] [] [] [] (o0) ?_
  refine blk (fun (k1 : Nat) (s1 : (List Yt)) => [(7, .i ((k1 : Nat) : Int))]) [7] (fun k1 s1 => [(5, [.o 704 s_.1, .o 147362 s1, .i s_.2.2])]) [5] (fun (y1 : (List Yt)) => []) [7] (fun y1 => [(5, [.o 704 s_.1, .o 147362 y1, .i s_.2.2])]) [5] (fun (k1 : Nat) (s1 : (List Yt)) => (U5 (Wn s_) Wo (List.length y0) 0 y0) = U5 (Wn s_) Wo ((List.length y0) - k1) k1 s1 ∧ List.length s1 = List.length y0) (fun (y1 : (List Yt)) => (U5 (Wn s_) Wo (List.length y0) 0 y0) = .brk y1 ∧ List.length y1 = List.length y0) (List.length y0) y0 (Qc (by kernel_rfl)) ⟨rfl, (by simp)⟩ (fun k1 s1 hk1 hI1 => ?_) (fun k1 s1 hk1 hI1 => ?_) (fun y1 hD1 => ?_)
  ·
   have hA1_0 := hI1.2
   refine Qa ?_
   refine Qa ?_
   refine rk Qb [(44, .b true)] [] [] [] [(3, .val (.i (s1.length : Int))), (4, .val (.b true))] (o2 (Qf (Xc s1)) (o1 (Qf (Qg (decide_eq_true (p := ((k1 : Nat) : Int) < (s1.length : Int)) (by omega)))))) ?_
   refine ckT ?_
   refine Qh ?_
   refine Qa ?_
   refine Q4 ?_
   refine Qa ?_
   refine wdB 5 1 (.own true 147362) s1 (fun hw9 => ?_)
   have hl10 : List.length s1 ≤ 1073741824 := Qp (hw9)
   have hx8 : s1[k1]? = some (nth s1 k1) := X3 (by omega)
   refine rd' Qb Zv [(55, .b (decide ((Hj (s_.1, s1, s_.2.2) ((nth s1 k1).2.2.2.1)) < (0 : Int))))] [44] [] [] [(4, .rowE [.i ((nth s1 k1).1), .i ((nth s1 k1).2.1), .b ((nth s1 k1).2.2.1), .i ((nth s1 k1).2.2.2.1), .h ((nth s1 k1).2.2.2.2)]), (7, .val (.i (Hj (s_.1, s1, s_.2.2) ((nth s1 k1).2.2.2.1))))] (o2 (Ql (Xl (i := ((k1 : Nat) : Int)) (by omega) rfl hx8)) (o1 (Qe (Qle (s_.1, s1, s_.2.2) ((nth s1 k1).2.2.2.1))))) ?_
   refine ck (decide ((Hj (s_.1, s1, s_.2.2) ((nth s1 k1).2.2.2.1)) < (0 : Int))) (fun h11 => ?_) (fun h11 => ?_)
   ·
    have h11d := of_decide_eq_true h11
    refine rk Qb [] [55] [(5, [.o 704 s_.1, .slc (.own true 147362) 5 (setRow (eL s1) k1 3 [.i 0]), .i s_.2.2])] [5] [(3, .rowE [.i ((nth s1 k1).1), .i ((nth s1 k1).2.1), .b ((nth s1 k1).2.2.1), .i ((nth s1 k1).2.2.2.1), .h ((nth s1 k1).2.2.2.2)])] (o1 (Ql (Xl (i := ((k1 : Nat) : Int)) (by omega) rfl hx8))) ?_
    refine eqn [] [] [(5, [.o 704 s_.1, .o 147362 (List.set s1 k1 ((nth s1 k1).1, (nth s1 k1).2.1, (nth s1 k1).2.2.1, 0, (nth s1 k1).2.2.2.2)), .i s_.2.2])] [5] (by rw [Kd (y := ((nth s1 k1).1, (nth s1 k1).2.1, (nth s1 k1).2.2.1, 0, (nth s1 k1).2.2.2.2)) hx8 rfl]; first | done | kernel_rfl) ?_
    refine rk Qb [(7, .i ((k1 + 1 : Nat) : Int))] [7] [] [] [(1, .val (.i ((k1 + 1 : Nat) : Int)))] (o1 (Qf (Kw (Qs k1 (by omega))))) ?_
    exact Exists.intro (List.set s1 k1 ((nth s1 k1).1, (nth s1 k1).2.1, (nth s1 k1).2.2.1, 0, (nth s1 k1).2.2.2.2)) (And.intro (Qc (by kernel_rfl)) ⟨V0 hk1 (Yf h11 (rfl)) hI1.1, (by first | omega | (simp only [List.length_set]; omega))⟩)
   ·
    have h11d := of_decide_eq_false h11
    refine Qh ?_
    refine rk Qb [(7, .i ((k1 + 1 : Nat) : Int))] [7, 55] [] [] [(1, .val (.i ((k1 + 1 : Nat) : Int)))] (o1 (Qf (Kw (Qs k1 (by omega))))) ?_
    exact Exists.intro s1 (And.intro (Qc (by kernel_rfl)) ⟨V0 hk1 (Qv h11 (rfl)) hI1.1, (by first | omega | (simp only [List.length_set]; omega))⟩)
  ·
   have hA1_0 := hI1.2
   refine Qa ?_
   refine Qa ?_
   refine rk Qb [(44, .b false)] [] [] [] [(3, .val (.i (s1.length : Int))), (4, .val (.b false))] (o2 (Qf (Xc s1)) (o1 (Qf (Qg (decide_eq_false (p := ((k1 : Nat) : Int) < (s1.length : Int)) (by omega)))))) ?_
   refine ckF ?_
   refine Xj ?_
   exact Exists.intro s1 (And.intro (Qc (by kernel_rfl)) ⟨Qb8 hk1 (rfl) hI1.1, by first | omega | (simp only [List.length_set]; omega)⟩)
  ·
   have hD1_0 := hD1.2
   refine Qa ?_
   refine rk Qb [] [5] [(4, [.o 704 s_.1, .o 147362 y1, .i s_.2.2])] [4, 5] [] (o0) ?_
   refine Qi ?_
   exact Zb [] (congrArg (fun z => (.a [.o 0 z.1, .o 1 z.2.1, .i z.2.2] : AV)) (show Yj s_ u = (s_.1, y1, s_.2.2) from Hk hD0 (Hk hD1.1 (rfl))).symm)
def Yn (s_ : X7) (d : (List Zh)) (u : Int) : (List Qk) × Bool := (bif ((!(Qt u 0 2)) || (!(Yp s_))) then ([], false) else (((Kg (Yj s_ u) d)).1, ((Kg (Yj s_ u) d)).2))
theorem Qev (s_ : X7) (d : (List Zh)) (u : Int) : ACalls Tryz.prog 37 [.a [.h s_.1, .h s_.2.1, .i s_.2.2], .h d, .i u] (.tup [(false, [.o 0 (((Yn s_ d u)).1)]), (false, [.b (((Yn s_ d u)).2)])]) := by
 refine Qn (tt := tt) Qb Tryz.func37 (fn := Tryz.f37) rfl (by unfold Z7; kernel_rfl) (Nat.le_of_ble_eq_true rfl) fun w0 F0 => ?_
 refine Qa ?_
 refine rk Qb [(3, .p 3 0), (6, .e 0), (7, .b false)] [0] [(3, [.h s_.1, .h s_.2.1, .i s_.2.2])] [] [] (o0) ?_
 refine Qa ?_
 refine Qa ?_
 refine jn [(15, .b ((!(Qt u 0 2)) || (!(Yp s_))))] [] [] [] (!(Qt u 0 2)) (fun h1 => ?_) (fun h1 => ?_) ?_
 ·
  have h1n : (Qt u 0 2) = false := Qa3 h1
  refine rk Qb [(15, .b true)] [] [] [] [(1, .val (.b false)), (2, .val (.b true))] (o2 (Qe (cb h1n (Y5 u 0 2))) (o1 (Qf (show .b (!false) = .b true from rfl)))) ?_
  exact ⟨rfl, Qc (by rw [h1]; first | done | kernel_rfl)⟩
 ·
  have h1n : (Qt u 0 2) = true := Vo h1
  have h1nw := Qcp.1 h1n
  refine rk Qb [(15, .b (!(Yp s_)))] [] [] [] [(1, .val (.b true)), (2, .val (.b false)), (5, .val (.b (Yp s_)))] (o2 (Qe (cb h1n (Y5 u 0 2))) (o2 (Qf (show .b (!true) = .b false from rfl)) (o1 (Qe (Qc0 s_))))) ?_
  exact ⟨rfl, Qc (by rw [h1]; first | done | kernel_rfl)⟩
 refine ck ((!(Qt u 0 2)) || (!(Yp s_))) (fun h2 => ?_) (fun h2 => ?_)
 ·
  refine Qa ?_
  refine rk Qb [(6, .one (.slc (.own true 1024) 2 []))] [6, 15] [] [] [] (o0) ?_
  refine Qi ?_
  exact Zb [] (congrArg (fun z => (.tup [(false, [.o 0 z.1]), (false, [.b z.2])] : AV)) (show Yn s_ d u = ([], false) from Yf h2 (rfl)).symm)
 ·
  have h2l : ((!(Qt u 0 2))) = false := Qra h2
  have h2ln : (Qt u 0 2) = true := Vo h2l
  have h2lnw := Qcp.1 h2ln
  refine Qh ?_
  refine Qa ?_
  refine rk Qb [(6, .o 1344 (((Kg (Yj s_ u) d)).1)), (7, .b (((Kg (Yj s_ u) d)).2))] [1, 2, 3, 6, 7, 15] [] [3] [(2, .val (.a [.o 0 ((Yj s_ u).1), .o 1 ((Yj s_ u).2.1), .i ((Yj s_ u).2.2)])), (4, .val (.tup [(false, [.o 0 (((Kg (Yj s_ u) d)).1)]), (false, [.b (((Kg (Yj s_ u) d)).2)])]))] (o2 (Qe (Qg5 s_ u)) (o1 (Qe (Qlb (Yj s_ u) d)))) ?_
  refine Qi ?_
  exact Zb [] (congrArg (fun z => (.tup [(false, [.o 0 z.1]), (false, [.b z.2])] : AV)) (show Yn s_ d u = (((Kg (Yj s_ u) d)).1, ((Kg (Yj s_ u) d)).2) from Qv h2 (rfl)).symm)
def Xp (s_ : X7) (d : (List Zh)) (u : Int) (name : ByteArray) : (List Int) := (Yz (((Yn s_ d u)).1) name)
theorem Qn0 (s_ : X7) (d : (List Zh)) (u : Int) (name : ByteArray) : ACalls Tryz.prog 52 [.a [.h s_.1, .h s_.2.1, .i s_.2.2], .h d, .i u, .s name] (.o 0 (Xp s_ d u name)) := by
 refine Qn (tt := tt) Qb Tryz.func52 (fn := Tryz.f52) rfl (by unfold Z7; kernel_rfl) (Nat.le_of_ble_eq_true rfl) fun w0 F0 => ?_
 refine Qa ?_
 refine rk Qb [(4, .p 4 0), (8, .e 0)] [0] [(4, [.h s_.1, .h s_.2.1, .i s_.2.2])] [] [] (o0) ?_
 refine Qa ?_
 refine rk Qb [(9, .o 960 (((Yn s_ d u)).1))] [1, 2, 4] [] [4] [(3, .val (.tup [(false, [.o 0 (((Yn s_ d u)).1)]), (false, [.b (((Yn s_ d u)).2)])]))] (o1 (Qe (Qev s_ d u))) ?_
 refine Qa ?_
 refine rk Qb [(8, .o 1280 (Yz (((Yn s_ d u)).1) name))] [3, 8, 9] [] [] [(2, .val (.o 0 (Yz (((Yn s_ d u)).1) name)))] (o1 (Qe (Qcu (((Yn s_ d u)).1) name))) ?_
 refine Qi ?_
 exact Zb [] (congrArg (fun z => (.o 0 z : AV)) (show Xp s_ d u name = (Yz (((Yn s_ d u)).1) name) from rfl).symm)
end Go.Proofs.YtnhmnfmhnepjmaaGreat
namespace Go.Proofs.YtnhmnfmhnepjmaaGreat
open Go.RowKit
theorem Qp2 {α R S T : Type} {f : Nat → α → S → Rd R S T} {g : Nat → S → Rd R S T} {e e' : Nat → S → T} (hf : ∀ k a s, f k a s = g k s) (he : ∀ k s, e k s = e' k s) : ∀ (l : List α) (k : Nat) (s : S), Xk f e l k s = U5 g e' l.length k s
  | [], k, s => by simp [Xk, U5, he]
  | a :: l, k, s => by
    simp only [Xk, U5, List.length_cons, hf]
    cases g k s with
    | next s' => exact Qp2 hf he l (k + 1) s'
    | brk t => rfl
    | ret r => rfl
theorem Qu1 (s : X7) (u : Int) : Yj s u = Ye s u := by
  unfold Yj Ye
  rw [Qce (f := Wl u) (g := Wh u) (e := Wm) (e' := Wi) (fun _ _ => rfl) s.2.1 0 _ (fun i a t _ => rfl)]
  congr 1
  funext y
  rw [Qp2 (f := Wj s) (g := Wn s) (e := Wk) (e' := Wo) (fun _ _ _ => rfl) (fun _ _ => rfl)]
theorem Qr2 (s : X7) (d : List Zh) (u : Int) : Yn s d u = Xw s d u := by
  unfold Yn Xw
  rw [Qtm, Qu1, Qrz]
  have h : Qt u 0 2 = Jy u := rfl
  rw [h, Bool.or_comm]
theorem Qu2 (s : X7) (d : List Zh) (u : Int) (n : ByteArray) : Xp s d u n = Xh s d u n := by
  unfold Xp Xh
  rw [Qr2]
  rfl
theorem store12 {s : X7} (h : Xm s = true) : s.2.1.length ≤ 12 := by
  unfold Xm at h
  cases hf : Xk (Zm s) Jd s.2.1 0 () with
  | brk t =>
    rw [hf] at h
    simp only [Out.on, Bool.and_eq_true, decide_eq_true_eq] at h
    omega
  | ret r =>
    rw [hf] at h
    obtain rfl : r = true := h
    exfalso
    have key : ∀ (l : List Yt) k, Xk (Zm s) Jd l k () ≠ .ret true := by
      intro l
      induction l with
      | nil => intro k h; simp [Xk] at h
      | cons a l ih =>
        intro k h
        simp only [Xk] at h
        unfold Zm at h
        split at h
        · rename_i hf; exact ih _ h
        · cases h
        · rename_i r hf; cases h; revert hf; generalize (_ || _ : Bool) = c; cases c <;> simp
    exact key _ _ hf
theorem user_ok (s : X7) (d : List Zh) (u : Int) : ((Xw s d u)).1.length ≤ 5 ∧ ∀ x, x ∈ ((Xw s d u)).1 → x.2.length ≤ 12 := by
  unfold Xw
  cases hc : ((!(Xm s)) || (!(Jy u))) with
  | true => exact ⟨Nat.zero_le _, fun x hx => by simp at hx⟩
  | false =>
    simp only [cond_false]
    cases he : (Y6 (Ye s u) d).2 with
    | false => rw [Qr1 he]; exact ⟨Nat.zero_le _, fun x hx => by simp at hx⟩
    | true =>
      obtain ⟨h1, h2, h3, h4⟩ := Qr0 he
      have h5 := store12 h2
      have hlen := congrArg List.length h3
      rw [List.length_map, List.length_map] at hlen
      exact ⟨by omega, fun x hx => Nat.le_trans (h4 x hx) h5⟩
theorem Qts (nm : ByteArray) : ∀ (o : List Qk) (k : Nat), Xk (Zw nm) J3 o k () = .brk () ∨ ∃ x, x ∈ o ∧ Xk (Zw nm) J3 o k () = .ret x.2
  | [], _ => .inl rfl
  | b :: o, k => by
    simp only [Xk, Zw]
    cases (b.1.toList == nm.toList) with
    | true => exact .inr ⟨b, List.mem_cons_self .., rfl⟩
    | false =>
      simp only [cond_false]
      rcases Qts nm o (k + 1) with h | ⟨x, hx, h⟩
      · exact .inl h
      · exact .inr ⟨x, List.mem_cons_of_mem _ hx, h⟩
theorem Qg6 (s : X7) (d : List Zh) (u : Int) (n : ByteArray) : (Xh s d u n).length ≤ 12 := by
  unfold Xh Xb
  rcases Qts n (Xw s d u).1 0 with h | ⟨x, hx, h⟩
  · rw [h]; exact Nat.zero_le _
  · rw [h]; exact (user_ok s d u).2 x hx
theorem Qg7 (l : List Int) : GoD.size l = l.length := Qum (fun _ => rfl)
open GoE (enc wide)
def Ug (n : Int) (k0 : Nat) (a0 : Int) (_ : Unit) : Rd ((List Int)) (Unit) (Int) := (bif decide (a0 < n) then (.next ()) else (.brk ((k0 : Nat) : Int)))
def Uh (k0 : Nat) (_ : Unit) : Int := ((k0 : Nat) : Int)
def Jv (list : (List Int)) (n : Int) : (List Int) := (Out.on (Xk (Ug n) Uh list 0 ()) (fun y0 => (bif (decide (y0 < (list.length : Int)) && ((nth list (Int.toNat y0)) == n)) then list else List.take (Int.toNat y0) list ++ [n] ++ (List.drop (Int.toNat y0) list))))
theorem Qfl (list : (List Int)) (n : Int) (hp : list.length < 1073741824) : ACalls Tryz.prog 38 [.h list, .i n] (.h (Jv list n)) := by
 refine Qn (tt := tt) Qb Tryz.func38 (fn := Tryz.f38) rfl (by unfold Z7; kernel_rfl) (Nat.le_of_ble_eq_true rfl) fun w0 F0 => ?_
 refine Qa ?_
 refine rk Qb [(4, .e 0)] [] [] [] [] (o0) ?_
 refine Qa ?_
 refine rk Qb [(5, .i 0)] [] [] [] [] (o0) ?_
 refine Qa ?_
 refine wdT 0 0 .sh list (fun hw1 => ?_)
 have hl2 : List.length list ≤ 1073741824 := Qp (hw1)
 refine blk (fun (k0 : Nat) (s0 : Unit) => [(5, .i ((k0 : Nat) : Int))]) [5] (fun k0 s0 => []) [] (fun (y0 : Int) => [(5, .i y0)]) [5] (fun y0 => []) [] (fun (k0 : Nat) (s0 : Unit) => (Xk (Ug n) Uh list 0 ()) = Xk (Ug n) Uh (List.drop k0 list) k0 s0) (fun (y0 : Int) => (Xk (Ug n) Uh list 0 ()) = .brk y0 ∧ 0 ≤ y0 ∧ y0 ≤ (list.length : Int)) list.length () (Qc (by kernel_rfl)) rfl (fun k0 s0 hk0 hI0 => ?_) (fun k0 s0 hk0 hI0 => ?_) (fun y0 hD0 => ?_)
 ·
  obtain ⟨a0, hx0⟩ := X8 (l := list) (i := k0) hk0
  refine Qa ?_
  refine Qa ?_
  refine rk Qb [(18, .b (decide (a0 < n)))] [] [] [] [(2, .val (.i (list.length : Int))), (3, .val (.b true)), (7, .row [.i a0])] (o2 (Qf (Xc list)) (o2 (Qf (Qg (decide_eq_true (p := ((k0 : Nat) : Int) < (list.length : Int)) (by omega)))) (o1 (Ql (Xl (i := ((k0 : Nat) : Int)) (by omega) rfl hx0))))) ?_
  refine ck (decide (a0 < n)) (fun h3 => ?_) (fun h3 => ?_)
  ·
   have h3d := of_decide_eq_true h3
   refine Qh ?_
   refine Q4 ?_
   refine rk Qb [(5, .i ((k0 + 1 : Nat) : Int))] [5, 18] [] [] [(1, .val (.i ((k0 + 1 : Nat) : Int)))] (o1 (Qf (Kw (Qs k0 (by omega))))) ?_
   exact Exists.intro () (And.intro (Qc (by kernel_rfl)) (Qw hx0 (Yf h3 (rfl)) hI0))
  ·
   have h3d := of_decide_eq_false h3
   refine Xj ?_
   exact Exists.intro ((k0 : Nat) : Int) (And.intro (Qc (by kernel_rfl)) ⟨Qs2 hx0 (Qv h3 (rfl)) hI0, by first | omega | (simp only [List.length_set]; omega)⟩)
 ·
  refine Qa ?_
  refine Qa ?_
  refine rk Qb [(18, .b false)] [] [] [] [(2, .val (.i (list.length : Int))), (3, .val (.b false))] (o2 (Qf (Xc list)) (o1 (Qf (Qg (decide_eq_false (p := ((k0 : Nat) : Int) < (list.length : Int)) (by omega)))))) ?_
  refine ckF ?_
  refine Xj ?_
  exact Exists.intro ((k0 : Nat) : Int) (And.intro (Qc (by kernel_rfl)) ⟨X9 hk0 (rfl) hI0, by first | omega | (simp only [List.length_set]; omega)⟩)
 ·
  have hD0_0 := hD0.2
  refine Qa ?_
  refine Qa ?_
  refine jn [(32, .b (decide (y0 < (list.length : Int)) && ((nth list (Int.toNat y0)) == n)))] [] [] [] (decide (y0 < (list.length : Int))) (fun h4 => ?_) (fun h4 => ?_) ?_
  ·
   have h4d := of_decide_eq_true h4
   have hx5 : list[(Int.toNat y0)]? = some (nth list (Int.toNat y0)) := X3 (by omega)
   refine rk Qb [(32, .b ((nth list (Int.toNat y0)) == n))] [] [] [] [(2, .val (.i (list.length : Int))), (3, .val (.b true)), (7, .row [.i (nth list (Int.toNat y0))])] (o2 (Qf (Xc list)) (o2 (Qf (Qg h4)) (o1 (Ql (Xl (i := y0) (by omega) rfl hx5))))) ?_
   exact ⟨rfl, Qc (by rw [h4]; first | done | kernel_rfl)⟩
  ·
   refine rk Qb [(32, .b false)] [] [] [] [(2, .val (.i (list.length : Int))), (3, .val (.b false))] (o2 (Qf (Xc list)) (o1 (Qf (Qg h4)))) ?_
   exact ⟨rfl, Qc (by rw [h4]; first | done | kernel_rfl)⟩
  refine ck (decide (y0 < (list.length : Int)) && ((nth list (Int.toNat y0)) == n)) (fun h6 => ?_) (fun h6 => ?_)
  ·
   refine Qa ?_
   refine rk Qb [(4, .h list)] [4, 32] [] [] [] (o0) ?_
   refine Qi ?_
   exact Zb [] (congrArg (fun z => (.h z : AV)) (show Jv list n = list from Hk hD0.1 (Yf h6 (rfl))).symm)
  ·
   refine Qh ?_
   refine Qa ?_
   refine rk Qb [(6, .one (.slc (.own true 2624) 1 (([] ++ (eL (List.take (Int.toNat y0) list))) ++ [[.i n]])))] [1, 32] [] [] [(3, .val (.h (List.take (Int.toNat y0) list))), (4, .flat)] (o2 (Qf (av_take .sh 1 (Int.toNat y0) y0 list rfl)) (o2 (Qid (lo := 0) (hi := y0) (n := (List.length (eL list))) (rng_of (by omega) (by omega) (by omega))) (o2 (V8 (n := (([] : List (List PV)).length + ((eL (List.take (Int.toNat y0) list)) : List (List PV)).length)) (Wq (rfl) (Xa (List.take (Int.toNat y0) list)) (by first | omega | (simp; omega) | simp))) (o2 (Qam (Hx (List.take (Int.toNat y0) list))) (o1 (V8 (n := ((([] ++ (eL (List.take (Int.toNat y0) list))) : List (List PV)).length + ([[.i n]] : List (List PV)).length)) (by simp [Xa]; omega))))))) ?_
   refine eqn [(6, .o 2624 (List.take (Int.toNat y0) list ++ [n]))] [6] [] [] (by rw [show (([] ++ (eL (List.take (Int.toNat y0) list))) ++ [[.i n]]) = (eL (List.take (Int.toNat y0) list ++ [n])) from Qaw (rfl) (rfl)]; first | done | kernel_rfl) ?_
   refine Qa ?_
   refine wdT 6 0 (.own true 2624) (List.take (Int.toNat y0) list ++ [n]) (fun hw7 => ?_)
   have hl8 : List.length (List.take (Int.toNat y0) list ++ [n]) ≤ 1073741824 := Qp (hw7)
   refine rk Qb [(4, .one (.slc (.own true 2944) 1 ((eL (List.take (Int.toNat y0) list ++ [n])) ++ (eL (List.drop (Int.toNat y0) list)))))] [0, 4, 5, 6] [] [] [(3, .val (.h (List.drop (Int.toNat y0) list))), (4, .flat)] (o2 (Qf (av_drop .sh 1 (Int.toNat y0) y0 list rfl)) (o2 (Qid (lo := y0) (hi := (((eL list) : List (List PV)).length : Int)) (n := (List.length (eL list))) (rng_all (by omega) (by omega))) (o2 (V8 (Wq (Xa (List.take (Int.toNat y0) list ++ [n])) (Xa (List.drop (Int.toNat y0) list)) (by first | omega | (simp; omega) | simp))) (o1 (Qam (Hx (List.drop (Int.toNat y0) list))))))) ?_
   refine eqn [(4, .o 2944 (List.take (Int.toNat y0) list ++ [n] ++ (List.drop (Int.toNat y0) list)))] [4] [] [] (by rw [show ((eL (List.take (Int.toNat y0) list ++ [n])) ++ (eL (List.drop (Int.toNat y0) list))) = (eL (List.take (Int.toNat y0) list ++ [n] ++ (List.drop (Int.toNat y0) list))) from Qaw (rfl) (rfl)]; first | done | kernel_rfl) ?_
   refine Qi ?_
   exact Zb [2944] (congrArg (fun z => (.h z : AV)) (show Jv list n = List.take (Int.toNat y0) list ++ [n] ++ (List.drop (Int.toNat y0) list) from Hk hD0.1 (Qv h6 (rfl))).symm)
end Go.Proofs.YtnhmnfmhnepjmaaGreat
namespace Go.Proofs.YtnhmnfmhnepjmaaGreat
open Go.RowKit
theorem asc_ext : ∀ (a b : List Int), a.Pairwise (· < ·) → b.Pairwise (· < ·) → (∀ x, x ∈ a ↔ x ∈ b) → a = b
  | [], [], _, _, _ => rfl
  | [], y :: b, _, _, h => by have := (h y).2 (by simp); simp at this
  | x :: a, [], _, _, h => by have := (h x).1 (by simp); simp at this
  | x :: a, y :: b, ha, hb, h => by
    rw [List.pairwise_cons] at ha hb
    have h1 : x = y := by
      have hx := (h x).1 (by simp)
      have hy := (h y).2 (by simp)
      simp only [List.mem_cons] at hx hy
      rcases hx with e | hx
      · exact e
      · rcases hy with e | hy
        · exact e.symm
        · have h1 := ha.1 y hy
          have h2 := hb.1 x hx
          omega
    subst h1
    congr 1
    refine asc_ext a b ha.2 hb.2 fun z => ?_
    have hz := h z
    simp only [List.mem_cons] at hz
    constructor
    · intro hm
      have hlt := ha.1 z hm
      rcases hz.1 (.inr hm) with e | e
      · omega
      · exact e
    · intro hm
      have hlt := hb.1 z hm
      rcases hz.2 (.inr hm) with e | e
      · omega
      · exact e
def Qd1 : List Int → Int → List Int
  | [], n => [n]
  | x :: l, n => if x < n then x :: Qd1 l n else if x = n then x :: l else n :: x :: l
theorem Qks (n x : Int) : ∀ l : List Int, x ∈ Qd1 l n ↔ x = n ∨ x ∈ l
  | [] => by simp [Qd1]
  | y :: l => by
    unfold Qd1
    by_cases h1 : y < n
    · rw [if_pos h1, List.mem_cons, Qks n x l, List.mem_cons]
      constructor
      · rintro (h | h | h)
        · exact .inr (.inl h)
        · exact .inl h
        · exact .inr (.inr h)
      · rintro (h | h | h)
        · exact .inr (.inl h)
        · exact .inl h
        · exact .inr (.inr h)
    · rw [if_neg h1]
      by_cases h2 : y = n
      · rw [if_pos h2, h2]; simp
      · rw [if_neg h2]; simp
theorem Qp3 (n : Int) : ∀ l : List Int, l.Pairwise (· < ·) → (Qd1 l n).Pairwise (· < ·)
  | [], _ => by simp [Qd1]
  | y :: l, h => by
    rw [List.pairwise_cons] at h
    unfold Qd1
    by_cases h1 : y < n
    · rw [if_pos h1, List.pairwise_cons]
      refine ⟨fun z hz => ?_, Qp3 n l h.2⟩
      rcases (Qks n z l).1 hz with e | e
      · omega
      · exact h.1 z e
    · rw [if_neg h1]
      by_cases h2 : y = n
      · rw [if_pos h2, List.pairwise_cons]; exact h
      · rw [if_neg h2, List.pairwise_cons, List.pairwise_cons]
        refine ⟨fun z hz => ?_, h⟩
        rcases List.mem_cons.1 hz with e | e
        · omega
        · have := h.1 z e; omega
theorem Qp4 (n : Int) : ∀ l : List Int, (Qd1 l n).length ≤ l.length + 1
  | [] => by simp [Qd1]
  | y :: l => by
    have h := Qp4 n l
    unfold Qd1
    split
    · simp only [List.length_cons]; omega
    · split
      · simp
      · simp
def W9 (l : List Int) (n : Int) : Nat := (l.takeWhile (fun x => decide (x < n))).length
theorem Qtt (n : Int) : ∀ l : List Int, Qd1 l n = if l[W9 l n]? = some n then l else l.take (W9 l n) ++ [n] ++ l.drop (W9 l n)
  | [] => by simp [Qd1, W9]
  | y :: l => by
    have ih := Qtt n l
    unfold Qd1 W9
    by_cases h1 : y < n
    · rw [if_pos h1, ih]
      simp only [List.takeWhile_cons, h1, decide_true, if_true, List.length_cons, List.getElem?_cons_succ, List.take_succ_cons, List.drop_succ_cons]
      unfold W9
      split <;> simp
    · rw [if_neg h1]
      simp only [List.takeWhile_cons, h1, decide_false, List.length_nil, List.getElem?_cons_zero, Option.some.injEq, List.take_zero, List.drop_zero]
      by_cases h2 : y = n
      · rw [if_pos h2]; simp [h2]
      · rw [if_neg h2]; simp [h2]
def Qim (l : List Int) (xs : List Int) : List Int := xs.foldl Qd1 l
theorem Qh5 (x : Int) : ∀ (xs l : List Int), x ∈ Qim l xs ↔ x ∈ xs ∨ x ∈ l
  | [], l => by simp [Qim]
  | n :: xs, l => by
    have h := Qh5 x xs (Qd1 l n)
    unfold Qim at h ⊢
    rw [List.foldl_cons, h, Qks, List.mem_cons]
    constructor
    · rintro (h | h | h)
      · exact .inl (.inr h)
      · exact .inl (.inl h)
      · exact .inr h
    · rintro ((h | h) | h)
      · exact .inr (.inl h)
      · exact .inl h
      · exact .inr (.inr h)
theorem Qh6 : ∀ (xs l : List Int), l.Pairwise (· < ·) → (Qim l xs).Pairwise (· < ·)
  | [], _, h => h
  | n :: xs, l, h => Qh6 xs (Qd1 l n) (Qp3 n l h)
def less (ids removed : List Int) : List Int := ids.filter (fun x => !removed.contains x)
def replay1 (ids added removed : List Int) : List Int := Qim (Qim [] (less ids removed)) added
theorem Qd2 (ids removed : List Int) : (less ids removed).length ≤ ids.length := List.length_filter_le _ _
theorem Qkt (d : Array Int) (hs : ∀ i j, i ≤ j → j < d.size → d[i]! ≤ d[j]!) : ∀ m, m ≤ d.size → (Lib.compactUpTo d m).Pairwise (· < ·) ∧ ∀ x, x ∈ Lib.compactUpTo d m ↔ ∃ j, j < m ∧ d[j]! = x
  | 0, _ => by simp [Lib.compactUpTo]
  | m + 1, hm => by
    obtain ⟨h1, h2⟩ := Qkt d hs m (by omega)
    rw [Lib.compactUpTo_succ]
    by_cases hk : Lib.keeps d m = true
    · rw [if_pos hk]
      refine ⟨?_, fun x => ?_⟩
      · rw [List.pairwise_append]
        refine ⟨h1, by simp, fun a ha b hb => ?_⟩
        obtain ⟨j, hj, rfl⟩ := (h2 a).1 ha
        obtain rfl : b = d[m]! := by simpa using hb
        have hle := hs j (m - 1) (by omega) (by omega)
        have hle2 := hs (m - 1) m (by omega) (by omega)
        have hne : d[m]! ≠ d[m - 1]! := by
          unfold Lib.keeps at hk
          simp only [Bool.or_eq_true, beq_iff_eq, bne_iff_ne, decide_eq_true_eq] at hk
          rcases hk with h | h
          · omega
          · exact h
        omega
      · rw [List.mem_append, h2 x]
        constructor
        · rintro (⟨j, hj, e⟩ | h)
          · exact ⟨j, by omega, e⟩
          · exact ⟨m, by omega, by simpa using (by simpa using h : x = d[m]!).symm⟩
        · rintro ⟨j, hj, e⟩
          by_cases hjm : j = m
          · subst hjm; exact .inr (by simp [e])
          · exact .inl ⟨j, by omega, e⟩
    · rw [if_neg hk, List.append_nil]
      refine ⟨h1, fun x => ?_⟩
      rw [h2 x]
      have hm0 : m ≠ 0 ∧ d[m]! = d[m - 1]! := by
        unfold Lib.keeps at hk
        simp only [Bool.or_eq_true, beq_iff_eq, bne_iff_ne, decide_eq_true_eq, not_or, Decidable.not_not] at hk
        exact hk
      constructor
      · rintro ⟨j, hj, e⟩; exact ⟨j, by omega, e⟩
      · rintro ⟨j, hj, e⟩
        by_cases hjm : j = m
        · subst hjm; exact ⟨j - 1, by omega, hm0.2 ▸ e⟩
        · exact ⟨j, by omega, e⟩
theorem Qp5 (l : List Int) (a : List Int) (ha : a.Pairwise (· < ·)) (hm : ∀ x, x ∈ a ↔ x ∈ l) : Lib.compact (l.mergeSort fun x y => decide (x ≤ y)) = a := by
  have hp := List.mergeSort_perm l (fun x y => decide (x ≤ y))
  have hs := List.pairwise_mergeSort (le := fun (x y : Int) => decide (x ≤ y)) (fun a b c h1 h2 => by simp at h1 h2 ⊢; omega) (fun a b => by simp; omega) l
  generalize (l.mergeSort fun x y => decide (x ≤ y)) = s at hp hs
  have hsz : s.toArray.size = s.length := by simp
  have hget : ∀ j, j < s.length → s.toArray[j]! = s[j]! := fun j hj => by simp
  have hmono : ∀ i j, i ≤ j → j < s.toArray.size → s.toArray[i]! ≤ s.toArray[j]! := fun i j hij hj => by
    rw [hsz] at hj
    rw [hget i (by omega), hget j hj, getElem!_pos s i (by omega), getElem!_pos s j hj]
    by_cases e : i = j
    · subst e; exact Int.le_refl _
    · have := List.pairwise_iff_getElem.1 hs i j (by omega) hj (by omega)
      simpa using this
  obtain ⟨h1, h2⟩ := Qkt s.toArray hmono s.length (by omega)
  refine asc_ext _ _ h1 ha fun x => ?_
  show x ∈ Lib.compactUpTo s.toArray s.length ↔ _
  rw [h2 x, hm x, ← hp.mem_iff]
  constructor
  · rintro ⟨j, hj, e⟩
    rw [hget j hj, getElem!_pos s j hj] at e
    exact e ▸ List.getElem_mem hj
  · intro h
    obtain ⟨j, hj, e⟩ := List.getElem_of_mem h
    exact ⟨j, hj, by rw [hget j hj, getElem!_pos s j hj]; exact e⟩
theorem Qu3 (ids added removed : List Int) : Lib.compact ((less ids removed ++ added).mergeSort fun x y => decide (x ≤ y)) = replay1 ids added removed :=
  Qp5 _ _ (Qh6 _ _ (Qh6 _ _ (by simp))) fun x => by
    unfold replay1
    rw [Qh5, Qh5, List.mem_append]
    simp only [List.not_mem_nil, or_false]
    exact Or.comm
end Go.Proofs.YtnhmnfmhnepjmaaGreat
namespace Go.Proofs.YtnhmnfmhnepjmaaGreat
open Go.RowKit
theorem Qp6 (n : Int) : ∀ (l : List Int) (k : Nat), Xk (Ug n) Uh l k () = .brk (((k + W9 l n : Nat)) : Int)
  | [], k => by simp [Xk, Uh, W9]
  | a :: l, k => by
    simp only [Xk, Ug]
    by_cases h : a < n
    · have e : W9 (a :: l) n = W9 l n + 1 := by simp [W9, h]
      rw [decide_eq_true h, e]
      simp only [cond_true]
      rw [Qp6 n l (k + 1), show k + 1 + W9 l n = k + (W9 l n + 1) by omega]
    · have e : W9 (a :: l) n = 0 := by simp [W9, h]
      rw [decide_eq_false h, e]
      rfl
theorem Qku (l : List Int) (n : Int) : Jv l n = Qd1 l n := by
  unfold Jv
  rw [Qp6, Qtt]
  simp only [Out.on, Nat.zero_add, Int.toNat_natCast]
  by_cases h : l[W9 l n]? = some n
  · obtain ⟨hlt, _⟩ := List.getElem?_eq_some_iff.1 h
    rw [if_pos h, decide_eq_true (by omega : ((W9 l n : Nat) : Int) < (l.length : Int)), Ql0 h]
    simp
  · rw [if_neg h]
    have hc : (decide (((W9 l n : Nat) : Int) < (l.length : Int)) && (nth l (W9 l n) == n)) = false := by
      by_cases hlt : W9 l n < l.length
      · have : nth l (W9 l n) ≠ n := fun e => h (by rw [X3 hlt, e])
        rw [beq_eq_false_iff_ne.2 this, Bool.and_false]
      · rw [decide_eq_false (by omega), Bool.false_and]
    rw [hc, cond_false]
theorem Qn1 (l : List Int) (n : Int) : List.length (Jv l n) ≤ List.length l + 1 := by rw [Qku]; exact Qp4 n l
end Go.Proofs.YtnhmnfmhnepjmaaGreat
namespace Go.Proofs.YtnhmnfmhnepjmaaGreat
open Go.RowKit
open GoD (rd own)
def IRow (e : TypeId) (B : Nat) (w : World) (v : Value) (l : List Int) : Prop :=
  (∀ x, x ∈ l → I64 x) ∧ ((v = .slice none 0 0 ∧ l = []) ∨ ∃ (g cap : Nat) (cur : Array Value), v = .slice (some ⟨g, 0, none⟩) l.length cap ∧ B ≤ g ∧ w.heap[g]? = some (.cells cur e (0, 0)) ∧ l.length ≤ cap ∧ cap ≤ maxLen ∧ cur.size = cap ∧ cur.toList.take l.length = l.map (Value.int .i64))
theorem IRow.keep {e : TypeId} {B : Nat} {w w' : World} {v : Value} {l : List Int} (h : IRow e B w v l) (hb : Below w.heap.size w w') : IRow e B w' v l := by
  refine ⟨h.1, ?_⟩
  rcases h.2 with h | ⟨g, cap, cur, hv, hB, hg, h1, h2, h3, h4⟩
  · exact .inl h
  · exact .inr ⟨g, cap, cur, hv, hB, (hb.block g (Q5 hg)).trans hg, h1, h2, h3, h4⟩
theorem IRow.mono {e : TypeId} {B B' : Nat} {w : World} {v : Value} {l : List Int} (h : IRow e B w v l) (hb : B' ≤ B) : IRow e B' w v l := by
  refine ⟨h.1, ?_⟩
  rcases h.2 with h | ⟨g, cap, cur, hv, hB, hg, h1, h2, h3, h4⟩
  · exact .inl h
  · exact .inr ⟨g, cap, cur, hv, Nat.le_trans hb hB, hg, h1, h2, h3, h4⟩
theorem IRow.slice {e : TypeId} {B : Nat} {w : World} {v : Value} {l : List Int} (h : IRow e B w v l) : ∃ oa cap, v = .slice oa l.length cap := by
  rcases h.2 with ⟨rfl, rfl⟩ | ⟨g, cap, cur, rfl, _⟩
  · exact ⟨_, _, rfl⟩
  · exact ⟨_, _, rfl⟩
theorem IRow.row {e : TypeId} {B : Nat} {w : World} {v : Value} {l : List Int} (h : IRow e B w v l) : w.ownsRow B e 1 v l.length (l.map (Value.int .i64)) := by
  refine ⟨by simp, ?_⟩
  rcases h.2 with ⟨rfl, rfl⟩ | ⟨g, cap, cur, rfl, hB, hg, h1, h2, h3, h4⟩
  · exact .inl ⟨rfl, rfl⟩
  · exact .inr ⟨g, cap, cur, rfl, hB, hg, h1, h2, by rw [h3, Nat.mul_one], by rw [Nat.mul_one, h4]⟩
theorem IRow.of_row {e : TypeId} {B n : Nat} {w : World} {v : Value} {l : List Int} (h : w.ownsRow B e 1 v n (l.map (Value.int .i64))) (hi : ∀ x, x ∈ l → I64 x) : IRow e B w v l := by
  have hn : l.length = n := by have := h.1; simpa using this
  subst hn
  refine ⟨hi, ?_⟩
  rcases h.2 with ⟨h1, h2⟩ | ⟨g, cap, cur, h1, hB, hg, h2, h3, h4, h5⟩
  · refine .inl ⟨h1, ?_⟩
    first
      | (simpa using h2)
      | (cases l with | nil => rfl | cons a l => simp at h2)
  · exact .inr ⟨g, cap, cur, h1, hB, hg, h2, h3, by rw [h4, Nat.mul_one], by rw [Nat.mul_one] at h5; exact h5⟩
theorem IRow.own {e : TypeId} {B : Nat} {w : World} {v : Value} {l : List Int} (h : IRow e B w v l) : ∃ L, own L w [v] l ∧ (∀ b, b ∈ L → B ≤ b ∧ b < w.heap.size) ∧ L = v.ownBlock.toList := by
  obtain ⟨hi, h⟩ := h
  rcases h with ⟨rfl, rfl⟩ | ⟨g, cap, cur, rfl, hB, hg, h1, h2, h3, h4⟩
  · exact ⟨[], ⟨by simp, .inl ⟨rfl, rfl, none, rfl⟩⟩, by simp, rfl⟩
  · refine ⟨[g], ⟨by simp, .inr ⟨g, cap, cur, e, List.replicate l.length [], rfl, hg, h1, h2, by show cur.size = cap * 1; omega, by simp, by simp, ?_⟩⟩, fun b hb => ?_, rfl⟩
    · intro i Li a hLi ha
      have hL0 : Li = [] := (List.mem_replicate.1 (List.mem_of_getElem? hLi)).2
      subst hL0
      have hil : i < l.length := (List.getElem?_eq_some_iff.1 ha).1
      refine ⟨rfl, ?_, hi a (List.mem_of_getElem? ha)⟩
      have hc : cur.toList[i]? = some (Value.int .i64 a) := by
        have h5 : (cur.toList.take l.length)[i]? = (l.map (Value.int .i64))[i]? := by rw [h4]
        rw [List.getElem?_take, if_pos hil, List.getElem?_map, ha] at h5
        exact h5
      show (cur.toList.drop (i * 1)).take 1 = _
      rw [Nat.mul_one]
      obtain ⟨hlt, he⟩ := List.getElem?_eq_some_iff.1 hc
      rw [List.drop_eq_getElem_cons hlt, he]
      rfl
    · obtain rfl : b = g := by simpa using hb
      exact ⟨hB, Q5 hg⟩
theorem IRow.rd {e : TypeId} {B : Nat} {w : World} {v : Value} {l : List Int} (h : IRow e B w v l) : GoD.rd w [v] l := by
  obtain ⟨L, ho, _⟩ := h.own
  exact GoD.own_rd ho
theorem IRow.fresh {e : TypeId} {B : Nat} (w : World) (hB : B ≤ w.heap.size) : IRow e B (w.alloc (.cells #[] e)) (.slice (some ⟨w.heap.size, 0, none⟩) 0 0) [] :=
  ⟨by simp, .inr ⟨w.heap.size, 0, #[], rfl, hB, heap_alloc_new w _, Nat.le_refl _, Nat.zero_le _, rfl, rfl⟩⟩
theorem IRow.nil {e : TypeId} {B : Nat} (w : World) : IRow e B w (.slice none 0 0) [] := ⟨by simp, .inl ⟨rfl, rfl⟩⟩
theorem rd_i64 {w : World} {v : Value} {l : List Int} (h : GoD.rd w [v] l) : ∀ x, x ∈ l → I64 x := by
  obtain ⟨oa, cap, _, _, _, hel⟩ := h
  intro x hx
  obtain ⟨i, hi, rfl⟩ := List.getElem_of_mem hx
  obtain ⟨b, off, ce, _, _, _, h2⟩ := hel i _ (List.getElem?_eq_getElem hi)
  exact h2.2
theorem Qr3 {w : World} {oa : Option Addr} {cap : Nat} {l : List Int} (h : GoD.rd w [.slice oa l.length cap] l) : l = [] ∨ ∃ (b off : Nat), oa = some ⟨b, off, none⟩ ∧ ∀ j, j < l.length → w.cell? ⟨b, off + j, none⟩ = some (.int .i64 (l.getD j 0)) := by
  obtain ⟨oa', cap', e, hl, hm, hel⟩ := h
  obtain ⟨rfl, rfl⟩ : oa = oa' ∧ cap = cap' := by simpa using e
  cases hcase : l with
  | nil => exact .inl rfl
  | cons a0 l0 =>
    right
    obtain ⟨b, off, _, rfl, _⟩ := hel 0 a0 (by simp [hcase])
    rw [← hcase]
    refine ⟨b, off, rfl, fun j hj => ?_⟩
    obtain ⟨b', off', ce, e', hcl, hcc, hr⟩ := hel j _ (List.getElem?_eq_getElem hj)
    obtain ⟨rfl, rfl⟩ : b = b' ∧ off = off' := by simpa using e'
    have := hcc 0 (.int .i64 l[j]) (by rw [hr.1]; rfl)
    rw [List.getD_eq_getElem?_getD, List.getElem?_eq_getElem hj]
    simpa [show GoD.n Int = 1 from rfl] using this
section
variable {α : Type} [GoD α]
end
/-! ### append of a whole slice of integers -/
theorem Qr4 {P : Program} (w : World) (B : Nat) (t ty e : TypeId) (ht : P.underlying t = some (.slice e))
    (hinf : (P.info? e).map (fun i => (i.zero.map (·.cells.size), i.size, decide (i.bytes ≤ 1000))) = some (some 1, 1, true)) (hB : B ≤ w.heap.size)
    {v y : Value} {l l2 : List Int} (hv : IRow e B w v l) (hr : GoD.rd w [y] l2) (hl : l.length + l2.length ≤ 1073741824) :
    ∃ v' w', (Builtin.append_ #[t, t] ty #[v, y]).run P w = .ok v' w' ∧ IRow e B w' v' (l ++ l2) ∧ Chg v.ownBlock.toList w w' ∧ (∀ g, v'.ownBlock = some g → v.ownBlock = some g ∨ w.heap.size ≤ g) := by
  obtain ⟨i, z, hi, hz, hsize, hzn, hb⟩ := Qqn hinf
  obtain ⟨oa, cap, rfl⟩ := Uj hr
  have hi2 := rd_i64 hr
  rcases Qr3 hr with rfl | ⟨b, off, rfl, hcells⟩
  · refine ⟨v, w, ?_, by rw [List.append_nil]; exact hv, Chg.refl _ _, fun g hg => .inl hg⟩
    obtain ⟨oa', cap', hs⟩ := hv.slice
    rcases hv.2 with ⟨rfl, rfl⟩ | ⟨g, c0, cur, rfl, _, _, h1, _⟩
    · cases oa <;> simp [Builtin.append_, run_underlying ht, sizeOf, typeInfo, hi, Builtin.lenOf, Builtin.firstCells, loadCells, loadCellsFrom, storeCells]
    · cases oa <;> simp [Builtin.append_, run_underlying ht, sizeOf, typeInfo, hi, Builtin.lenOf, Builtin.firstCells, loadCells, loadCellsFrom, storeCells, h1]
  · have hi1 := hv.1
    obtain ⟨v', w', hr', hw, hgr, hvb, _⟩ := run_app (P := P) w B t ty e i z ht hi hz (by rw [hsize]; exact hzn) (by rw [hsize]; exact Nat.one_pos) hb (by rw [hsize]; exact hv.row) ⟨b, off, none⟩ l2.length cap (l2.map (Value.int .i64)) (by simp [hsize]) (fun j u hj => by
        rw [List.getElem?_map] at hj
        obtain ⟨x, hx, rfl⟩ := Option.map_eq_some_iff.1 hj
        have hjl : j < l2.length := (List.getElem?_eq_some_iff.1 hx).1
        have := hcells j hjl
        rw [List.getD_eq_getElem?_getD, hx] at this
        unfold Addr.add
        by_cases hj0 : j = 0
        · subst hj0; simpa using this
        · simpa [hj0] using this) (by intro u hu; obtain ⟨x, _, rfl⟩ := List.mem_map.1 hu; simp [Value.oneCell']) (by omega) hB
    rw [hsize, ← List.map_append] at hw
    refine ⟨v', w', hr', IRow.of_row hw (fun x hx => ?_), ⟨hgr.os, hgr.tape, hgr.output, hgr.size, fun k hk hn => hgr.block k hk (fun e => hn (by rw [← e]; simp))⟩, hvb⟩
    rcases List.mem_append.1 hx with h | h
    · exact hi1 x h
    · exact hi2 x h
theorem IRow.below {e : TypeId} {B : Nat} {w w' : World} {v : Value} {l : List Int} (h : IRow e B w v l) (hc : Chg v.ownBlock.toList w w') (hB : B ≤ w.heap.size) : Below B w w' :=
  hc.below hB fun b hb => by
    rcases h.2 with ⟨rfl, rfl⟩ | ⟨g, cap, cur, rfl, hg, _⟩
    · simp [Value.ownBlock] at hb
    · obtain rfl : b = g := by simpa [Value.ownBlock] using hb
      exact hg
theorem Qlf {P : Program} {w : World} {ops : Array Oper} {rest : List Oper} {o : Oper} {a : Act} {Q : Exit → Act → World → Prop} (s x : Operand) (t e : TypeId) (B : Nat) {v y : Value} {l l2 : List Int}
    (hv : IRow e B w v l) (hr : GoD.rd w [y] l2) (hl : l.length + l2.length ≤ 1073741824) (hB : B ≤ w.heap.size)
    (hgd : o.guard = none) (ho : o.op = .call { callee := .builtin .append, args := #[s, x], argTypes := #[t, t] }) (ht : P.underlying t = some (.slice e))
    (hinf : (P.info? e).map (fun i => (i.zero.map (·.cells.size), i.size, decide (i.bytes ≤ 1000))) = some (some 1, 1, true)) (hs : a.eval s = v) (hx : a.eval x = y)
    (k : ∀ v' w', IRow e B w' v' (l ++ l2) → Below B w w' → w.heap.size ≤ w'.heap.size → wpList P ops Q rest (a.put o.dst v') w') : wpList P ops Q (o :: rest) a w := by
  refine wpList_plain hgd fun _ hK => ?_
  obtain ⟨v', w', hr', h1, h2, _⟩ := Qr4 (P := P) w B t o.type e ht hinf hB hv hr hl
  unfold Oper.wp execOp
  simp only [ho, resolve, invoke, builtin, Sem.run_bind, Sem.run_pure, Result.andThen_ok, List.map_toArray, List.map_cons, List.map_nil, hs, hx, hr']
  exact hK _ _ (k v' w' h1 (hv.below h2 hB) h2.size)
/-! ### rows that the library writes over -/
open Go.Sort in
theorem Qr5 {w : World} {g : Nat} {cur : Array Value} {e : TypeId} (hg : w.heap[g]? = some (.cells cur e (0, 0))) (q : Nat) (d : Array Int) (os : Array Obj) :
    (grow (putRow (Value.int .i64) (Sort.ahead w q) g 0 d) os).heap[g]? = some (.cells (Go.Sort.putCells (Value.int .i64) 0 d cur) e (0, 0)) := by
  have hlt : g < w.heap.size := Q5 hg
  unfold grow putRow mapBlock Sort.ahead
  simp only [Array.getElem?_append, Array.size_modify]
  rw [if_pos hlt, Array.getElem?_modify, if_pos rfl, hg]
  rfl
open Go.Sort in
theorem Qmg (w : World) (g q : Nat) (d : Array Int) (os : Array Obj) : Chg [g] w (grow (putRow (Value.int .i64) (Sort.ahead w q) g 0 d) os) := by
  refine ⟨rfl, rfl, rfl, ?_, fun b hb hn => ?_⟩
  · unfold grow putRow mapBlock Sort.ahead
    simp
  · unfold grow putRow mapBlock Sort.ahead
    simp only [Array.getElem?_append, Array.size_modify]
    rw [if_pos hb, Array.getElem?_modify, if_neg (fun e => hn (by simp [e]))]
open Go.Sort in
theorem Qn2 (d : Array Int) (cur : Array Value) (k : Nat) (h : d.size ≤ cur.size) (hk : k ≤ d.size) : (Go.Sort.putCells (Value.int .i64) 0 d cur).toList.take k = (d.toList.take k).map (Value.int .i64) := by
  apply List.ext_getElem?
  intro j
  rw [List.getElem?_take, List.getElem?_map, List.getElem?_take]
  by_cases hj : j < k
  · rw [if_pos hj, if_pos hj]
    have h1 : j < d.size := by omega
    unfold Go.Sort.putCells
    rw [Array.getElem?_toList, Array.getElem?_mapIdx, Array.getElem?_eq_getElem (by omega : j < cur.size), Array.getElem?_toList, Array.getElem?_eq_getElem h1]
    simp only [Option.map_some]
    rw [if_pos ⟨Nat.zero_le _, by omega⟩, Nat.sub_zero, getElem!_pos d j h1]
  · rw [if_neg hj, if_neg hj]; rfl
open Go.Sort in
theorem IRow.put {e : TypeId} {B g cap : Nat} {w : World} {cur : Array Value} (hB : B ≤ g) (hg : w.heap[g]? = some (.cells cur e (0, 0))) (hcap : cap ≤ maxLen) (hcs : cur.size = cap) (q : Nat) (d : Array Int) (os : Array Obj) (hd : d.size ≤ cap)
    (k : List Int) (hk : k = d.toList.take k.length) (hi : ∀ x, x ∈ k → I64 x) :
    IRow e B (grow (putRow (Value.int .i64) (Sort.ahead w q) g 0 d) os) (.slice (some ⟨g, 0, none⟩) k.length cap) k := by
  have hkl : k.length ≤ d.size := by
    have h := List.length_take_le' k.length d.toList
    rw [← hk, Array.length_toList] at h
    exact h
  refine ⟨hi, .inr ⟨g, cap, _, rfl, hB, Qr5 hg q d os, by omega, hcap, ?_, ?_⟩⟩
  · simp [Go.Sort.putCells, hcs]
  · rw [Qn2 d cur k.length (by omega) hkl, ← hk]
open Go.Sort in
theorem IRow.holds {e : TypeId} {g : Nat} {w : World} {cur : Array Value} {l : List Int} (hg : w.heap[g]? = some (.cells cur e (0, 0))) (ht : cur.toList.take l.length = l.map (Value.int .i64)) : Holds (Value.int .i64) w g 0 l.toArray := by
  intro j hj
  have hjl : j < l.length := by simpa using hj
  have hc : cur[j]? = some (Value.int .i64 l[j]) := by
    have h5 : (cur.toList.take l.length)[j]? = (l.map (Value.int .i64))[j]? := by rw [ht]
    rw [List.getElem?_take, if_pos hjl, List.getElem?_map, List.getElem?_eq_getElem hjl, Array.getElem?_toList] at h5
    exact h5
  refine ⟨?_, ?_⟩
  · rw [Nat.zero_add]
    simp only [World.cell?, hg]
    rw [getElem!_pos _ j hj]
    simpa using hc
  · rw [Nat.zero_add]
    simp [World.frozen?, hg]
end Go.Proofs.YtnhmnfmhnepjmaaGreat
namespace Go.Proofs.YtnhmnfmhnepjmaaGreat
open Go.RowKit
open GoD (rd own)
end Go.Proofs.YtnhmnfmhnepjmaaGreat
namespace Go.Proofs.YtnhmnfmhnepjmaaGreat
open Go.RowKit
open GoD (rd own)
theorem deleteI_c {e : TypeId} {B : Nat} (w : World) (v : Value) (l : List Int) (h : IRow e B w v l) (hsz : l.length ≤ 1073741824) (p : Int → Bool) (g : Nat) (lb : Array Value)
    (eg : ∀ args w, (callFunc g args).run Tryz.prog w = .ok (.enter g args) w) (hp : ∀ W x, Chg v.ownBlock.toList w W → FnGives Tryz.prog g lb #[.int .i64 x] (.bool (p x)) W) :
    Calls Tryz.prog 154 #[v, .func (.func g) #[] lb] w fun e' w' => ∃ v', e' = .returned v' ∧ IRow e B w' v' (l.filter fun x => !p x) ∧ Chg v.ownBlock.toList w w' := by
  obtain ⟨hi, h2⟩ := h
  rcases h2 with ⟨rfl, rfl⟩ | ⟨b, cap, cur, rfl, hB, hg, h1, hm, h3, h4⟩
  · clear hp eg
    go_enter Tryz.func154, Tryz.ntmps154
    go_wp2_with (go_at_call 190; refine (Sh.slices_IndexFunc_empty (α := Int) none 0 _ _).mono ?_; rintro e' w' ⟨rfl, rfl⟩)
    go_ret
    exact ⟨_, rfl, ⟨by simp, .inl ⟨rfl, rfl⟩⟩, Chg.refl _ _⟩
  · have hl : l = l.toArray.toList := by simp
    have hs : l.toArray.size = l.length := by simp
    have hcon := Sh.slices_DeleteFunc (Value.int .i64) (fun _ => rfl) p g lb eg 0 Tryz.zeroValue3 b 0 cap l.toArray w (fun W x hb => hp W x (Chg.of_below hb)) (fun n os dk x _ => hp _ x (Qmg w b n dk os)) (IRow.holds hg h4) (by rw [hs]; omega) (by rw [hs]; exact h1)
    rw [hs] at hcon
    refine hcon.mono ?_
    rintro e' w' ⟨rfl, q, rfl⟩
    have hle : (l.filter fun x => !p x).length ≤ l.length := List.length_filter_le _ _
    have hc := Qmg w b q ((l.filter fun x => !p x) ++ List.replicate (l.length - (l.filter fun x => !p x).length) 0).toArray #[]
    have hp := IRow.put hB hg hm h3 q ((l.filter fun x => !p x) ++ List.replicate (l.length - (l.filter fun x => !p x).length) 0).toArray #[] (by simp only [List.size_toArray, List.length_append, List.length_replicate]; omega) (l.filter fun x => !p x) (by simp) (fun x hx => hi x (List.mem_filter.1 hx).1)
    rw [Go.Sort.grow_empty] at hc hp
    exact ⟨_, rfl, hp, hc⟩
theorem cloneI_c (w : World) (v : Value) (l : List Int) (ha : rd w [v] l) (hl : l.length ≤ 1073741824) : Calls Tryz.prog 112 #[v] w fun e' w' => ∃ v', e' = .returned v' ∧ IRow 3 w.heap.size w' v' l ∧ Below w.heap.size w w' := by
  have HA := Lib.hid ha
  obtain ⟨oa, cap, rfl⟩ := Uj ha
  have hcs := Qr3 ha
  clear ha
  have q22 : ∀ (w : World) (a : Option Addr) (n c n' c' : Nat), (binOp .eql 29 (.slice a n c) (.slice none n' c')).run Tryz.prog w = .ok (.bool a.isNone) w := fun w a n c n' c' => Lib.run_eql_slice_nil w _ _ a n c n' c' Tryz.underlying29
  cases oa with
  | none =>
    have hnil : l = [] := by
      rcases hcs with rfl | ⟨b, off, h, _⟩
      · rfl
      · cases h
    clear hcs
    subst hnil
    go_enter Tryz.func112, Tryz.ntmps112
    go_wp2
    go_ret
    all_goals exact ⟨_, rfl, IRow.nil _, Below.refl _ _⟩
  | some ad =>
    clear hcs
    go_enter Tryz.func112, Tryz.ntmps112
    go_wp2_with (at_builtin; refine Qlf _ _ 29 3 w.heap.size (l := []) (l2 := l) (IRow.fresh w (Nat.le_refl _)) (Q3 HA.out (by go_grown)) (by (try simp only [List.length_nil]); omega) (by go_size) rfl rfl Tryz.underlying29 (by kernel_rfl) rfl rfl ?_; intro v2 w2 h2 c2 _; rw [List.nil_append] at h2; have H2 := Lib.hid h2; clear h2; have C2 := Lib.hid c2; clear c2)
    go_ret
    exact ⟨v2, rfl, H2.out, (show Below w.heap.size w _ by go_grown).trans C2.out⟩
theorem Qr6 (W : World) (C : Nat) (vb : Value) (bl : List Int) (x : Int) (hc : W.cell? ⟨C, 0, none⟩ = some vb) (hr : rd W [vb] bl) : FnGives Tryz.prog 155 #[.pointer (some ⟨C, 0, none⟩)] #[.int .i64 x] (.bool (bl.contains x)) W := by
  show Calls Tryz.prog 155 #[.int .i64 x, .pointer (some ⟨C, 0, none⟩)] W _
  obtain ⟨oa, cap, rfl⟩ := Uj hr
  have hn := Qpa hr
  have hcon : Calls Tryz.prog 156 #[.slice oa bl.length cap, .int .i64 x] W fun e w' => e = .returned (.bool (bl.contains x)) ∧ w' = W := by
    rcases Qr3 hr with rfl | ⟨b, off, rfl, hcs⟩
    · exact Sh.slices_Contains_int_empty oa cap x W
    · have := Sh.slices_Contains_int b off bl.length cap bl x W (Nat.le_refl _) hn hcs
      rw [List.take_length] at this
      exact this
  generalize bl.contains x = r at hcon ⊢
  clear hr
  go_enter Tryz.func155, Tryz.ntmps155
  go_wp2_with (go_at_call 156; refine hcon.mono ?_; rintro e w' ⟨rfl, rfl⟩)
  go_ret
  exact ⟨rfl, 0, rfl⟩
theorem Qg8 {e : TypeId} {B : Nat} {w : World} {v : Value} {l : List Int} (h : IRow e B w v l) : ∀ b, b ∈ v.ownBlock.toList → B ≤ b ∧ b < w.heap.size := by
  obtain ⟨L, _, h1, rfl⟩ := h.own
  exact h1
theorem pred_ok {w w0 w1 : World} {v1 : Value} {oa : Option Addr} {cap : Nat} {a bl : List Int} (hw : w0 = w.alloc (.cells #[.slice oa bl.length cap] 29))
    (H1 : IRow 3 (w.alloc (.cells #[.slice oa bl.length cap] 29)).heap.size w1 v1 a) (C1 : Below (w.alloc (.cells #[.slice oa bl.length cap] 29)).heap.size (w.alloc (.cells #[.slice oa bl.length cap] 29)) w1)
    (HB : rd w [.slice oa bl.length cap] bl) (HZ : w0.cell? ⟨w.heap.size, 0, none⟩ = some (.slice oa bl.length cap)) {W : World} {x : Int} (hch : Chg v1.ownBlock.toList w1 W) :
    FnGives Tryz.prog 155 #[.pointer (some ⟨w.heap.size, 0, none⟩)] #[.int .i64 x] (.bool (bl.contains x)) W := by
  rw [← hw] at H1 C1
  have hs : w0.heap.size = w.heap.size + 1 := by rw [hw]; simp
  have h1 : Below w0.heap.size w0 W := C1.trans (hch.below C1.size (fun b hb => (Qg8 H1 b hb).1))
  have h0 : Below w.heap.size w w0 := by rw [hw]; go_grown
  exact Qr6 W w.heap.size _ bl x ((h1.cell (p := ⟨w.heap.size, 0, none⟩) (show w.heap.size < w0.heap.size by omega)).trans HZ) (Q3 HB (h0.trans (h1.mono (by omega))))
theorem without_c (w : World) (va vb : Value) (a bl : List Int) (ha : rd w [va] a) (hb : rd w [vb] bl) (hl : a.length ≤ 1073741824) :
    Calls Tryz.prog 113 #[va, vb] w fun e' w' => ∃ v', e' = .returned v' ∧ IRow 3 w.heap.size w' v' (less a bl) ∧ Below w.heap.size w w' := by
  have HA := Lib.hid ha; clear ha
  obtain ⟨oa, cap, rfl⟩ := Uj hb
  have HB := Lib.hid hb; clear hb
  obtain ⟨w0, hw0⟩ : ∃ w0, w0 = w.alloc (.cells #[.slice oa bl.length cap] 29) := ⟨_, rfl⟩
  have hB0 : Below w.heap.size w w0 := by rw [hw0]; go_grown
  have hs0 : w0.heap.size = w.heap.size + 1 := by rw [hw0]; simp
  have z0 : w0.cell? ⟨w.heap.size, 0, none⟩ = some (.slice oa bl.length cap) := by rw [hw0]; simp [go_sem]
  have HZ := Lib.hid z0; clear z0
  have HW := Lib.hid hw0; clear hw0
  have hmf : ∀ (fn : Fn) (first cap : Array Value) (w : World), (Instr.makeFunc fn first cap).run Tryz.prog w = .ok (.func fn first cap) w := fun _ _ _ _ => rfl
  have eg : ∀ args w, (callFunc 155 args).run Tryz.prog w = .ok (.enter 155 args) w := enters_of Tryz.func155 (by kernel_rfl) rfl
  go_enter Tryz.func113, Tryz.ntmps113
  go_wp2_with (first
    | (go_at_call 112; refine (cloneI_c _ _ a (Q3 HA.out (by go_grown)) hl).mono ?_; rintro e1 w1 ⟨v1, rfl, h1, c1⟩; have H1 := Lib.hid h1; clear h1; have C1 := Lib.hid c1; clear c1)
    | (go_at_call 154; have hpred : ∀ (W : World) (x : Int), Chg v1.ownBlock.toList w1 W → FnGives Tryz.prog 155 #[.pointer (some ⟨w.heap.size, 0, none⟩)] #[.int .i64 x] (.bool (bl.contains x)) W := (fun W x hch => pred_ok HW.out H1.out C1.out HB.out HZ.out hch); refine (deleteI_c (e := 3) (B := w.heap.size) w1 v1 a (H1.out.mono (by go_size)) hl (fun x => bl.contains x) 155 #[.pointer (some ⟨w.heap.size, 0, none⟩)] eg hpred).mono ?_; rintro e2 w2 ⟨v2, rfl, h2, c2⟩; have C2 : Below w.heap.size w1 w2 := (c2.below (by have := C1.out.size; simp at this; omega) (fun b hb => by have := (Qg8 H1.out b hb).1; simp at this; omega)); have H2 := Lib.hid h2; clear h2 c2 hpred; have C2h := Lib.hid C2; clear C2))
  go_ret
  exact ⟨v2, rfl, H2.out, ((show Below w.heap.size w _ by go_grown).trans (C1.out.mono (by simp))).trans C2h.out⟩
end Go.Proofs.YtnhmnfmhnepjmaaGreat
namespace Go.Proofs.YtnhmnfmhnepjmaaGreat
open Go.RowKit
open GoD (rd own)
section
variable {P : Program} {α β γ : Type} [GoE α] [GoE β] [GoE γ]
theorem Qp7 {f : Nat} (hok : Z7 P f) {l : List α} {m : List γ} {r : List β} (h : ∀ w v u, GoD.rd w [v] l → GoD.rd w [u] m → GoE.wide l → GoE.wide m → Calls P f #[v, u] w (RetS w r)) (hw : GoE.wide l → GoE.wide m → GoE.wide r) : ACalls P f [Qo3 l, Qo3 m] (resS r) := by
  refine ⟨hok, fun w F vals hF hall => ?_⟩
  cases hall with
  | cons h1 h2 =>
    cases h2 with
    | cons h3 h4 =>
    cases h4
    refine (h w _ _ (Qo0 h1) (Qo0 h3) (Qb0 h1) (Qb0 h3)).mono ?_
    rintro e w' ⟨v, L, rfl, hb, ho, hL⟩
    have hlt := GoD.own_lt ho
    have hmem : ∀ k b, b ∈ (if k = 0 then L else []) → k = 0 ∧ b ∈ L := fun k b hm => by
      by_cases hk : k = 0
      · rw [if_pos hk] at hm; exact ⟨hk, hm⟩
      · rw [if_neg hk] at hm; simp at hm
    refine ⟨v, fun k => if k = 0 then L else [], rfl, hb, fun k => ?_, fun k b hm => ⟨hL b (hmem k b hm).2, hlt b (hmem k b hm).2⟩, fun k k' b hm hm' => (hmem k b hm).1.trans (hmem k' b hm').1.symm, OwnDeep.of (Qq5 ho (hw (Qb0 h1) (Qb0 h3))) (GoD.own_nd ho)⟩
    by_cases hk : k = 0
    · simp only [if_pos hk]; exact GoD.own_nd ho
    · simp only [if_neg hk]; exact List.nodup_nil
end
theorem wide_less {a bl : List Int} (h : GoE.wide a) : GoE.wide (less a bl) := ⟨Nat.le_trans (Qd2 a bl) h.1, fun x hx => h.2 x (List.mem_filter.1 hx).1⟩
theorem Qd3 (a bl : List Int) : ACalls Tryz.prog 113 [.h a, .h bl] (.o 0 (less a bl)) :=
  Qp7 (by unfold Z7; kernel_rfl) (fun w v u h1 h2 h3 _ => (without_c w v u a bl h1 h2 (Qp h3)).mono fun e w' ⟨v', he, hr, hb⟩ => by
    obtain ⟨L, ho, hL, _⟩ := hr.own
    exact ⟨v', L, he, hb, ho, fun b hb => (hL b hb).1⟩) (fun h _ => wide_less h)
open GoE (enc wide)
def Vk (ids : (List Int)) (added : (List Int)) (removed : (List Int)) : (List Int) := Qne (Qgt (less ids removed ++ added))
theorem Qlg (ids : (List Int)) (added : (List Int)) (removed : (List Int)) (hp : List.length ids + List.length added ≤ 536870912) : ACalls Tryz.prog 157 [.h ids, .h added, .h removed] (.o 0 (Vk ids added removed)) := by
 refine Qn (tt := tt) Qb Tryz.func157 (fn := Tryz.f157) rfl (by unfold Z7; kernel_rfl) (Nat.le_of_ble_eq_true rfl) fun w0 F0 => ?_
 have hll := Qd2 ids removed
 refine Qa ?_
 refine rk Qb [(6, .e 0)] [] [] [] [] (o0) ?_
 refine Qa ?_
 refine wdT 1 0 .sh added (fun hw1 => ?_)
 have hl2 : List.length added ≤ 1073741824 := Qp (hw1)
 refine rk Qb [(7, .one (.slc (.own true 768) 1 ((eL (less ids removed)) ++ (eL added))))] [0, 1, 2] [] [] [(2, .val (.o 0 (less ids removed))), (4, .flat)] (o2 (Qe (Qd3 ids removed)) (o2 (V8 (Wq (Xa (less ids removed)) (Xa added) (by first | omega | (simp; omega) | simp))) (o1 (Qam (Hx added))))) ?_
 refine eqn [(7, .o 768 (less ids removed ++ added))] [7] [] [] (by rw [show ((eL (less ids removed)) ++ (eL added)) = (eL (less ids removed ++ added)) from Qaw (rfl) (rfl)]; first | done | kernel_rfl) ?_
 refine Qa ?_
 refine Qju [768] rfl ?_
 refine rk Qb [(7, .one (.slc (.own false 768) 1 (putR (eL (less ids removed ++ added)) 0 4294967296 (List.flatten (eL (Qgt (less ids removed ++ added)))))))] [7] [] [] [(1, .take false true (eL (Qgt (less ids removed ++ added))))] (o1 (Qm0 (sortI_a (less ids removed ++ added)))) ?_
 refine eqn [(7, .q 768 (Qgt (less ids removed ++ added)))] [7] [] [] (by rw [Qta (fun _ => rfl) (Qph _)]; first | done | kernel_rfl) ?_
 refine Qa ?_
 refine rk Qb [(6, .q 1024 (Qne (Qgt (less ids removed ++ added))))] [6, 7] [] [] [(1, .take false false (eL (Qne (Qgt (less ids removed ++ added)))))] (o1 (Qm0 (compI_a (Qgt (less ids removed ++ added))))) ?_
 refine Qru 6 (k := 1024) (n := 1) (by kernel_rfl) (Hx (Qne (Qgt (less ids removed ++ added)))) ?_
 refine Qi ?_
 exact Zb [] (congrArg (fun z => (.o 0 z : AV)) (show Vk ids added removed = Qne (Qgt (less ids removed ++ added)) from rfl).symm)
def Kh (d : Qun) (_ : Nat) (a0 : Int) (s0 : (List Int)) : Rd ((List Int)) ((List Int)) ((List Int)) := (bif (!(Xo d.2.2 a0)) then (.next (Jv s0 a0)) else (.next s0))
def Vl (_ : Nat) (s0 : (List Int)) : (List Int) := s0
def Ki (_ : Nat) (a1 : Int) (s1 : (List Int)) : Rd ((List Int)) ((List Int)) ((List Int)) := (.next (Jv s1 a1))
def Vm (_ : Nat) (s1 : (List Int)) : (List Int) := s1
def Z5 (ids : (List Int)) (d : Qun) : (List Int) := (Out.on (Xk (Kh d) Vl ids 0 []) (fun y0 => (Out.on (Xk Ki Vm d.2.1 0 y0) (fun y1 => y1))))
theorem Qfc (ids : (List Int)) (d : Qun) (hp : List.length ids + List.length d.2.1 ≤ 536870912) : ACalls Tryz.prog 153 [.h ids, .a [.s d.1, .h d.2.1, .h d.2.2]] (.o 0 (Z5 ids d)) := by
 refine Qn (tt := tt) Qb Tryz.func153 (fn := Tryz.f153) rfl (by unfold Z7; kernel_rfl) (Nat.le_of_ble_eq_true rfl) fun w0 F0 => ?_
 refine Qa ?_
 refine rk Qb [(3, .p 3 0), (4, .e 0)] [1] [(3, [.s d.1, .h d.2.1, .h d.2.2])] [] [] (o0) ?_
 refine Qa ?_
 refine rk Qb [(5, .one (.slc (.own true 512) 1 []))] [] [] [] [] (o0) ?_
 refine Qa ?_
 refine Qa ?_
 refine rk Qb [(6, .i 0)] [] [] [] [] (o0) ?_
 refine wdT 0 0 .sh ids (fun hw1 => ?_)
 have hl2 : List.length ids ≤ 1073741824 := Qp (hw1)
 refine blk (fun (k0 : Nat) (s0 : (List Int)) => [(5, .h s0), (6, .i ((k0 : Nat) : Int))]) [5, 6] (fun k0 s0 => []) [] (fun (y0 : (List Int)) => [(5, .h y0)]) [0, 5, 6] (fun y0 => []) [] (fun (k0 : Nat) (s0 : (List Int)) => (Xk (Kh d) Vl ids 0 []) = Xk (Kh d) Vl (List.drop k0 ids) k0 s0 ∧ List.length s0 ≤ k0) (fun (y0 : (List Int)) => (Xk (Kh d) Vl ids 0 []) = .brk y0 ∧ List.length y0 ≤ List.length ids) ids.length [] (Qm9 [] [512] [] [] (by kernel_rfl)) ⟨rfl, (by simp)⟩ (fun k0 s0 hk0 hI0 => ?_) (fun k0 s0 hk0 hI0 => ?_) (fun y0 hD0 => ?_)
 ·
  have hA0_0 := hI0.2
  obtain ⟨a0, hx0⟩ := X8 (l := ids) (i := k0) hk0
  refine Qa ?_
  refine Qa ?_
  refine rk Qb [(12, .b true)] [] [] [] [(2, .val (.i (ids.length : Int))), (3, .val (.b true))] (o2 (Qf (Xc ids)) (o1 (Qf (Qg (decide_eq_true (p := ((k0 : Nat) : Int) < (ids.length : Int)) (by omega)))))) ?_
  refine ckT ?_
  refine Qh ?_
  refine Qa ?_
  refine Q4 ?_
  refine Qa ?_
  refine rd' Qb Zv [(22, .b (!(Xo d.2.2 a0)))] [12] [] [] [(4, .row [.i a0]), (6, .val (.b (Xo d.2.2 a0)))] (o2 (Ql (Xl (i := ((k0 : Nat) : Int)) (by omega) rfl hx0)) (o1 (Qe (Uu d.2.2 a0)))) ?_
  refine ck (!(Xo d.2.2 a0)) (fun h3 => ?_) (fun h3 => ?_)
  ·
   refine rk Qb [(5, .h (Jv s0 a0))] [5, 22] [] [] [(3, .row [.i a0]), (5, .val (.h (Jv s0 a0)))] (o2 (Ql (Xl (i := ((k0 : Nat) : Int)) (by omega) rfl hx0)) (o1 (Qe (Qfl s0 a0 (by omega))))) ?_
   refine rk Qb [(6, .i ((k0 + 1 : Nat) : Int))] [6] [] [] [(1, .val (.i ((k0 + 1 : Nat) : Int)))] (o1 (Qf (Kw (Qs k0 (by omega))))) ?_
   exact Exists.intro (Jv s0 a0) (And.intro (Qc (by kernel_rfl)) ⟨Qw hx0 (Yf h3 (rfl)) hI0.1, (by first | omega | (have hz := Qn1 s0 a0; omega))⟩)
  ·
   refine Qh ?_
   refine rk Qb [(6, .i ((k0 + 1 : Nat) : Int))] [6, 22] [] [] [(1, .val (.i ((k0 + 1 : Nat) : Int)))] (o1 (Qf (Kw (Qs k0 (by omega))))) ?_
   exact Exists.intro s0 (And.intro (Qc (by kernel_rfl)) ⟨Qw hx0 (Qv h3 (rfl)) hI0.1, (by first | omega | (have hz := Qn1 s0 a0; omega))⟩)
 ·
  have hA0_0 := hI0.2
  refine Qa ?_
  refine Qa ?_
  refine rk Qb [(12, .b false)] [] [] [] [(2, .val (.i (ids.length : Int))), (3, .val (.b false))] (o2 (Qf (Xc ids)) (o1 (Qf (Qg (decide_eq_false (p := ((k0 : Nat) : Int) < (ids.length : Int)) (by omega)))))) ?_
  refine ckF ?_
  refine Xj ?_
  exact Exists.intro s0 (And.intro (Qc (by kernel_rfl)) ⟨X9 hk0 (rfl) hI0.1, by first | omega | (simp only [List.length_set]; omega)⟩)
 ·
  have hD0_0 := hD0.2
  refine Qa ?_
  refine Qa ?_
  refine rk Qb [(7, .i 0)] [] [] [] [] (o0) ?_
  refine wdB 3 1 .sh d.2.1 (fun hw4 => ?_)
  have hl5 : List.length d.2.1 ≤ 1073741824 := Qp (hw4)
  refine blk (fun (k1 : Nat) (s1 : (List Int)) => [(5, .h s1), (7, .i ((k1 : Nat) : Int))]) [5, 7] (fun k1 s1 => []) [] (fun (y1 : (List Int)) => [(5, .h y1)]) [3, 5, 7] (fun y1 => []) [3] (fun (k1 : Nat) (s1 : (List Int)) => (Xk Ki Vm d.2.1 0 y0) = Xk Ki Vm (List.drop k1 d.2.1) k1 s1 ∧ List.length s1 ≤ List.length ids + k1) (fun (y1 : (List Int)) => (Xk Ki Vm d.2.1 0 y0) = .brk y1) d.2.1.length y0 (Qc (by kernel_rfl)) ⟨rfl, (by first | omega | (simp; omega))⟩ (fun k1 s1 hk1 hI1 => ?_) (fun k1 s1 hk1 hI1 => ?_) (fun y1 hD1 => ?_)
  ·
   have hA1_0 := hI1.2
   obtain ⟨a1, hx1⟩ := X8 (l := d.2.1) (i := k1) hk1
   refine Qa ?_
   refine Qa ?_
   refine rk Qb [(33, .b true)] [] [] [] [(3, .val (.i (d.2.1.length : Int))), (4, .val (.b true))] (o2 (Qf (Xc d.2.1)) (o1 (Qf (Qg (decide_eq_true (p := ((k1 : Nat) : Int) < (d.2.1.length : Int)) (by omega)))))) ?_
   refine ckT ?_
   refine Qh ?_
   refine Qa ?_
   refine Q4 ?_
   refine rk Qb [(5, .h (Jv s1 a1))] [5, 33] [] [] [(4, .row [.i a1]), (6, .val (.h (Jv s1 a1)))] (o2 (Ql (Xl (i := ((k1 : Nat) : Int)) (by omega) rfl hx1)) (o1 (Qe (Qfl s1 a1 (by omega))))) ?_
   refine rk Qb [(7, .i ((k1 + 1 : Nat) : Int))] [7] [] [] [(1, .val (.i ((k1 + 1 : Nat) : Int)))] (o1 (Qf (Kw (Qs k1 (by omega))))) ?_
   exact Exists.intro (Jv s1 a1) (And.intro (Qc (by kernel_rfl)) ⟨Qw hx1 (rfl) hI1.1, (by first | omega | (have hz := Qn1 s1 a1; omega))⟩)
  ·
   have hA1_0 := hI1.2
   refine Qa ?_
   refine Qa ?_
   refine rk Qb [(33, .b false)] [] [] [] [(3, .val (.i (d.2.1.length : Int))), (4, .val (.b false))] (o2 (Qf (Xc d.2.1)) (o1 (Qf (Qg (decide_eq_false (p := ((k1 : Nat) : Int) < (d.2.1.length : Int)) (by omega)))))) ?_
   refine ckF ?_
   refine Xj ?_
   exact Exists.intro s1 (And.intro (Qc (by kernel_rfl)) (X9 hk1 (rfl) hI1.1))
  ·
   refine Qa ?_
   refine wdT 5 0 .sh y1 (fun hw6 => ?_)
   have hl7 : List.length y1 ≤ 1073741824 := Qp (hw6)
   refine rk Qb [(4, .o 2880 y1)] [4, 5] [] [] [(2, .flat)] (o2 (V8 (n := (([] : List (List PV)).length + ((eL y1) : List (List PV)).length)) (Wq (rfl) (Xa y1) (by first | omega | (simp; omega) | simp))) (o1 (Qam (Hx y1)))) ?_
   refine Qi ?_
   exact Zb [] (congrArg (fun z => (.o 0 z : AV)) (show Z5 ids d = y1 from Hk hD0.1 (Hk hD1 (rfl))).symm)
end Go.Proofs.YtnhmnfmhnepjmaaGreat
namespace Go.Proofs.YtnhmnfmhnepjmaaGreat
open Go.RowKit
theorem cidS_eq (l : List Int) (x : Int) : Xo l x = l.contains x := by
  rw [← cid_eq, Bool.eq_iff_iff, Qkm]
  simp
theorem Qn3 (d : Qun) : ∀ (l : List Int) (k : Nat) (s : List Int), Xk (Kh d) Vl l k s = .brk (Qim s (less l d.2.2))
  | [], k, s => rfl
  | a :: l, k, s => by
    simp only [Xk, Kh, cidS_eq]
    cases h : d.2.2.contains a with
    | true =>
      have e : less (a :: l) d.2.2 = less l d.2.2 := by
        show List.filter _ (a :: l) = _
        rw [List.filter_cons, h]; rfl
      rw [e]
      exact Qn3 d l (k + 1) s
    | false =>
      have e : less (a :: l) d.2.2 = a :: less l d.2.2 := by
        show List.filter _ (a :: l) = _
        rw [List.filter_cons, h]; rfl
      rw [e, Qku]
      exact Qn3 d l (k + 1) (Qd1 s a)
theorem Qtu : ∀ (l : List Int) (k : Nat) (s : List Int), Xk Ki Vm l k s = .brk (Qim s l)
  | [], k, s => rfl
  | a :: l, k, s => by
    simp only [Xk, Ki, Qku]
    exact Qtu l (k + 1) (Qd1 s a)
theorem Qtv (ids : List Int) (d : Qun) : Z5 ids d = Vk ids d.2.1 d.2.2 := by
  unfold Z5 Vk
  rw [Qn3]
  simp only [Out.on]
  rw [Qtu]
  exact (Qu3 ids d.2.1 d.2.2).symm
theorem Qc2 (ids a r : List Int) : List.length (Vk ids a r) ≤ List.length ids + List.length a := by
  unfold Vk
  have h1 := compI_len (Qgt (less ids r ++ a))
  rw [Qph, List.length_append] at h1
  have h2 := Qd2 ids r
  omega
theorem Qp8 (ids : List Int) (d : Qun) : List.length (Z5 ids d) ≤ List.length ids + List.length d.2.1 := by rw [Qtv]; exact Qc2 ids d.2.1 d.2.2
theorem Qi9 {α : Type} [GoD α] (l m : List α) : GoD.size (l ++ m) = GoD.size l + GoD.size m := by
  simp only [Qc8, List.length_append, List.map_append, List.sum_append]
  omega
theorem Qn4 {α : Type} [GoD α] (a : α) : GoD.size [a] = 1 + GoD.size a := by simp [Qc8]
theorem Qu4 {α : Type} [GoD α] {l : List α} {k : Nat} {x : α} (h : l[k]? = some x) : GoD.size (List.take (k + 1) l) = GoD.size (List.take k l) + (1 + GoD.size x) := by
  rw [List.take_add_one, h, Qi9]
  show _ + GoD.size [x] = _
  rw [Qn4]
theorem Qp9 {α : Type} [GoD α] (l : List α) (k : Nat) : GoD.size (List.take k l) ≤ GoD.size l := by
  conv => rhs; rw [← List.take_append_drop k l, Qi9]
  exact Nat.le_add_right _ _
theorem Qmh (e : Zk) : List.length e.2.1 ≤ GoD.size e := by
  have h : GoD.size e = 0 + (GoD.size e.2.1 + GoD.size e.2.2) := rfl
  rw [Qg7] at h
  omega
theorem Qcv {ids : List Int} {l : List Zk} {k : Nat} {x : Zk} {s : List Int} {n : Nat} (hx : l[k]? = some x) (hs : List.length s ≤ List.length ids + GoD.size (List.take k l)) (hn : n ≤ List.length s + List.length x.2.1) : n ≤ List.length ids + GoD.size (List.take (k + 1) l) := by
  rw [Qu4 hx]
  have := Qmh x
  omega
theorem Qkv {ids : List Int} {l : List Zk} {k : Nat} {x : Zk} {s : List Int} (hx : l[k]? = some x) (hs : List.length s ≤ List.length ids + GoD.size (List.take k l)) (hp : List.length ids + GoD.size l ≤ 536870912) : List.length s + List.length x.2.1 ≤ 536870912 := by
  have h1 := Qcv (n := List.length s + List.length x.2.1) hx hs (Nat.le_refl _)
  have h2 := Qp9 l (k + 1)
  omega
theorem Qch (w : Jl) : GoD.size w = w.2.1.size + (List.length w.2.2.1 + GoD.size w.2.2.2) := by
  have h : GoD.size w = 0 + (w.2.1.size + (GoD.size w.2.2.1 + GoD.size w.2.2.2)) := rfl
  rw [Qg7] at h
  omega
open GoE (enc wide)
def Kb (_ : Nat) (a0 : Zk) (s0 : (List Int)) : Rd ((List Int)) ((List Int)) ((List Int)) := (.next (Vk s0 a0.2.1 a0.2.2))
def K6 (_ : Nat) (s0 : (List Int)) : (List Int) := s0
def J5 (ids : (List Int)) (events : (List Zk)) : (List Int) := (Out.on (Xk Kb K6 events 0 ids) (fun y0 => y0))
theorem Qg9 (ids : (List Int)) (events : (List Zk)) (hp : List.length ids + GoD.size events ≤ 536870912) : ACalls Tryz.prog 114 [.h ids, .h events] (.o 0 (J5 ids events)) := by
 refine Qn (tt := tt) Qb Tryz.func114 (fn := Tryz.f114) rfl (by unfold Z7; kernel_rfl) (Nat.le_of_ble_eq_true rfl) fun w0 F0 => ?_
 refine Qa ?_
 refine rk Qb [(4, .e 0)] [] [] [] [] (o0) ?_
 refine Qa ?_
 refine rk Qb [(5, .o 576 ids)] [0] [] [] [(1, .val (.o 0 ids))] (o1 (Qe (Qde ids))) ?_
 refine Qa ?_
 refine Qa ?_
 refine rk Qb [(10, .h events), (11, .i (events.length : Int)), (12, .i 0)] [1] [] [] [(1, .val (.i (events.length : Int)))] (o1 (Qf (Xc events))) ?_
 refine wdT 10 0 .sh events (fun hw1 => ?_)
 have hl2 : List.length events ≤ 1073741824 := Qp (hw1)
 refine blk (fun (k0 : Nat) (s0 : (List Int)) => [(5, .o 147201 s0), (12, .i ((k0 : Nat) : Int))]) [5, 12] (fun k0 s0 => []) [] (fun (y0 : (List Int)) => [(5, .o 147351 y0)]) [5, 10, 11, 12] (fun y0 => []) [] (fun (k0 : Nat) (s0 : (List Int)) => (Xk Kb K6 events 0 ids) = Xk Kb K6 (List.drop k0 events) k0 s0 ∧ List.length s0 ≤ List.length ids + GoD.size (List.take k0 events)) (fun (y0 : (List Int)) => (Xk Kb K6 events 0 ids) = .brk y0) events.length ids (Zg [(576, 147201)] (by kernel_rfl)) ⟨rfl, (by simp)⟩ (fun k0 s0 hk0 hI0 => ?_) (fun k0 s0 hk0 hI0 => ?_) (fun y0 hD0 => ?_)
 ·
  have hA0_0 := hI0.2
  obtain ⟨a0, hx0⟩ := X8 (l := events) (i := k0) hk0
  refine Qa ?_
  refine rk Qb [(13, .b true)] [] [] [] [(0, .val (.b true))] (o1 (Qf (Qg (decide_eq_true (p := ((k0 : Nat) : Int) < (events.length : Int)) (by omega))))) ?_
  refine Qa ?_
  refine ckT ?_
  refine Qh ?_
  refine Qa ?_
  refine Q4 ?_
  refine Qa ?_
  refine rk Qb [(7, .p 7 0)] [13] [(7, [.i a0.1, .h a0.2.1, .h a0.2.2])] [] [(0, .row [.i a0.1, .h a0.2.1, .h a0.2.2])] (o1 (Ql (Xl (i := ((k0 : Nat) : Int)) (by omega) rfl hx0))) ?_
  refine rk Qb [(5, .o 1344 (Vk s0 a0.2.1 a0.2.2))] [5, 7] [] [7] [(5, .val (.o 0 (Vk s0 a0.2.1 a0.2.2)))] (o1 (Qe (Qlg s0 a0.2.1 a0.2.2 (Qkv hx0 hA0_0 hp)))) ?_
  refine rk Qb [(12, .i ((k0 + 1 : Nat) : Int))] [12] [] [] [(0, .val (.i ((k0 + 1 : Nat) : Int)))] (o1 (Qf (Kw (Qs k0 (by omega))))) ?_
  exact Exists.intro (Vk s0 a0.2.1 a0.2.2) (And.intro (Zg [(1344, 147201)] (by kernel_rfl)) ⟨Qw hx0 (rfl) hI0.1, (by first | exact Qcv hx0 hA0_0 (Qc2 _ _ _) | exact Qcv hx0 hA0_0 (Qp8 _ _))⟩)
 ·
  have hA0_0 := hI0.2
  refine Qa ?_
  refine rk Qb [(13, .b false)] [] [] [] [(0, .val (.b false))] (o1 (Qf (Qg (decide_eq_false (p := ((k0 : Nat) : Int) < (events.length : Int)) (by omega))))) ?_
  refine Qa ?_
  refine ckF ?_
  refine Xj ?_
  exact Exists.intro s0 (And.intro (Zg [(147201, 147351)] (by kernel_rfl)) (X9 hk0 (rfl) hI0.1))
 ·
  refine Qa ?_
  refine rk Qb [(4, .o 147351 y0)] [4, 5] [] [] [] (o0) ?_
  refine Qi ?_
  exact Zb [] (congrArg (fun z => (.o 0 z : AV)) (show J5 ids events = y0 from Hk hD0 (rfl)).symm)
def Qq (w : Jl) : (List Int) := (J5 w.2.2.1 w.2.2.2)
theorem Qha (w : Jl) (hp : GoD.size w ≤ 536870912) : ACalls Tryz.prog 66 [.a [.i w.1, .s w.2.1, .h w.2.2.1, .h w.2.2.2]] (.o 0 (Qq w)) := by
 refine Qn (tt := tt) Qb Tryz.func66 (fn := Tryz.f66) rfl (by unfold Z7; kernel_rfl) (Nat.le_of_ble_eq_true rfl) fun w0 F0 => ?_
 refine Qa ?_
 refine rk Qb [(1, .p 1 0), (2, .e 0)] [0] [(1, [.i w.1, .s w.2.1, .h w.2.2.1, .h w.2.2.2])] [] [] (o0) ?_
 refine Qa ?_
 refine rk Qb [(2, .o 448 (J5 w.2.2.1 w.2.2.2))] [1, 2] [] [1] [(4, .val (.o 0 (J5 w.2.2.1 w.2.2.2)))] (o1 (Qe (Qg9 w.2.2.1 w.2.2.2 (by have hz := Qch w; omega)))) ?_
 refine Qi ?_
 exact Zb [] (congrArg (fun z => (.o 0 z : AV)) (show Qq w = (J5 w.2.2.1 w.2.2.2) from rfl).symm)
def K7 (_ : Nat) (a0 : Zk) (s0 : (List Int)) : Rd ((List Int)) ((List Int)) ((List Int)) := (.next (Z5 s0 (⟨#[]⟩, a0.2.1, a0.2.2)))
def Wp (_ : Nat) (s0 : (List Int)) : (List Int) := s0
def K0 (ids : (List Int)) (list : (List Zk)) : (List Int) := (Out.on (Xk K7 Wp list 0 ids) (fun y0 => y0))
theorem Qhb (ids : (List Int)) (list : (List Zk)) (hp : List.length ids + GoD.size list ≤ 536870912) : ACalls Tryz.prog 109 [.h ids, .h list] (.o 0 (K0 ids list)) := by
 refine Qn (tt := tt) Qb Tryz.func109 (fn := Tryz.f109) rfl (by unfold Z7; kernel_rfl) (Nat.le_of_ble_eq_true rfl) fun w0 F0 => ?_
 refine Qa ?_
 refine rk Qb [(4, .e 0)] [] [] [] [] (o0) ?_
 refine Qa ?_
 refine wdT 0 0 .sh ids (fun hw1 => ?_)
 have hl2 : List.length ids ≤ 1073741824 := Qp (hw1)
 refine rk Qb [(5, .o 576 ids)] [0] [] [] [(2, .flat)] (o2 (V8 (n := (([] : List (List PV)).length + ((eL ids) : List (List PV)).length)) (Wq (rfl) (Xa ids) (by first | omega | (simp; omega) | simp))) (o1 (Qam (Hx ids)))) ?_
 refine Qa ?_
 refine Qa ?_
 refine rk Qb [(6, .i 0)] [] [] [] [] (o0) ?_
 refine wdT 1 0 .sh list (fun hw3 => ?_)
 have hl4 : List.length list ≤ 1073741824 := Qp (hw3)
 refine blk (fun (k0 : Nat) (s0 : (List Int)) => [(5, .o 147202 s0), (6, .i ((k0 : Nat) : Int))]) [5, 6] (fun k0 s0 => []) [] (fun (y0 : (List Int)) => [(5, .o 147352 y0)]) [1, 5, 6] (fun y0 => []) [] (fun (k0 : Nat) (s0 : (List Int)) => (Xk K7 Wp list 0 ids) = Xk K7 Wp (List.drop k0 list) k0 s0 ∧ List.length s0 ≤ List.length ids + GoD.size (List.take k0 list)) (fun (y0 : (List Int)) => (Xk K7 Wp list 0 ids) = .brk y0) list.length ids (Zg [(576, 147202)] (by kernel_rfl)) ⟨rfl, (by simp)⟩ (fun k0 s0 hk0 hI0 => ?_) (fun k0 s0 hk0 hI0 => ?_) (fun y0 hD0 => ?_)
 ·
  have hA0_0 := hI0.2
  obtain ⟨a0, hx0⟩ := X8 (l := list) (i := k0) hk0
  refine Qa ?_
  refine Qa ?_
  refine rk Qb [(13, .b true)] [] [] [] [(2, .val (.i (list.length : Int))), (3, .val (.b true))] (o2 (Qf (Xc list)) (o1 (Qf (Qg (decide_eq_true (p := ((k0 : Nat) : Int) < (list.length : Int)) (by omega)))))) ?_
  refine ckT ?_
  refine Qh ?_
  refine Qa ?_
  refine Q4 ?_
  refine rd' Qb Zv [(5, .o 1792 (Z5 s0 (⟨#[]⟩, a0.2.1, a0.2.2)))] [5, 13] [] [] [(3, .row [.i a0.1, .h a0.2.1, .h a0.2.2]), (8, .row [.i a0.1, .h a0.2.1, .h a0.2.2]), (12, .val (.o 0 (Z5 s0 (⟨#[]⟩, a0.2.1, a0.2.2))))] (o2 (Ql (Xl (i := ((k0 : Nat) : Int)) (by omega) rfl hx0)) (o2 (Ql (Xl (i := ((k0 : Nat) : Int)) (by omega) rfl hx0)) (o1 (Qe (Qfc s0 (⟨#[]⟩, a0.2.1, a0.2.2) (Qkv hx0 hA0_0 hp)))))) ?_
  refine rk Qb [(6, .i ((k0 + 1 : Nat) : Int))] [6] [] [] [(1, .val (.i ((k0 + 1 : Nat) : Int)))] (o1 (Qf (Kw (Qs k0 (by omega))))) ?_
  exact Exists.intro (Z5 s0 (⟨#[]⟩, a0.2.1, a0.2.2)) (And.intro (Zg [(1792, 147202)] (by kernel_rfl)) ⟨Qw hx0 (rfl) hI0.1, (by first | exact Qcv hx0 hA0_0 (Qc2 _ _ _) | exact Qcv hx0 hA0_0 (Qp8 _ _))⟩)
 ·
  have hA0_0 := hI0.2
  refine Qa ?_
  refine Qa ?_
  refine rk Qb [(13, .b false)] [] [] [] [(2, .val (.i (list.length : Int))), (3, .val (.b false))] (o2 (Qf (Xc list)) (o1 (Qf (Qg (decide_eq_false (p := ((k0 : Nat) : Int) < (list.length : Int)) (by omega)))))) ?_
  refine ckF ?_
  refine Xj ?_
  exact Exists.intro s0 (And.intro (Zg [(147202, 147352)] (by kernel_rfl)) (X9 hk0 (rfl) hI0.1))
 ·
  refine Qa ?_
  refine rk Qb [(4, .o 147352 y0)] [4, 5] [] [] [] (o0) ?_
  refine Qi ?_
  exact Zb [] (congrArg (fun z => (.o 0 z : AV)) (show K0 ids list = y0 from Hk hD0 (rfl)).symm)
def Qu (w : Jl) : (List Int) := (K0 w.2.2.1 w.2.2.2)
theorem Qhc (w : Jl) (hp : GoD.size w ≤ 536870912) : ACalls Tryz.prog 61 [.a [.i w.1, .s w.2.1, .h w.2.2.1, .h w.2.2.2]] (.o 0 (Qu w)) := by
 refine Qn (tt := tt) Qb Tryz.func61 (fn := Tryz.f61) rfl (by unfold Z7; kernel_rfl) (Nat.le_of_ble_eq_true rfl) fun w0 F0 => ?_
 refine Qa ?_
 refine rk Qb [(1, .p 1 0), (2, .e 0)] [0] [(1, [.i w.1, .s w.2.1, .h w.2.2.1, .h w.2.2.2])] [] [] (o0) ?_
 refine Qa ?_
 refine rk Qb [(2, .o 448 (K0 w.2.2.1 w.2.2.2))] [1, 2] [] [1] [(4, .val (.o 0 (K0 w.2.2.1 w.2.2.2)))] (o1 (Qe (Qhb w.2.2.1 w.2.2.2 (by have hz := Qch w; omega)))) ?_
 refine Qi ?_
 exact Zb [] (congrArg (fun z => (.o 0 z : AV)) (show Qu w = (K0 w.2.2.1 w.2.2.2) from rfl).symm)
def Y0 (e_ : Zk) : Zk := e_
theorem Qkw (e_ : Zk) : ACalls Tryz.prog 111 [.a [.i e_.1, .h e_.2.1, .h e_.2.2]] (.a [.i ((Y0 e_).1), .o 0 ((Y0 e_).2.1), .o 1 ((Y0 e_).2.2)]) := by
 refine Qn (tt := tt) Qb Tryz.func111 (fn := Tryz.f111) rfl (by unfold Z7; kernel_rfl) (Nat.le_of_ble_eq_true rfl) fun w0 F0 => ?_
 refine Qa ?_
 refine rk Qb [(1, .p 1 0), (2, .p 2 0)] [0] [(1, [.i e_.1, .h e_.2.1, .h e_.2.2]), (2, [.i 0, .e 1, .e 1])] [] [] (o0) ?_
 refine Qa ?_
 refine rd' Qb Zv [] [1] [(2, [.i e_.1, .o 448 e_.2.1, .o 640 e_.2.2])] [1, 2] [(4, .val (.o 0 e_.2.1)), (7, .val (.o 0 e_.2.2))] (o2 (Qe (Qde e_.2.1)) (o1 (Qe (Qde e_.2.2)))) ?_
 refine Qi ?_
 exact Zb [] (congrArg (fun z => (.a [.i z.1, .o 0 z.2.1, .o 1 z.2.2] : AV)) (show Y0 e_ = e_ from rfl).symm)
def Uv (_ : Nat) (a0 : Zk) (s0 : (List Zk)) : Rd (Jl) ((List Zk)) ((List Zk)) := (.next (s0 ++ [(Y0 a0)]))
def Qai (_ : Nat) (s0 : (List Zk)) : (List Zk) := s0
def Qy (w : Jl) : Jl := (Out.on (Xk Uv Qai w.2.2.2 0 []) (fun y0 => (w.1, w.2.1, w.2.2.1, y0)))
theorem Qkx (w : Jl) : ACalls Tryz.prog 64 [.a [.i w.1, .s w.2.1, .h w.2.2.1, .h w.2.2.2]] (.a [.i ((Qy w).1), .s ((Qy w).2.1), .o 0 ((Qy w).2.2.1), .o 1 ((Qy w).2.2.2)]) := by
 refine Qn (tt := tt) Qb Tryz.func64 (fn := Tryz.f64) rfl (by unfold Z7; kernel_rfl) (Nat.le_of_ble_eq_true rfl) fun w0 F0 => ?_
 refine Qa ?_
 refine rk Qb [(1, .p 1 0), (2, .p 2 0)] [0] [(1, [.i w.1, .s w.2.1, .h w.2.2.1, .h w.2.2.2]), (2, [.i 0, .s ⟨#[]⟩, .e 1, .e 3])] [] [] (o0) ?_
 refine Qa ?_
 refine rk Qb [(3, .one (.slc (.own true 384) 3 []))] [] [] [] [] (o0) ?_
 refine Qa ?_
 refine Qa ?_
 refine rk Qb [(8, .h w.2.2.2), (9, .i (w.2.2.2.length : Int)), (10, .i 0)] [] [] [] [(2, .val (.i (w.2.2.2.length : Int)))] (o1 (Qf (Xc w.2.2.2))) ?_
 refine wdT 8 0 .sh w.2.2.2 (fun hw1 => ?_)
 have hl2 : List.length w.2.2.2 ≤ 1073741824 := Qp (hw1)
 refine blk (fun (k0 : Nat) (s0 : (List Zk)) => [(3, .o 147202 s0), (10, .i ((k0 : Nat) : Int))]) [3, 10] (fun k0 s0 => []) [] (fun (y0 : (List Zk)) => [(3, .o 147352 y0)]) [3, 8, 9, 10] (fun y0 => []) [] (fun (k0 : Nat) (s0 : (List Zk)) => (Xk Uv Qai w.2.2.2 0 []) = Xk Uv Qai (List.drop k0 w.2.2.2) k0 s0 ∧ List.length s0 ≤ k0) (fun (y0 : (List Zk)) => (Xk Uv Qai w.2.2.2 0 []) = .brk y0) w.2.2.2.length [] (Zg [(384, 147202)] (by kernel_rfl)) ⟨rfl, (by simp)⟩ (fun k0 s0 hk0 hI0 => ?_) (fun k0 s0 hk0 hI0 => ?_) (fun y0 hD0 => ?_)
 ·
  have hA0_0 := hI0.2
  obtain ⟨a0, hx0⟩ := X8 (l := w.2.2.2) (i := k0) hk0
  refine Qa ?_
  refine rk Qb [(11, .b true)] [] [] [] [(0, .val (.b true))] (o1 (Qf (Qg (decide_eq_true (p := ((k0 : Nat) : Int) < (w.2.2.2.length : Int)) (by omega))))) ?_
  refine Qa ?_
  refine ckT ?_
  refine Qh ?_
  refine Qa ?_
  refine Q4 ?_
  refine Qa ?_
  refine rk Qb [(5, .p 5 0)] [11] [(5, [.i a0.1, .h a0.2.1, .h a0.2.2])] [] [(0, .row [.i a0.1, .h a0.2.1, .h a0.2.2])] (o1 (Ql (Xl (i := ((k0 : Nat) : Int)) (by omega) rfl hx0))) ?_
  refine wdT 3 0 (.own true 147202) s0 (fun hw3 => ?_)
  have hl4 : List.length s0 ≤ 1073741824 := Qp (hw3)
  refine rk Qb [(3, .one (.slc (.own true 1152) 3 ((eL s0) ++ [[.i ((Y0 a0).1), .h ((Y0 a0).2.1), .h ((Y0 a0).2.2)]])))] [3, 5] [] [5] [(2, .val (.a [.i ((Y0 a0).1), .o 0 ((Y0 a0).2.1), .o 1 ((Y0 a0).2.2)]))] (o2 (Qe (Qkw a0)) (o1 (V8 (Wq (Xa s0) (Xa [(Y0 a0)]) (by first | omega | (simp; omega) | simp))))) ?_
  refine eqn [(3, .o 1152 (s0 ++ [(Y0 a0)]))] [3] [] [] (by rw [show ((eL s0) ++ [[.i ((Y0 a0).1), .h ((Y0 a0).2.1), .h ((Y0 a0).2.2)]]) = (eL (s0 ++ [(Y0 a0)])) from Qaw (rfl) (rfl)]; first | done | kernel_rfl) ?_
  refine rk Qb [(10, .i ((k0 + 1 : Nat) : Int))] [10] [] [] [(0, .val (.i ((k0 + 1 : Nat) : Int)))] (o1 (Qf (Kw (Qs k0 (by omega))))) ?_
  exact Exists.intro (s0 ++ [(Y0 a0)]) (And.intro (Zg [(1152, 147202)] (by kernel_rfl)) ⟨Qw hx0 (rfl) hI0.1, by first | omega | (simp; omega) | simp⟩)
 ·
  have hA0_0 := hI0.2
  refine Qa ?_
  refine rk Qb [(11, .b false)] [] [] [] [(0, .val (.b false))] (o1 (Qf (Qg (decide_eq_false (p := ((k0 : Nat) : Int) < (w.2.2.2.length : Int)) (by omega))))) ?_
  refine Qa ?_
  refine ckF ?_
  refine Xj ?_
  exact Exists.intro s0 (And.intro (Zg [(147202, 147352)] (by kernel_rfl)) (X9 hk0 (rfl) hI0.1))
 ·
  refine Qa ?_
  refine rk Qb [] [] [(1, [.i w.1, .s w.2.1, .o 1408 w.2.2.1, .h w.2.2.2])] [1] [(2, .val (.o 0 w.2.2.1))] (o1 (Qe (Qde w.2.2.1))) ?_
  refine Qa ?_
  refine rk Qb [] [3] [(1, [.i w.1, .s w.2.1, .o 1408 w.2.2.1, .o 147352 y0])] [1] [] (o0) ?_
  refine Qa ?_
  refine rk Qb [] [1] [(2, [.i w.1, .s w.2.1, .o 1408 w.2.2.1, .o 147352 y0])] [1, 2] [] (o0) ?_
  refine Qi ?_
  exact Zb [] (congrArg (fun z => (.a [.i z.1, .s z.2.1, .o 0 z.2.2.1, .o 1 z.2.2.2] : AV)) (show Qy w = (w.1, w.2.1, w.2.2.1, y0) from Hk hD0 (rfl)).symm)
def Uw (_ : Nat) (a0 : Zk) (s0 : (List Zk)) : Rd ((List Zk)) ((List Zk)) ((List Zk)) := (.next (s0 ++ [a0]))
def Qaj (_ : Nat) (s0 : (List Zk)) : (List Zk) := s0
def Un (list : (List Zk)) : (List Zk) := (Out.on (Xk Uw Qaj list 0 []) (fun y0 => y0))
theorem Qky (list : (List Zk)) : ACalls Tryz.prog 107 [.h list] (.o 0 (Un list)) := by
 refine Qn (tt := tt) Qb Tryz.func107 (fn := Tryz.f107) rfl (by unfold Z7; kernel_rfl) (Nat.le_of_ble_eq_true rfl) fun w0 F0 => ?_
 refine Qa ?_
 refine rk Qb [(2, .e 0)] [] [] [] [] (o0) ?_
 refine Qa ?_
 refine rk Qb [(3, .one (.slc (.own true 320) 3 []))] [] [] [] [] (o0) ?_
 refine Qa ?_
 refine Qa ?_
 refine rk Qb [(4, .i 0)] [] [] [] [] (o0) ?_
 refine wdT 0 0 .sh list (fun hw1 => ?_)
 have hl2 : List.length list ≤ 1073741824 := Qp (hw1)
 refine blk (fun (k0 : Nat) (s0 : (List Zk)) => [(3, .o 147202 s0), (4, .i ((k0 : Nat) : Int))]) [3, 4] (fun k0 s0 => []) [] (fun (y0 : (List Zk)) => [(3, .o 147352 y0)]) [0, 3, 4] (fun y0 => []) [] (fun (k0 : Nat) (s0 : (List Zk)) => (Xk Uw Qaj list 0 []) = Xk Uw Qaj (List.drop k0 list) k0 s0 ∧ List.length s0 ≤ k0) (fun (y0 : (List Zk)) => (Xk Uw Qaj list 0 []) = .brk y0) list.length [] (Zg [(320, 147202)] (by kernel_rfl)) ⟨rfl, (by simp)⟩ (fun k0 s0 hk0 hI0 => ?_) (fun k0 s0 hk0 hI0 => ?_) (fun y0 hD0 => ?_)
 ·
  have hA0_0 := hI0.2
  obtain ⟨a0, hx0⟩ := X8 (l := list) (i := k0) hk0
  refine Qa ?_
  refine Qa ?_
  refine rk Qb [(9, .b true)] [] [] [] [(2, .val (.i (list.length : Int))), (3, .val (.b true))] (o2 (Qf (Xc list)) (o1 (Qf (Qg (decide_eq_true (p := ((k0 : Nat) : Int) < (list.length : Int)) (by omega)))))) ?_
  refine ckT ?_
  refine Qh ?_
  refine Qa ?_
  refine Q4 ?_
  have hl3 : List.length a0.2.1 ≤ 1073741824 := Qp (wide_fst (Qi0 (Qm4 hx0 (hw1))))
  have hl4 : List.length a0.2.2 ≤ 1073741824 := Qp (Qi0 (Qi0 (Qm4 hx0 (hw1))))
  refine wdT 3 0 (.own true 147202) s0 (fun hw5 => ?_)
  have hl6 : List.length s0 ≤ 1073741824 := Qp (hw5)
  refine rd' Qb Zv [(3, .one (.slc (.own true 2176) 3 ((eL s0) ++ [[.i a0.1, .slc 1 ([] ++ (eL a0.2.1)), .slc 1 ([] ++ (eL a0.2.2))]])))] [3, 9] [] [] [(3, .row [.i a0.1, .h a0.2.1, .h a0.2.2]), (9, .row [.i a0.1, .h a0.2.1, .h a0.2.2]), (12, .flat), (16, .row [.i a0.1, .h a0.2.1, .h a0.2.2]), (19, .flat)] (o2 (Ql (Xl (i := ((k0 : Nat) : Int)) (by omega) rfl hx0)) (o2 (Ql (Xl (i := ((k0 : Nat) : Int)) (by omega) rfl hx0)) (o2 (V8 (n := (([] : List (List PV)).length + ((eL a0.2.1) : List (List PV)).length)) (Wq (rfl) (Xa a0.2.1) (by first | omega | (simp; omega) | simp))) (o2 (Qam (Hx a0.2.1)) (o2 (Ql (Xl (i := ((k0 : Nat) : Int)) (by omega) rfl hx0)) (o2 (V8 (n := (([] : List (List PV)).length + ((eL a0.2.2) : List (List PV)).length)) (Wq (rfl) (Xa a0.2.2) (by first | omega | (simp; omega) | simp))) (o2 (Qam (Hx a0.2.2)) (o1 (V8 (n := (((eL s0) : List (List PV)).length + ([[.i a0.1, .slc 1 ([] ++ (eL a0.2.1)), .slc 1 ([] ++ (eL a0.2.2))]] : List (List PV)).length)) (Wq (Xa s0) (rfl) (by first | omega | (simp; omega) | simp))))))))))) ?_
  refine eqn [(3, .o 2176 (s0 ++ [a0]))] [3] [] [] (by rw [show ((eL s0) ++ [[.i a0.1, .slc 1 ([] ++ (eL a0.2.1)), .slc 1 ([] ++ (eL a0.2.2))]]) = (eL (s0 ++ [a0])) from Qaw (rfl) (rfl)]; first | done | kernel_rfl) ?_
  refine rk Qb [(4, .i ((k0 + 1 : Nat) : Int))] [4] [] [] [(1, .val (.i ((k0 + 1 : Nat) : Int)))] (o1 (Qf (Kw (Qs k0 (by omega))))) ?_
  exact Exists.intro (s0 ++ [a0]) (And.intro (Zg [(2176, 147202)] (by kernel_rfl)) ⟨Qw hx0 (rfl) hI0.1, by first | omega | (simp; omega) | simp⟩)
 ·
  have hA0_0 := hI0.2
  refine Qa ?_
  refine Qa ?_
  refine rk Qb [(9, .b false)] [] [] [] [(2, .val (.i (list.length : Int))), (3, .val (.b false))] (o2 (Qf (Xc list)) (o1 (Qf (Qg (decide_eq_false (p := ((k0 : Nat) : Int) < (list.length : Int)) (by omega)))))) ?_
  refine ckF ?_
  refine Xj ?_
  exact Exists.intro s0 (And.intro (Zg [(147202, 147352)] (by kernel_rfl)) (X9 hk0 (rfl) hI0.1))
 ·
  refine Qa ?_
  refine rk Qb [(2, .o 147352 y0)] [2, 3] [] [] [] (o0) ?_
  refine Qi ?_
  exact Zb [] (congrArg (fun z => (.o 0 z : AV)) (show Un list = y0 from Hk hD0 (rfl)).symm)
def Qd (w : Jl) : Jl := (w.1, w.2.1, w.2.2.1, (Un w.2.2.2))
theorem Qn5 (w : Jl) : ACalls Tryz.prog 59 [.a [.i w.1, .s w.2.1, .h w.2.2.1, .h w.2.2.2]] (.a [.i ((Qd w).1), .s ((Qd w).2.1), .o 0 ((Qd w).2.2.1), .o 1 ((Qd w).2.2.2)]) := by
 refine Qn (tt := tt) Qb Tryz.func59 (fn := Tryz.f59) rfl (by unfold Z7; kernel_rfl) (Nat.le_of_ble_eq_true rfl) fun w0 F0 => ?_
 refine Qa ?_
 refine rk Qb [(1, .p 1 0), (2, .p 2 0)] [0] [(1, [.i w.1, .s w.2.1, .h w.2.2.1, .h w.2.2.2]), (2, [.i 0, .s ⟨#[]⟩, .e 1, .e 3])] [] [] (o0) ?_
 refine Qa ?_
 refine wdB 1 2 .sh w.2.2.1 (fun hw1 => ?_)
 have hl2 : List.length w.2.2.1 ≤ 1073741824 := Qp (hw1)
 refine rd' Qb Zv [] [1] [(2, [.i w.1, .s w.2.1, .o 640 w.2.2.1, .o 832 (Un w.2.2.2)])] [1, 2] [(7, .flat), (10, .val (.o 0 (Un w.2.2.2)))] (o2 (V8 (n := (([] : List (List PV)).length + ((eL w.2.2.1) : List (List PV)).length)) (Wq (rfl) (Xa w.2.2.1) (by first | omega | (simp; omega) | simp))) (o2 (Qam (Hx w.2.2.1)) (o1 (Qe (Qky w.2.2.2))))) ?_
 refine Qi ?_
 exact Zb [] (congrArg (fun z => (.a [.i z.1, .s z.2.1, .o 0 z.2.2.1, .o 1 z.2.2.2] : AV)) (show Qd w = (w.1, w.2.1, w.2.2.1, (Un w.2.2.2)) from rfl).symm)
def Xx (a_ : (List Int)) (b : (List Int)) : (List Int) × (List Int) := ((less b a_), (less a_ b))
theorem Qn6 (a_ : (List Int)) (b : (List Int)) : ACalls Tryz.prog 65 [.h a_, .h b] (.tup [(false, [.o 0 (((Xx a_ b)).1)]), (false, [.o 1 (((Xx a_ b)).2)])]) := by
 refine Qn (tt := tt) Qb Tryz.func65 (fn := Tryz.f65) rfl (by unfold Z7; kernel_rfl) (Nat.le_of_ble_eq_true rfl) fun w0 F0 => ?_
 refine Qa ?_
 refine rk Qb [(4, .e 0), (5, .e 0)] [] [] [] [] (o0) ?_
 refine Qa ?_
 refine rk Qb [(4, .o 512 (less b a_)), (5, .o 704 (less a_ b))] [0, 1, 4, 5] [] [] [(2, .val (.o 0 (less b a_))), (5, .val (.o 0 (less a_ b)))] (o2 (Qe (Qd3 b a_)) (o1 (Qe (Qd3 a_ b)))) ?_
 refine Qi ?_
 exact Zb [] (congrArg (fun z => (.tup [(false, [.o 0 z.1]), (false, [.o 1 z.2])] : AV)) (show Xx a_ b = ((less b a_), (less a_ b)) from rfl).symm)
def Qaa (a_ : (List Int)) (_ : Nat) (a0 : Int) (s0 : (List Int)) : Rd ((List Int) × (List Int)) ((List Int)) ((List Int)) := (bif (!(Xo a_ a0)) then (.next (s0 ++ [a0])) else (.next s0))
def Qab (_ : Nat) (s0 : (List Int)) : (List Int) := s0
def Qac (b : (List Int)) (_ : Nat) (a1 : Int) (s1 : (List Int)) : Rd ((List Int) × (List Int)) ((List Int)) ((List Int)) := (bif (!(Xo b a1)) then (.next (s1 ++ [a1])) else (.next s1))
def Qad (_ : Nat) (s1 : (List Int)) : (List Int) := s1
def Xu (a_ : (List Int)) (b : (List Int)) : (List Int) × (List Int) := (Out.on (Xk (Qaa a_) Qab b 0 []) (fun y0 => (Out.on (Xk (Qac b) Qad a_ 0 []) (fun y1 => (y0, y1)))))
theorem Qn7 (a_ : (List Int)) (b : (List Int)) : ACalls Tryz.prog 60 [.h a_, .h b] (.tup [(false, [.o 0 (((Xu a_ b)).1)]), (false, [.o 1 (((Xu a_ b)).2)])]) := by
 refine Qn (tt := tt) Qb Tryz.func60 (fn := Tryz.f60) rfl (by unfold Z7; kernel_rfl) (Nat.le_of_ble_eq_true rfl) fun w0 F0 => ?_
 refine Qa ?_
 refine rk Qb [(4, .e 0), (5, .e 0)] [] [] [] [] (o0) ?_
 refine Qa ?_
 refine rk Qb [(6, .one (.slc (.own true 640) 1 []))] [] [] [] [] (o0) ?_
 refine Qa ?_
 refine rk Qb [(7, .one (.slc (.own true 704) 1 []))] [] [] [] [] (o0) ?_
 refine Qa ?_
 refine Qa ?_
 refine rk Qb [(8, .i 0)] [] [] [] [] (o0) ?_
 refine wdT 1 0 .sh b (fun hw1 => ?_)
 have hl2 : List.length b ≤ 1073741824 := Qp (hw1)
 refine blk (fun (k0 : Nat) (s0 : (List Int)) => [(6, .o 147204 s0), (8, .i ((k0 : Nat) : Int))]) [6, 8] (fun k0 s0 => []) [] (fun (y0 : (List Int)) => [(6, .o 147354 y0)]) [6, 8] (fun y0 => []) [] (fun (k0 : Nat) (s0 : (List Int)) => (Xk (Qaa a_) Qab b 0 []) = Xk (Qaa a_) Qab (List.drop k0 b) k0 s0 ∧ List.length s0 ≤ k0) (fun (y0 : (List Int)) => (Xk (Qaa a_) Qab b 0 []) = .brk y0) b.length [] (Zg [(640, 147204)] (by kernel_rfl)) ⟨rfl, (by simp)⟩ (fun k0 s0 hk0 hI0 => ?_) (fun k0 s0 hk0 hI0 => ?_) (fun y0 hD0 => ?_)
 ·
  have hA0_0 := hI0.2
  obtain ⟨a0, hx0⟩ := X8 (l := b) (i := k0) hk0
  refine Qa ?_
  refine Qa ?_
  refine rk Qb [(15, .b true)] [] [] [] [(2, .val (.i (b.length : Int))), (3, .val (.b true))] (o2 (Qf (Xc b)) (o1 (Qf (Qg (decide_eq_true (p := ((k0 : Nat) : Int) < (b.length : Int)) (by omega)))))) ?_
  refine ckT ?_
  refine Qh ?_
  refine Qa ?_
  refine Q4 ?_
  refine Qa ?_
  refine rk Qb [(24, .b (!(Xo a_ a0)))] [15] [] [] [(3, .row [.i a0]), (5, .val (.b (Xo a_ a0)))] (o2 (Ql (Xl (i := ((k0 : Nat) : Int)) (by omega) rfl hx0)) (o1 (Qe (Uu a_ a0)))) ?_
  refine ck (!(Xo a_ a0)) (fun h3 => ?_) (fun h3 => ?_)
  ·
   refine wdT 6 0 (.own true 147204) s0 (fun hw4 => ?_)
   have hl5 : List.length s0 ≤ 1073741824 := Qp (hw4)
   refine rk Qb [(6, .one (.slc (.own true 1984) 1 ((eL s0) ++ [[.i a0]])))] [6, 24] [] [] [(3, .row [.i a0])] (o2 (Ql (Xl (i := ((k0 : Nat) : Int)) (by omega) rfl hx0)) (o1 (V8 (Wq (Xa s0) (Xa [a0]) (by first | omega | (simp; omega) | simp))))) ?_
   refine eqn [(6, .o 1984 (s0 ++ [a0]))] [6] [] [] (by rw [show ((eL s0) ++ [[.i a0]]) = (eL (s0 ++ [a0])) from Qaw (rfl) (rfl)]; first | done | kernel_rfl) ?_
   refine rk Qb [(8, .i ((k0 + 1 : Nat) : Int))] [8] [] [] [(1, .val (.i ((k0 + 1 : Nat) : Int)))] (o1 (Qf (Kw (Qs k0 (by omega))))) ?_
   exact Exists.intro (s0 ++ [a0]) (And.intro (Zg [(1984, 147204)] (by kernel_rfl)) ⟨Qw hx0 (Yf h3 (rfl)) hI0.1, by first | omega | (simp; omega) | simp⟩)
  ·
   refine Qh ?_
   refine rk Qb [(8, .i ((k0 + 1 : Nat) : Int))] [8, 24] [] [] [(1, .val (.i ((k0 + 1 : Nat) : Int)))] (o1 (Qf (Kw (Qs k0 (by omega))))) ?_
   exact Exists.intro s0 (And.intro (Qc (by kernel_rfl)) ⟨Qw hx0 (Qv h3 (rfl)) hI0.1, by first | omega | (simp; omega) | simp⟩)
 ·
  have hA0_0 := hI0.2
  refine Qa ?_
  refine Qa ?_
  refine rk Qb [(15, .b false)] [] [] [] [(2, .val (.i (b.length : Int))), (3, .val (.b false))] (o2 (Qf (Xc b)) (o1 (Qf (Qg (decide_eq_false (p := ((k0 : Nat) : Int) < (b.length : Int)) (by omega)))))) ?_
  refine ckF ?_
  refine Xj ?_
  exact Exists.intro s0 (And.intro (Zg [(147204, 147354)] (by kernel_rfl)) (X9 hk0 (rfl) hI0.1))
 ·
  refine Qa ?_
  refine Qa ?_
  refine rk Qb [(9, .i 0)] [] [] [] [] (o0) ?_
  refine wdT 0 0 .sh a_ (fun hw6 => ?_)
  have hl7 : List.length a_ ≤ 1073741824 := Qp (hw6)
  refine blk (fun (k1 : Nat) (s1 : (List Int)) => [(7, .o 147205 s1), (9, .i ((k1 : Nat) : Int))]) [7, 9] (fun k1 s1 => []) [] (fun (y1 : (List Int)) => [(7, .o 147355 y1)]) [0, 1, 7, 9] (fun y1 => []) [] (fun (k1 : Nat) (s1 : (List Int)) => (Xk (Qac b) Qad a_ 0 []) = Xk (Qac b) Qad (List.drop k1 a_) k1 s1 ∧ List.length s1 ≤ k1) (fun (y1 : (List Int)) => (Xk (Qac b) Qad a_ 0 []) = .brk y1) a_.length [] (Zg [(704, 147205)] (by kernel_rfl)) ⟨rfl, (by simp)⟩ (fun k1 s1 hk1 hI1 => ?_) (fun k1 s1 hk1 hI1 => ?_) (fun y1 hD1 => ?_)
  ·
   have hA1_0 := hI1.2
   obtain ⟨a1, hx1⟩ := X8 (l := a_) (i := k1) hk1
   refine Qa ?_
   refine Qa ?_
   refine rk Qb [(35, .b true)] [] [] [] [(2, .val (.i (a_.length : Int))), (3, .val (.b true))] (o2 (Qf (Xc a_)) (o1 (Qf (Qg (decide_eq_true (p := ((k1 : Nat) : Int) < (a_.length : Int)) (by omega)))))) ?_
   refine ckT ?_
   refine Qh ?_
   refine Qa ?_
   refine Q4 ?_
   refine Qa ?_
   refine rk Qb [(44, .b (!(Xo b a1)))] [35] [] [] [(3, .row [.i a1]), (5, .val (.b (Xo b a1)))] (o2 (Ql (Xl (i := ((k1 : Nat) : Int)) (by omega) rfl hx1)) (o1 (Qe (Uu b a1)))) ?_
   refine ck (!(Xo b a1)) (fun h8 => ?_) (fun h8 => ?_)
   ·
    refine wdT 7 0 (.own true 147205) s1 (fun hw9 => ?_)
    have hl10 : List.length s1 ≤ 1073741824 := Qp (hw9)
    refine rk Qb [(7, .one (.slc (.own true 3264) 1 ((eL s1) ++ [[.i a1]])))] [7, 44] [] [] [(3, .row [.i a1])] (o2 (Ql (Xl (i := ((k1 : Nat) : Int)) (by omega) rfl hx1)) (o1 (V8 (Wq (Xa s1) (Xa [a1]) (by first | omega | (simp; omega) | simp))))) ?_
    refine eqn [(7, .o 3264 (s1 ++ [a1]))] [7] [] [] (by rw [show ((eL s1) ++ [[.i a1]]) = (eL (s1 ++ [a1])) from Qaw (rfl) (rfl)]; first | done | kernel_rfl) ?_
    refine rk Qb [(9, .i ((k1 + 1 : Nat) : Int))] [9] [] [] [(1, .val (.i ((k1 + 1 : Nat) : Int)))] (o1 (Qf (Kw (Qs k1 (by omega))))) ?_
    exact Exists.intro (s1 ++ [a1]) (And.intro (Zg [(3264, 147205)] (by kernel_rfl)) ⟨Qw hx1 (Yf h8 (rfl)) hI1.1, by first | omega | (simp; omega) | simp⟩)
   ·
    refine Qh ?_
    refine rk Qb [(9, .i ((k1 + 1 : Nat) : Int))] [9, 44] [] [] [(1, .val (.i ((k1 + 1 : Nat) : Int)))] (o1 (Qf (Kw (Qs k1 (by omega))))) ?_
    exact Exists.intro s1 (And.intro (Qc (by kernel_rfl)) ⟨Qw hx1 (Qv h8 (rfl)) hI1.1, by first | omega | (simp; omega) | simp⟩)
  ·
   have hA1_0 := hI1.2
   refine Qa ?_
   refine Qa ?_
   refine rk Qb [(35, .b false)] [] [] [] [(2, .val (.i (a_.length : Int))), (3, .val (.b false))] (o2 (Qf (Xc a_)) (o1 (Qf (Qg (decide_eq_false (p := ((k1 : Nat) : Int) < (a_.length : Int)) (by omega)))))) ?_
   refine ckF ?_
   refine Xj ?_
   exact Exists.intro s1 (And.intro (Zg [(147205, 147355)] (by kernel_rfl)) (X9 hk1 (rfl) hI1.1))
  ·
   refine Qa ?_
   refine rk Qb [(4, .o 147354 y0), (5, .o 147355 y1)] [4, 5, 6, 7] [] [] [] (o0) ?_
   refine Qi ?_
   exact Zb [] (congrArg (fun z => (.tup [(false, [.o 0 z.1]), (false, [.o 1 z.2])] : AV)) (show Xu a_ b = (y0, y1) from Hk hD0 (Hk hD1 (rfl))).symm)
end Go.Proofs.YtnhmnfmhnepjmaaGreat
namespace Go.Proofs.YtnhmnfmhnepjmaaGreat
open Go.RowKit
theorem replay_eq (ids : List Int) (l : List Zk) : K0 ids l = J5 ids l := by
  unfold K0 J5
  rw [Qce (f := K7) (g := Kb) (e := Wp) (e' := K6) (fun _ _ => rfl) l 0 _ (fun i a t _ => by
    unfold K7 Kb
    rw [Qtv])]
theorem Qu5 (w : Jl) : Qu w = Qq w := replay_eq w.2.2.1 w.2.2.2
theorem Qew (w : Jl) : Qy w = w := by
  unfold Qy
  rw [Qgm (f := Uv) (g := Y0) (fun _ _ _ => rfl)]
  show (w.1, w.2.1, w.2.2.1, [] ++ w.2.2.2.map Y0) = w
  rw [show Y0 = id from rfl, List.map_id]
  rfl
theorem Qe7 (w : Jl) : Qd w = w := by
  unfold Qd Un
  rw [Qgm (f := Uw) (g := id) (fun _ _ _ => rfl)]
  show (w.1, w.2.1, w.2.2.1, [] ++ w.2.2.2.map id) = w
  rw [List.map_id]
  rfl
theorem Qn8 (w : Jl) : List.length ((Qy w)).2.2.2 = List.length w.2.2.2 := by rw [Qew]
theorem Qr7 (w : Jl) : List.length ((Qd w)).2.2.2 = List.length w.2.2.2 := by rw [Qe7]
theorem Qqa (w : Jl) : List.length w.2.2.2 ≤ GoD.size w := by
  have h := Qch w
  have h2 : List.length w.2.2.2 ≤ GoD.size w.2.2.2 := by rw [Qc8]; omega
  omega
open GoE (enc wide)
def Qo (w : Jl) (version : Int) (s_ : X7) (d : (List Zh)) : Jl := (bif decide (IntKind.i64.wrap (((((Xx (Qq w) (Xh s_ d w.1 w.2.1))).1).length : Int) + ((((Xx (Qq w) (Xh s_ d w.1 w.2.1))).2).length : Int)) > (0 : Int)) then ((Qy w).1, (Qy w).2.1, (Qy w).2.2.1, (Qy w).2.2.2 ++ [(version, ((Xx (Qq w) (Xh s_ d w.1 w.2.1))).1, ((Xx (Qq w) (Xh s_ d w.1 w.2.1))).2)]) else (Qy w))
theorem Qin (w : Jl) (version : Int) (s_ : X7) (d : (List Zh)) (hp : GoD.size w ≤ 536870912) : ACalls Tryz.prog 28 [.a [.i w.1, .s w.2.1, .h w.2.2.1, .h w.2.2.2], .i version, .a [.h s_.1, .h s_.2.1, .i s_.2.2], .h d] (.a [.i ((Qo w version s_ d).1), .s ((Qo w version s_ d).2.1), .o 0 ((Qo w version s_ d).2.2.1), .o 1 ((Qo w version s_ d).2.2.2)]) := by
 refine Qn (tt := tt) Qb Tryz.func28 (fn := Tryz.f28) rfl (by unfold Z7; kernel_rfl) (Nat.le_of_ble_eq_true rfl) fun w0 F0 => ?_
 have hcl := Qn8 w
 have hse := Qqa w
 refine Qa ?_
 refine rk Qb [(4, .p 4 0), (6, .p 6 0), (8, .p 8 0)] [0, 2] [(4, [.i w.1, .s w.2.1, .h w.2.2.1, .h w.2.2.2]), (6, [.h s_.1, .h s_.2.1, .i s_.2.2]), (8, [.i 0, .s ⟨#[]⟩, .e 1, .e 3])] [] [] (o0) ?_
 refine Qa ?_
 refine rk Qb [(9, .p 9 0)] [] [(9, [.i ((Qy w).1), .s ((Qy w).2.1), .o 832 ((Qy w).2.2.1), .o 833 ((Qy w).2.2.2)])] [] [(1, .val (.a [.i ((Qy w).1), .s ((Qy w).2.1), .o 0 ((Qy w).2.2.1), .o 1 ((Qy w).2.2.2)]))] (o1 (Qe (Qkx w))) ?_
 refine Qa ?_
 refine rd' Qb Zv [(10, .o 1536 (((Xx (Qq w) (Xh s_ d w.1 w.2.1))).1)), (11, .o 1537 (((Xx (Qq w) (Xh s_ d w.1 w.2.1))).2))] [3, 4, 6] [] [4, 6] [(1, .val (.o 0 (Qq w))), (8, .val (.o 0 (Xh s_ d w.1 w.2.1))), (9, .val (.tup [(false, [.o 0 (((Xx (Qq w) (Xh s_ d w.1 w.2.1))).1)]), (false, [.o 1 (((Xx (Qq w) (Xh s_ d w.1 w.2.1))).2)])]))] (o2 (Qe (Qha w (by first | omega | (rw [Qe7]; omega)))) (o2 (Qe (Qnx s_ d w.1 w.2.1)) (o1 (Qe (Qn6 (Qq w) (Xh s_ d w.1 w.2.1)))))) ?_
 refine Qa ?_
 refine Qa ?_
 refine rk Qb [(32, .b (decide (IntKind.i64.wrap (((((Xx (Qq w) (Xh s_ d w.1 w.2.1))).1).length : Int) + ((((Xx (Qq w) (Xh s_ d w.1 w.2.1))).2).length : Int)) > (0 : Int))))] [] [] [] [(1, .val (.i ((((Xx (Qq w) (Xh s_ d w.1 w.2.1))).1).length : Int))), (3, .val (.i ((((Xx (Qq w) (Xh s_ d w.1 w.2.1))).2).length : Int)))] (o2 (Qf (Xc (((Xx (Qq w) (Xh s_ d w.1 w.2.1))).1))) (o1 (Qf (Xc (((Xx (Qq w) (Xh s_ d w.1 w.2.1))).2))))) ?_
 refine ck (decide (IntKind.i64.wrap (((((Xx (Qq w) (Xh s_ d w.1 w.2.1))).1).length : Int) + ((((Xx (Qq w) (Xh s_ d w.1 w.2.1))).2).length : Int)) > (0 : Int))) (fun h1 => ?_) (fun h1 => ?_)
 ·
  have h1d := of_decide_eq_true h1
  refine wdB 9 3 (.own true 833) ((Qy w).2.2.2) (fun hw2 => ?_)
  have hl3 : List.length ((Qy w).2.2.2) ≤ 1073741824 := Qp (hw2)
  refine rk Qb [] [1, 10, 11, 32] [(9, [.i ((Qy w).1), .s ((Qy w).2.1), .o 832 ((Qy w).2.2.1), .slc (.own true 2560) 3 ((eL ((Qy w).2.2.2)) ++ [[.i version, .h (((Xx (Qq w) (Xh s_ d w.1 w.2.1))).1), .h (((Xx (Qq w) (Xh s_ d w.1 w.2.1))).2)]])])] [9] [] (o1 (V8 (Wq (Xa ((Qy w).2.2.2)) (Xa [(version, ((Xx (Qq w) (Xh s_ d w.1 w.2.1))).1, ((Xx (Qq w) (Xh s_ d w.1 w.2.1))).2)]) (by first | omega | (simp; omega) | simp)))) ?_
  refine eqn [] [] [(9, [.i ((Qy w).1), .s ((Qy w).2.1), .o 832 ((Qy w).2.2.1), .o 2560 ((Qy w).2.2.2 ++ [(version, ((Xx (Qq w) (Xh s_ d w.1 w.2.1))).1, ((Xx (Qq w) (Xh s_ d w.1 w.2.1))).2)])])] [9] (by rw [show ((eL ((Qy w).2.2.2)) ++ [[.i version, .h (((Xx (Qq w) (Xh s_ d w.1 w.2.1))).1), .h (((Xx (Qq w) (Xh s_ d w.1 w.2.1))).2)]]) = (eL ((Qy w).2.2.2 ++ [(version, ((Xx (Qq w) (Xh s_ d w.1 w.2.1))).1, ((Xx (Qq w) (Xh s_ d w.1 w.2.1))).2)])) from Qaw (rfl) (rfl)]; first | done | kernel_rfl) ?_
  refine Qa ?_
  refine rk Qb [] [9] [(8, [.i ((Qy w).1), .s ((Qy w).2.1), .o 832 ((Qy w).2.2.1), .o 2560 ((Qy w).2.2.2 ++ [(version, ((Xx (Qq w) (Xh s_ d w.1 w.2.1))).1, ((Xx (Qq w) (Xh s_ d w.1 w.2.1))).2)])])] [8, 9] [] (o0) ?_
  refine Qi ?_
  exact Zb [] (congrArg (fun z => (.a [.i z.1, .s z.2.1, .o 0 z.2.2.1, .o 1 z.2.2.2] : AV)) (show Qo w version s_ d = ((Qy w).1, (Qy w).2.1, (Qy w).2.2.1, (Qy w).2.2.2 ++ [(version, ((Xx (Qq w) (Xh s_ d w.1 w.2.1))).1, ((Xx (Qq w) (Xh s_ d w.1 w.2.1))).2)]) from Yf h1 (rfl)).symm)
 ·
  refine Qh ?_
  refine Qa ?_
  refine rk Qb [] [1, 9, 10, 11, 32] [(8, [.i ((Qy w).1), .s ((Qy w).2.1), .o 832 ((Qy w).2.2.1), .o 833 ((Qy w).2.2.2)])] [8, 9] [] (o0) ?_
  refine Qi ?_
  exact Zb [] (congrArg (fun z => (.a [.i z.1, .s z.2.1, .o 0 z.2.2.1, .o 1 z.2.2.2] : AV)) (show Qo w version s_ d = (Qy w) from Qv h1 (rfl)).symm)
def Qay (w : Jl) (version : Int) (s_ : X7) (d : (List Zh)) : Jl := (bif (decide (((((Xu (Qu (Qd w)) (Xp s_ d ((Qd w).1) ((Qd w).2.1)))).1).length : Int) > (0 : Int)) || decide (((((Xu (Qu (Qd w)) (Xp s_ d ((Qd w).1) ((Qd w).2.1)))).2).length : Int) > (0 : Int))) then ((Qd w).1, (Qd w).2.1, (Qd w).2.2.1, (Qd w).2.2.2 ++ [(version, ((Xu (Qu (Qd w)) (Xp s_ d ((Qd w).1) ((Qd w).2.1)))).1, ((Xu (Qu (Qd w)) (Xp s_ d ((Qd w).1) ((Qd w).2.1)))).2)]) else (Qd w))
theorem Qqb (w : Jl) (version : Int) (s_ : X7) (d : (List Zh)) (hp : GoD.size w ≤ 536870912) : ACalls Tryz.prog 26 [.a [.i w.1, .s w.2.1, .h w.2.2.1, .h w.2.2.2], .i version, .a [.h s_.1, .h s_.2.1, .i s_.2.2], .h d] (.a [.i ((Qay w version s_ d).1), .s ((Qay w version s_ d).2.1), .o 0 ((Qay w version s_ d).2.2.1), .o 1 ((Qay w version s_ d).2.2.2)]) := by
 refine Qn (tt := tt) Qb Tryz.func26 (fn := Tryz.f26) rfl (by unfold Z7; kernel_rfl) (Nat.le_of_ble_eq_true rfl) fun w0 F0 => ?_
 have hcl := Qr7 w
 have hse := Qqa w
 refine Qa ?_
 refine rk Qb [(4, .p 4 0), (6, .p 6 0), (8, .p 8 0)] [0, 2] [(4, [.i w.1, .s w.2.1, .h w.2.2.1, .h w.2.2.2]), (6, [.h s_.1, .h s_.2.1, .i s_.2.2]), (8, [.i 0, .s ⟨#[]⟩, .e 1, .e 3])] [] [] (o0) ?_
 refine Qa ?_
 refine rk Qb [] [] [(4, [.i ((Qd w).1), .s ((Qd w).2.1), .o 768 ((Qd w).2.2.1), .o 769 ((Qd w).2.2.2)])] [4] [(1, .val (.a [.i ((Qd w).1), .s ((Qd w).2.1), .o 0 ((Qd w).2.2.1), .o 1 ((Qd w).2.2.2)]))] (o1 (Qe (Qn5 w))) ?_
 refine Qa ?_
 refine rd' Qb Zv [(9, .o 1472 (((Xu (Qu (Qd w)) (Xp s_ d ((Qd w).1) ((Qd w).2.1)))).1)), (10, .o 1473 (((Xu (Qu (Qd w)) (Xp s_ d ((Qd w).1) ((Qd w).2.1)))).2))] [3, 6] [] [6] [(1, .val (.o 0 (Qu (Qd w)))), (8, .val (.o 0 (Xp s_ d ((Qd w).1) ((Qd w).2.1)))), (9, .val (.tup [(false, [.o 0 (((Xu (Qu (Qd w)) (Xp s_ d ((Qd w).1) ((Qd w).2.1)))).1)]), (false, [.o 1 (((Xu (Qu (Qd w)) (Xp s_ d ((Qd w).1) ((Qd w).2.1)))).2)])]))] (o2 (Qe (Qhc (Qd w) (by first | omega | (rw [Qe7]; omega)))) (o2 (Qe (Qn0 s_ d ((Qd w).1) ((Qd w).2.1))) (o1 (Qe (Qn7 (Qu (Qd w)) (Xp s_ d ((Qd w).1) ((Qd w).2.1))))))) ?_
 refine Qa ?_
 refine Qa ?_
 refine jn [(33, .b (decide (((((Xu (Qu (Qd w)) (Xp s_ d ((Qd w).1) ((Qd w).2.1)))).1).length : Int) > (0 : Int)) || decide (((((Xu (Qu (Qd w)) (Xp s_ d ((Qd w).1) ((Qd w).2.1)))).2).length : Int) > (0 : Int))))] [] [] [] (decide (((((Xu (Qu (Qd w)) (Xp s_ d ((Qd w).1) ((Qd w).2.1)))).1).length : Int) > (0 : Int))) (fun h1 => ?_) (fun h1 => ?_) ?_
 ·
  refine rk Qb [(33, .b true)] [] [] [] [(1, .val (.i ((((Xu (Qu (Qd w)) (Xp s_ d ((Qd w).1) ((Qd w).2.1)))).1).length : Int))), (2, .val (.b true))] (o2 (Qf (Xc (((Xu (Qu (Qd w)) (Xp s_ d ((Qd w).1) ((Qd w).2.1)))).1))) (o1 (Qf (Qg h1)))) ?_
  exact ⟨rfl, Qc (by rw [h1]; first | done | kernel_rfl)⟩
 ·
  refine rk Qb [(33, .b (decide (((((Xu (Qu (Qd w)) (Xp s_ d ((Qd w).1) ((Qd w).2.1)))).2).length : Int) > (0 : Int))))] [] [] [] [(1, .val (.i ((((Xu (Qu (Qd w)) (Xp s_ d ((Qd w).1) ((Qd w).2.1)))).1).length : Int))), (2, .val (.b false)), (5, .val (.i ((((Xu (Qu (Qd w)) (Xp s_ d ((Qd w).1) ((Qd w).2.1)))).2).length : Int)))] (o2 (Qf (Xc (((Xu (Qu (Qd w)) (Xp s_ d ((Qd w).1) ((Qd w).2.1)))).1))) (o2 (Qf (Qg h1)) (o1 (Qf (Xc (((Xu (Qu (Qd w)) (Xp s_ d ((Qd w).1) ((Qd w).2.1)))).2)))))) ?_
  exact ⟨rfl, Qc (by rw [h1]; first | done | kernel_rfl)⟩
 refine ck (decide (((((Xu (Qu (Qd w)) (Xp s_ d ((Qd w).1) ((Qd w).2.1)))).1).length : Int) > (0 : Int)) || decide (((((Xu (Qu (Qd w)) (Xp s_ d ((Qd w).1) ((Qd w).2.1)))).2).length : Int) > (0 : Int))) (fun h2 => ?_) (fun h2 => ?_)
 ·
  refine wdB 4 3 (.own true 769) ((Qd w).2.2.2) (fun hw3 => ?_)
  have hl4 : List.length ((Qd w).2.2.2) ≤ 1073741824 := Qp (hw3)
  refine rk Qb [] [1, 9, 10, 33] [(4, [.i ((Qd w).1), .s ((Qd w).2.1), .o 768 ((Qd w).2.2.1), .slc (.own true 2624) 3 ((eL ((Qd w).2.2.2)) ++ [[.i version, .h (((Xu (Qu (Qd w)) (Xp s_ d ((Qd w).1) ((Qd w).2.1)))).1), .h (((Xu (Qu (Qd w)) (Xp s_ d ((Qd w).1) ((Qd w).2.1)))).2)]])])] [4] [] (o1 (V8 (Wq (Xa ((Qd w).2.2.2)) (Xa [(version, ((Xu (Qu (Qd w)) (Xp s_ d ((Qd w).1) ((Qd w).2.1)))).1, ((Xu (Qu (Qd w)) (Xp s_ d ((Qd w).1) ((Qd w).2.1)))).2)]) (by first | omega | (simp; omega) | simp)))) ?_
  refine eqn [] [] [(4, [.i ((Qd w).1), .s ((Qd w).2.1), .o 768 ((Qd w).2.2.1), .o 2624 ((Qd w).2.2.2 ++ [(version, ((Xu (Qu (Qd w)) (Xp s_ d ((Qd w).1) ((Qd w).2.1)))).1, ((Xu (Qu (Qd w)) (Xp s_ d ((Qd w).1) ((Qd w).2.1)))).2)])])] [4] (by rw [show ((eL ((Qd w).2.2.2)) ++ [[.i version, .h (((Xu (Qu (Qd w)) (Xp s_ d ((Qd w).1) ((Qd w).2.1)))).1), .h (((Xu (Qu (Qd w)) (Xp s_ d ((Qd w).1) ((Qd w).2.1)))).2)]]) = (eL ((Qd w).2.2.2 ++ [(version, ((Xu (Qu (Qd w)) (Xp s_ d ((Qd w).1) ((Qd w).2.1)))).1, ((Xu (Qu (Qd w)) (Xp s_ d ((Qd w).1) ((Qd w).2.1)))).2)])) from Qaw (rfl) (rfl)]; first | done | kernel_rfl) ?_
  refine Qa ?_
  refine rk Qb [] [4] [(8, [.i ((Qd w).1), .s ((Qd w).2.1), .o 768 ((Qd w).2.2.1), .o 2624 ((Qd w).2.2.2 ++ [(version, ((Xu (Qu (Qd w)) (Xp s_ d ((Qd w).1) ((Qd w).2.1)))).1, ((Xu (Qu (Qd w)) (Xp s_ d ((Qd w).1) ((Qd w).2.1)))).2)])])] [4, 8] [] (o0) ?_
  refine Qi ?_
  exact Zb [] (congrArg (fun z => (.a [.i z.1, .s z.2.1, .o 0 z.2.2.1, .o 1 z.2.2.2] : AV)) (show Qay w version s_ d = ((Qd w).1, (Qd w).2.1, (Qd w).2.2.1, (Qd w).2.2.2 ++ [(version, ((Xu (Qu (Qd w)) (Xp s_ d ((Qd w).1) ((Qd w).2.1)))).1, ((Xu (Qu (Qd w)) (Xp s_ d ((Qd w).1) ((Qd w).2.1)))).2)]) from Yf h2 (rfl)).symm)
 ·
  refine Qh ?_
  refine Qa ?_
  refine rk Qb [] [1, 4, 9, 10, 33] [(8, [.i ((Qd w).1), .s ((Qd w).2.1), .o 768 ((Qd w).2.2.1), .o 769 ((Qd w).2.2.2)])] [4, 8] [] (o0) ?_
  refine Qi ?_
  exact Zb [] (congrArg (fun z => (.a [.i z.1, .s z.2.1, .o 0 z.2.2.1, .o 1 z.2.2.2] : AV)) (show Qay w version s_ d = (Qd w) from Qv h2 (rfl)).symm)
end Go.Proofs.YtnhmnfmhnepjmaaGreat
namespace Go.Proofs.YtnhmnfmhnepjmaaGreat
open Go.RowKit
theorem less_eq {R : Type} {f : Nat → Int → List Int → Rd R (List Int) (List Int)} {e : Nat → List Int → List Int} {b : List Int} (hf : ∀ k a s, f k a s = bif (!(Xo b a)) then .next (s ++ [a]) else .next s) (he : ∀ k s, e k s = s) (l : List Int) : Xk f e l 0 [] = .brk (less l b) := by
  rw [Qds (p := fun x => !b.contains x) (g := fun x => x) (fun k a s => by rw [hf, cidS_eq])]
  rw [he, List.nil_append, List.map_id']
  rfl
theorem Qu6 (a b : List Int) : Xu a b = Xx a b := by
  unfold Xu Xx
  rw [less_eq (f := Qaa a) (e := Qab) (b := a) (fun _ _ _ => rfl) (fun _ _ => rfl), less_eq (f := Qac b) (e := Qad) (b := b) (fun _ _ _ => rfl) (fun _ _ => rfl)]
  rfl
theorem Qkz : ∀ (l : List Zk) (k : Nat) (s : List Int), ∃ t, Xk Kb K6 l k s = .brk t ∧ t.length ≤ s.length + GoD.size l
  | [], k, s => ⟨s, rfl, Nat.le_add_right _ _⟩
  | x :: l, k, s => by
    obtain ⟨t, h1, h2⟩ := Qkz l (k + 1) (Vk s x.2.1 x.2.2)
    refine ⟨t, h1, ?_⟩
    have h3 := Qc2 s x.2.1 x.2.2
    have h4 := Qmh x
    have h5 : GoD.size (x :: l) = GoD.size [x] + GoD.size l := Qi9 [x] l
    rw [Qn4] at h5
    omega
theorem Qk0 (w : Jl) : List.length (Qq w) ≤ GoD.size w := by
  have hw := Qch w
  unfold Qq J5
  obtain ⟨t, h1, h2⟩ := Qkz w.2.2.2 0 w.2.2.1
  rw [h1]
  simp only [Out.on]
  omega
theorem notify_eq (w : Jl) (v : Int) (s : X7) (d : List Zh) (hp : GoD.size w ≤ 536870912) : Qay w v s d = Qo w v s d := by
  unfold Qay Qo
  rw [Qe7, Qew, Qu5, Qu2, Qu6]
  have h1 := Qk0 w
  have h2 := Qg6 s d w.1 w.2.1
  unfold Xx
  have h3 := Qd2 (Xh s d w.1 w.2.1) (Qq w)
  have h4 := Qd2 (Qq w) (Xh s d w.1 w.2.1)
  generalize less (Xh s d w.1 w.2.1) (Qq w) = a at h3 ⊢
  generalize less (Qq w) (Xh s d w.1 w.2.1) = b at h4 ⊢
  have hw : IntKind.i64.wrap ((a.length : Int) + (b.length : Int)) = (a.length : Int) + (b.length : Int) := IntWalk.i64_in _ (by omega)
  simp only [hw]
  have hc : (decide ((a.length : Int) > (0 : Int)) || decide ((b.length : Int) > (0 : Int))) = decide ((a.length : Int) + (b.length : Int) > (0 : Int)) := by
    rw [Bool.eq_iff_iff]; simp only [Bool.or_eq_true, decide_eq_true_eq]; omega
  rw [hc]
theorem Qd4 (w : Jl) (v : Int) (s : X7) (d : List Zh) : GoD.size (Qo w v s d) ≤ 2 * GoD.size w + 13 := by
  unfold Qo
  rw [Qew]
  have h1 := Qk0 w
  have h2 := Qg6 s d w.1 w.2.1
  unfold Xx
  have h3 := Qd2 (Xh s d w.1 w.2.1) (Qq w)
  have h4 := Qd2 (Qq w) (Xh s d w.1 w.2.1)
  generalize less (Xh s d w.1 w.2.1) (Qq w) = a at h3 ⊢
  generalize less (Qq w) (Xh s d w.1 w.2.1) = b at h4 ⊢
  cases decide (IntKind.i64.wrap ((a.length : Int) + (b.length : Int)) > (0 : Int)) with
  | false => simp only [cond_false]; omega
  | true =>
    simp only [cond_true]
    have hw := Qch w
    rw [Qch]
    show w.2.1.size + (List.length w.2.2.1 + GoD.size (w.2.2.2 ++ [((v, a, b) : Zk)])) ≤ _
    rw [Qi9, Qn4]
    have he : GoD.size ((v, a, b) : Zk) = 0 + (GoD.size a + GoD.size b) := rfl
    rw [Qg7, Qg7] at he
    omega
end Go.Proofs.YtnhmnfmhnepjmaaGreat
namespace Go.Proofs.YtnhmnfmhnepjmaaGreat
open Go.RowKit
open GoD (rd own)
theorem Qcw (f : Nat) : Qtz f 0 = [] := by cases f <;> rfl
theorem Qqc : ∀ (f f' k : Nat), k ≤ f → k ≤ f' → Qtz f k = Qtz f' k
  | 0, f', k, h, _ => by
    obtain rfl : k = 0 := by omega
    rw [Qcw, Qcw]
  | f + 1, 0, k, _, h => by
    obtain rfl : k = 0 := by omega
    rw [Qcw, Qcw]
  | f + 1, f' + 1, k, h, h' => by
    unfold Qtz
    by_cases hk : k = 0
    · rw [if_pos hk, if_pos hk]
    · rw [if_neg hk, if_neg hk, Qqc f f' (k / 10) (by omega) (by omega)]
theorem Qtw {k : Nat} (h : 0 < k) : Qtz k k = Qtz (k / 10) (k / 10) ++ [UInt8.ofNat (48 + k % 10)] := by
  obtain ⟨f, rfl⟩ : ∃ f, k = f + 1 := ⟨k - 1, by omega⟩
  rw [Qtz, if_neg (by omega), Qqc f ((f + 1) / 10) _ (by omega) (Nat.le_refl _)]
theorem Qtx : ∀ (n k : Nat), k < 10 ^ n → (Qtz k k).length ≤ n
  | 0, k, h => by
    obtain rfl : k = 0 := by simpa using h
    simp [Qcw]
  | n + 1, k, h => by
    by_cases hk : k = 0
    · subst hk; simp [Qcw]
    · rw [Qtw (by omega)]
      have := Qtx n (k / 10) (by rw [Nat.pow_succ] at h; omega)
      simp
      omega
theorem Qmi {k : Nat} (h : k ≤ 4611686018427387904) : (Qtz k k).length ≤ 20 := Qtx 20 k (by omega)
theorem Qci {k : Nat} (h : k ≤ 4611686018427387904) : (Qio k).size ≤ maxLen := by
  have h1 := Qmi h
  unfold Qio maxLen
  show (List.toArray _).size ≤ _
  rw [List.size_toArray]
  split
  · simp
  · simp; omega
set_option maxRecDepth 100000 in
theorem Qcj (w : World) (K : Int) (k : Nat) (hK : K = k) (h1 : 1 ≤ k) (hk : k ≤ 4611686018427387904) : Calls Tryz.prog 50 #[.int .i64 K] w (Ret w (.string (Qio k))) := by
  subst hK
  have hk0 : ¬ (k : Int) ≤ 0 := by omega
  have HL := Lib.hid (Qmi hk)
  go_enter Tryz.func50, Tryz.ntmps50
  go_wp2
  go_loopw [0, 3] (fun q s wr => ∃ (j : Nat) (out : ByteArray), q = .int .i64 j ∧ s = .string out ∧ j ≤ 4611686018427387904 ∧ Hid (Qtz j j ++ out.data.toList = Qtz k k) ∧ Below w.heap.size w wr) (fun q _ _ => (intOf q).toNat)
  case atStart => exact ⟨k, _, rfl, rfl, hk, by show _ = _; simp, Below.refl _ _⟩
  case round =>
    obtain ⟨j, out, rfl, rfl, hj, HD, hB⟩ := hrel
    have hos : out.size ≤ 20 := by
      have h := HL.out
      rw [← HD.out] at h
      simp at h
      have : out.size = out.data.size := rfl
      omega
    have hBs := hB.size
    by_cases hz : 0 < j
    · have hcv : ∀ w0 : World, Sem.run Tryz.prog (convert 159 9 (.slice (some ⟨w0.heap.size, 0, none⟩) 1 1)) (w0.alloc (.cells #[.int .u8 (48 + (j : Int) % 10)] 5)) = .ok (.string ⟨#[UInt8.ofNat (48 + j % 10)]⟩) (w0.alloc (.cells #[.int .u8 (48 + (j : Int) % 10)] 5)) := by
        intro w0
        refine run_convert_bytes_back (P := Tryz.prog) _ 159 9 5 _ 1 [UInt8.ofNat (48 + j % 10)] Tryz.underlying159 Tryz.underlying5 Tryz.underlying9 ?_
        intro i hi
        obtain rfl : i = 0 := by simp at hi; omega
        simp [Addr.add]
        omega
      have hos2 : 1 + out.size ≤ 30 := by omega
      go_wp2
      go_roundw
      case rel => exact ⟨j / 10, _, by go_num, rfl, by omega, by
        show _ = _
        rw [← HD.out, Qtw hz]
        simp, by go_grown⟩
      case measure => simp [intOf]; omega
    · obtain rfl : j = 0 := by omega
      go_wp2
      go_ret
      refine ⟨?_, hB⟩
      have h := HD.out
      rw [Qcw] at h
      simp only [List.nil_append] at h
      have e : Qio k = ⟨#[109]⟩ ++ out := by
        unfold Qio
        rw [if_neg (by omega), ← h]
        apply ByteArray.ext
        simp
      rw [e]
      rfl
set_option maxRecDepth 100000 in
set_option maxHeartbeats 1000000 in
theorem Qqd (w : World) (v : Value) (l : List Jr) (L : List Nat) (K : Int) (k : Nat) (hK : K = k) (h1 : 1 ≤ k) (hk : (Xe l k).2 ≤ 4611686018427387904) (ho : own L w [v] l) : Calls Tryz.prog 48 #[v, .int .i64 K] w (Qgn L w [v] (Xe l k)) := by
  subst hK
  obtain ⟨oa, cap, rfl⟩ := Zd ho
  have hlm : l.length ≤ 9223372036854775807 := Qbd ho
  have HO := Lib.hid ho; clear ho
  go_enter Tryz.func48, Tryz.ntmps48
  go_wp2
  go_loopw [1, 5] (fun q i wr => ∃ j : Nat, j ≤ l.length ∧ i = .int .i64 j ∧ q = .int .i64 ((Xe (l.take j) k).2 : Nat) ∧ Hid (own L wr [.slice oa l.length cap] ((Xe (l.take j) k).1 ++ l.drop j)) ∧ Hid (Chg L w wr)) (fun _ i _ => l.length - (intOf i).toNat)
  case atStart => exact ⟨0, Nat.zero_le _, rfl, rfl, HO.out, Chg.refl _ _⟩
  case round =>
    obtain ⟨j, hj, rfl, rfl, HW, HC⟩ := hrel
    by_cases hjl : j < l.length
    · have hx := List.getElem?_eq_getElem hjl
      have hsp := Ub l k j _ hx
      have hle := Nat.le_trans (Wy l k j _ hx) hk
      have hdr : l.drop j = l[j] :: l.drop (j + 1) := List.drop_eq_getElem_cons hjl
      have hxl : (Xe (l.take j) k).1.length = j := by rw [V9, List.length_take]; omega
      have hkk : k ≤ (Xe (l.take j) k).2 := Jo _ _
      have how := HW.out
      rw [hdr] at how
      clear hx hdr HW
      generalize (Xe (l.take j) k).2 = kk at *
      generalize (Xe (l.take j) k).1 = xs at *
      generalize l[j] = x at *
      obtain ⟨g, cap', cur, e, Li, hv, hg, hroom, hgLi, hgL, hsub, hoe, hshut⟩ := Qdt how
      simp only [Value.slice.injEq] at hv
      obtain ⟨rfl, hq0, rfl⟩ := hv
      clear hq0
      rw [hxl] at hroom hoe hshut
      clear hxl
      rw [show GoD.n Jr = 2 from rfl] at hroom hoe hshut
      generalize hce : (cur.toList.drop (j * 2)).take 2 = ce at *
      obtain ⟨v0, v1⟩ := x
      obtain ⟨nd1, _, _, _, _, rfl, rfl, ⟨rfl, rfl, h0⟩, ⟨rfl, rfl, h1⟩⟩ := hoe
      have p0 : wr.cell? ⟨g, j * 2, none⟩ = some _ := Kj hg hce 0 _ rfl
      have p1 : wr.cell? ⟨g, j * 2 + 1, none⟩ = some _ := Kj hg hce 1 _ rfl
      have fz := Jp hg
      have hglt := Q5 hg
      clear hce hg how
      have HSH := Lib.hid hshut; clear hshut
      have HSP := Lib.hid hsp; clear hsp
      have hle : kk + 1 + 1 ≤ 4611686018427387904 := hle
      have HSUB := Lib.hid hsub; clear hsub
      have HU0 : Hid (Upd g (j * 2) 2 ([] ++ []) wr wr) := Upd.refl _ _ _ _ _
      have tok1 : True := trivial
      go_wp2_with (first | (go_at_call 50; have tk := tok1; clear tok1; refine (Qcj _ _ (kk) (by omega) (by omega) (by omega)).mono ?_; rintro e w1 ⟨rfl, hb⟩; have hz := hb.size; have c1 := fun o => Z4 hb g o (by go_size); have f1 := fun o => U4 hb g o (by go_size); have HU1 : Hid (Upd g (j * 2) 2 ([] ++ []) wr w1) := Upd.below (by repeat (first | (with_reducible exact HU0.out) | (with_reducible refine Upd.setCell ?_ _ (by omega) _))) hb (by go_size); (repeat (first | rewrite [World.size_alloc] at hz | rewrite [World.size_setCell] at hz | rewrite [World.size_drew] at hz)); have HB1 := Lib.hid hb; clear hb))
      go_roundw
      case measure => simp [intOf]; omega
      case rel =>
        refine ⟨j + 1, by omega, by go_num, ?_, ?_, ?_⟩
        · show Value.int _ _ = _
          rw [HSP.out]
          show Value.int .i64 _ = .int .i64 ((kk + 1 + 1 : Nat) : Int)
          first | go_num | (congr 1 <;> omega)
        · show own _ _ _ _
          rw [HSP.out]
          simp only [List.append_assoc, List.singleton_append]
          refine HSH.out _ [.string (Qio (kk)), .int .i64 ((kk + 1 : Nat) : Int)] _ (by repeat (first | (with_reducible exact HU1.out) | (with_reducible refine Upd.setCell ?_ _ (by omega) _))) (Yx (Qhi _ (Qci (by omega))) (Qa9 _ (Qdc (kk + 1) (by omega))) (fun x hx hy => (List.nodup_append.1 nd1).2.2 x hx x hy rfl)) ?_
          intro q u hq
          match q, hq with
          | 0, hq => obtain rfl := (Option.some.inj hq); simp [go_sem, *]
          | 1, hq => obtain rfl := (Option.some.inj hq); simp [go_sem, *]
          | q + 2, hq => simp at hq
        · exact HC.out.trans (((by repeat (first | (with_reducible exact HU1.out) | (with_reducible refine Upd.setCell ?_ _ (by omega) _))) : Upd g (j * 2) 2 ([] ++ []) wr _).chg.mono (fun b hb => (List.mem_cons.1 hb).elim (fun e => e ▸ hgL) (HSUB.out b)))
    · obtain rfl : j = l.length := by omega
      have how := HW.out; have hch := HC.out
      rw [List.take_length, List.drop_length, List.append_nil] at how
      rw [List.take_length] at *
      have HW2 := Lib.hid how; have HC2 := Lib.hid hch; clear how hch
      go_wp2
      go_ret
      exact ⟨rfl, HW2.out, HC2.out⟩
set_option maxRecDepth 100000 in
set_option maxHeartbeats 1000000 in
theorem Qr8 (w : World) (v : Value) (l : List Qdd) (L : List Nat) (K : Int) (k : Nat) (hK : K = k) (h1 : 1 ≤ k) (hk : (Xe l k).2 ≤ 4611686018427387904) (ho : own L w [v] l) : Calls Tryz.prog 102 #[v, .int .i64 K] w (Qgn L w [v] (Xe l k)) := by
  subst hK
  obtain ⟨oa, cap, rfl⟩ := Zd ho
  have hlm : l.length ≤ 9223372036854775807 := Qbd ho
  have HO := Lib.hid ho; clear ho
  go_enter Tryz.func102, Tryz.ntmps102
  go_wp2
  go_loopw [1, 5] (fun q i wr => ∃ j : Nat, j ≤ l.length ∧ i = .int .i64 j ∧ q = .int .i64 ((Xe (l.take j) k).2 : Nat) ∧ Hid (own L wr [.slice oa l.length cap] ((Xe (l.take j) k).1 ++ l.drop j)) ∧ Hid (Chg L w wr)) (fun _ i _ => l.length - (intOf i).toNat)
  case atStart => exact ⟨0, Nat.zero_le _, rfl, rfl, HO.out, Chg.refl _ _⟩
  case round =>
    obtain ⟨j, hj, rfl, rfl, HW, HC⟩ := hrel
    by_cases hjl : j < l.length
    · have hx := List.getElem?_eq_getElem hjl
      have hsp := Ub l k j _ hx
      have hle := Nat.le_trans (Wy l k j _ hx) hk
      have hdr : l.drop j = l[j] :: l.drop (j + 1) := List.drop_eq_getElem_cons hjl
      have hxl : (Xe (l.take j) k).1.length = j := by rw [V9, List.length_take]; omega
      have hkk : k ≤ (Xe (l.take j) k).2 := Jo _ _
      have how := HW.out
      rw [hdr] at how
      clear hx hdr HW
      generalize (Xe (l.take j) k).2 = kk at *
      generalize (Xe (l.take j) k).1 = xs at *
      generalize l[j] = x at *
      obtain ⟨g, cap', cur, e, Li, hv, hg, hroom, hgLi, hgL, hsub, hoe, hshut⟩ := Qdt how
      simp only [Value.slice.injEq] at hv
      obtain ⟨rfl, hq0, rfl⟩ := hv
      clear hq0
      rw [hxl] at hroom hoe hshut
      clear hxl
      rw [show GoD.n Qdd = 4 from rfl] at hroom hoe hshut
      generalize hce : (cur.toList.drop (j * 4)).take 4 = ce at *
      obtain ⟨v0, ⟨v1, v2, v3⟩⟩ := x
      obtain ⟨nd3, _, _, _, _, rfl, rfl, ⟨rfl, rfl, h0⟩, ⟨nd2, _, _, _, _, rfl, rfl, ⟨rfl, rfl, h1⟩, ⟨nd1, _, _, _, _, rfl, rfl, ⟨rfl, rfl, h2⟩, ⟨rfl, rfl, h3⟩⟩⟩⟩ := hoe
      have p0 : wr.cell? ⟨g, j * 4, none⟩ = some _ := Kj hg hce 0 _ rfl
      have p1 : wr.cell? ⟨g, j * 4 + 1, none⟩ = some _ := Kj hg hce 1 _ rfl
      have p2 : wr.cell? ⟨g, j * 4 + 2, none⟩ = some _ := Kj hg hce 2 _ rfl
      have p3 : wr.cell? ⟨g, j * 4 + 3, none⟩ = some _ := Kj hg hce 3 _ rfl
      have fz := Jp hg
      have hglt := Q5 hg
      clear hce hg how
      have HSH := Lib.hid hshut; clear hshut
      have HSP := Lib.hid hsp; clear hsp
      have hle : kk + 1 + 1 + 1 + 1 ≤ 4611686018427387904 := hle
      have HSUB := Lib.hid hsub; clear hsub
      have HU0 : Hid (Upd g (j * 4) 4 ([] ++ ([] ++ ([] ++ []))) wr wr) := Upd.refl _ _ _ _ _
      have tok1 : True := trivial
      have tok2 : True := trivial
      go_wp2_with (first | (go_at_call 50; have tk := tok1; clear tok1; refine (Qcj _ _ (kk) (by omega) (by omega) (by omega)).mono ?_; rintro e w1 ⟨rfl, hb⟩; have hz := hb.size; have c1 := fun o => Z4 hb g o (by go_size); have f1 := fun o => U4 hb g o (by go_size); have HU1 : Hid (Upd g (j * 4) 4 ([] ++ ([] ++ ([] ++ []))) wr w1) := Upd.below (by repeat (first | (with_reducible exact HU0.out) | (with_reducible refine Upd.setCell ?_ _ (by omega) _))) hb (by go_size); (repeat (first | rewrite [World.size_alloc] at hz | rewrite [World.size_setCell] at hz | rewrite [World.size_drew] at hz)); have HB1 := Lib.hid hb; clear hb) | (go_at_call 50; have tk := tok2; clear tok2; refine (Qcj _ _ (kk + 1 + 1 + 1) (by omega) (by omega) (by omega)).mono ?_; rintro e w2 ⟨rfl, hb⟩; have hz := hb.size; have c2 := fun o => Z4 hb g o (by go_size); have f2 := fun o => U4 hb g o (by go_size); have HU2 : Hid (Upd g (j * 4) 4 ([] ++ ([] ++ ([] ++ []))) wr w2) := Upd.below (by repeat (first | (with_reducible exact HU1.out) | (with_reducible refine Upd.setCell ?_ _ (by omega) _))) hb (by go_size); (repeat (first | rewrite [World.size_alloc] at hz | rewrite [World.size_setCell] at hz | rewrite [World.size_drew] at hz)); have HB2 := Lib.hid hb; clear hb))
      go_roundw
      case measure => simp [intOf]; omega
      case rel =>
        refine ⟨j + 1, by omega, by go_num, ?_, ?_, ?_⟩
        · show Value.int _ _ = _
          rw [HSP.out]
          show Value.int .i64 _ = .int .i64 ((kk + 1 + 1 + 1 + 1 : Nat) : Int)
          first | go_num | (congr 1 <;> omega)
        · show own _ _ _ _
          rw [HSP.out]
          simp only [List.append_assoc, List.singleton_append]
          refine HSH.out _ [.string (Qio (kk)), .int .i64 ((kk + 1 : Nat) : Int), .int .i64 ((kk + 1 + 1 : Nat) : Int), .string (Qio (kk + 1 + 1 + 1))] _ (by repeat (first | (with_reducible exact HU2.out) | (with_reducible refine Upd.setCell ?_ _ (by omega) _))) (Yx (Qhi _ (Qci (by omega))) (Yx (Qa9 _ (Qdc (kk + 1) (by omega))) (Yx (Qa9 _ (Qdc (kk + 1 + 1) (by omega))) (Qhi _ (Qci (by omega))) (fun x hx hy => (List.nodup_append.1 nd1).2.2 x hx x hy rfl)) (fun x hx hy => (List.nodup_append.1 nd2).2.2 x hx x hy rfl)) (fun x hx hy => (List.nodup_append.1 nd3).2.2 x hx x hy rfl)) ?_
          intro q u hq
          match q, hq with
          | 0, hq => obtain rfl := (Option.some.inj hq); simp [go_sem, *]
          | 1, hq => obtain rfl := (Option.some.inj hq); simp [go_sem, *]
          | 2, hq => obtain rfl := (Option.some.inj hq); simp [go_sem, *]
          | 3, hq => obtain rfl := (Option.some.inj hq); simp [go_sem, *]
          | q + 4, hq => simp at hq
        · exact HC.out.trans (((by repeat (first | (with_reducible exact HU2.out) | (with_reducible refine Upd.setCell ?_ _ (by omega) _))) : Upd g (j * 4) 4 ([] ++ ([] ++ ([] ++ []))) wr _).chg.mono (fun b hb => (List.mem_cons.1 hb).elim (fun e => e ▸ hgL) (HSUB.out b)))
    · obtain rfl : j = l.length := by omega
      have how := HW.out; have hch := HC.out
      rw [List.take_length, List.drop_length, List.append_nil] at how
      rw [List.take_length] at *
      have HW2 := Lib.hid how; have HC2 := Lib.hid hch; clear how hch
      go_wp2
      go_ret
      exact ⟨rfl, HW2.out, HC2.out⟩
set_option maxRecDepth 100000 in
set_option maxHeartbeats 1000000 in
theorem Qr9 (w : World) (v : Value) (l : List Yt) (L : List Nat) (K : Int) (k : Nat) (hK : K = k) (h1 : 1 ≤ k) (hk : (Xe l k).2 ≤ 4611686018427387904) (ho : own L w [v] l) : Calls Tryz.prog 49 #[v, .int .i64 K] w (Qgn L w [v] (Xe l k)) := by
  subst hK
  obtain ⟨oa, cap, rfl⟩ := Zd ho
  have hlm : l.length ≤ 9223372036854775807 := Qbd ho
  have HO := Lib.hid ho; clear ho
  go_enter Tryz.func49, Tryz.ntmps49
  go_wp2
  go_loopw [1, 5] (fun q i wr => ∃ j : Nat, j ≤ l.length ∧ i = .int .i64 j ∧ q = .int .i64 ((Xe (l.take j) k).2 : Nat) ∧ Hid (own L wr [.slice oa l.length cap] ((Xe (l.take j) k).1 ++ l.drop j)) ∧ Hid (Chg L w wr)) (fun _ i _ => l.length - (intOf i).toNat)
  case atStart => exact ⟨0, Nat.zero_le _, rfl, rfl, HO.out, Chg.refl _ _⟩
  case round =>
    obtain ⟨j, hj, rfl, rfl, HW, HC⟩ := hrel
    by_cases hjl : j < l.length
    · have hx := List.getElem?_eq_getElem hjl
      have hsp := Ub l k j _ hx
      have hle := Nat.le_trans (Wy l k j _ hx) hk
      have hdr : l.drop j = l[j] :: l.drop (j + 1) := List.drop_eq_getElem_cons hjl
      have hxl : (Xe (l.take j) k).1.length = j := by rw [V9, List.length_take]; omega
      have hkk : k ≤ (Xe (l.take j) k).2 := Jo _ _
      have how := HW.out
      rw [hdr] at how
      clear hx hdr HW
      generalize (Xe (l.take j) k).2 = kk at *
      generalize (Xe (l.take j) k).1 = xs at *
      generalize l[j] = x at *
      obtain ⟨g, cap', cur, e, Li, hv, hg, hroom, hgLi, hgL, hsub, hoe, hshut⟩ := Qdt how
      simp only [Value.slice.injEq] at hv
      obtain ⟨rfl, hq0, rfl⟩ := hv
      clear hq0
      rw [hxl] at hroom hoe hshut
      clear hxl
      rw [show GoD.n Yt = 5 from rfl] at hroom hoe hshut
      generalize hce : (cur.toList.drop (j * 5)).take 5 = ce at *
      obtain ⟨v0, v1, v2, v3, v4⟩ := x
      obtain ⟨nd4, _, _, _, _, rfl, rfl, ⟨rfl, rfl, h0⟩, ⟨nd3, _, _, _, _, rfl, rfl, ⟨rfl, rfl, h1⟩, ⟨nd2, _, _, _, _, rfl, rfl, ⟨rfl, rfl⟩, ⟨nd1, _, _, _, SL4, rfl, rfl, ⟨rfl, rfl, h3⟩, so4⟩⟩⟩⟩ := hoe
      obtain ⟨sv4, rfl⟩ := U6 (show _ = 1 from GoD.rd_len (GoD.own_rd so4))
      obtain ⟨oa4, cp4, rfl⟩ := Zd so4
      have p0 : wr.cell? ⟨g, j * 5, none⟩ = some _ := Kj hg hce 0 _ rfl
      have p1 : wr.cell? ⟨g, j * 5 + 1, none⟩ = some _ := Kj hg hce 1 _ rfl
      have p2 : wr.cell? ⟨g, j * 5 + 2, none⟩ = some _ := Kj hg hce 2 _ rfl
      have p3 : wr.cell? ⟨g, j * 5 + 3, none⟩ = some _ := Kj hg hce 3 _ rfl
      have p4 : wr.cell? ⟨g, j * 5 + 4, none⟩ = some _ := Kj hg hce 4 _ rfl
      have fz := Jp hg
      have hglt := Q5 hg
      clear hce hg how
      have HSH := Lib.hid hshut; clear hshut
      have HSP := Lib.hid hsp; clear hsp
      have hle : (Xe v4 (kk + 1 + 1 + 1 + 1)).2 ≤ 4611686018427387904 := hle
      have hb2 := mod3_eq (kk + 1 + 1) _ (show ((kk : Int) + 1 + 1 : Int) = ((kk + 1 + 1 : Nat) : Int) by omega)
      have hm4 : kk + 1 + 1 + 1 + 1 ≤ (Xe v4 (kk + 1 + 1 + 1 + 1)).2 := Jo _ _
      have HSO4 := Lib.hid so4; clear so4
      have HSUB := Lib.hid hsub; clear hsub
      have HU0 : Hid (Upd g (j * 5) 5 ([] ++ ([] ++ ([] ++ ([] ++ SL4)))) wr wr) := Upd.refl _ _ _ _ _
      have tok1 : True := trivial
      go_wp2_with (first | (go_at_call 102; have tk := tok1; clear tok1; refine Qbt (Qr8 _ _ v4 SL4 _ (kk + 1 + 1 + 1 + 1) (by omega) (by omega) (by omega) (by repeat (first | (with_reducible exact HSO4.out) | (refine Z2 ?_ (fun hm => hgLi (List.mem_append.2 (.inr (List.mem_append.2 (.inr (List.mem_append.2 (.inr (List.mem_append.2 (.inr hm)))))))))) ))) ?_; intro w1 ho1 hch hz; have c1 := fun o => hch.cell (b := g) (by go_size) (fun hm => hgLi (List.mem_append.2 (.inr (List.mem_append.2 (.inr (List.mem_append.2 (.inr (List.mem_append.2 (.inr hm))))))))) o; have f1 := fun o => hch.frozen (b := g) (by go_size) (fun hm => hgLi (List.mem_append.2 (.inr (List.mem_append.2 (.inr (List.mem_append.2 (.inr (List.mem_append.2 (.inr hm))))))))) o; have HU1 : Hid (Upd g (j * 5) 5 ([] ++ ([] ++ ([] ++ ([] ++ SL4)))) wr w1) := Upd.mark (by repeat (first | (with_reducible exact HU0.out) | (with_reducible refine Upd.setCell ?_ _ (by omega) _))) hch (fun b hm => (List.mem_append.2 (.inr (List.mem_append.2 (.inr (List.mem_append.2 (.inr (List.mem_append.2 (.inr hm))))))))) (fun hm => hgLi (List.mem_append.2 (.inr (List.mem_append.2 (.inr (List.mem_append.2 (.inr (List.mem_append.2 (.inr hm))))))))) (by go_size); (repeat (first | rewrite [World.size_alloc] at hz | rewrite [World.size_setCell] at hz | rewrite [World.size_drew] at hz)); have HB1 := Lib.hid hch; clear hch; have HM1 := Lib.hid ho1; clear ho1))
      go_roundw
      case measure => simp [intOf]; omega
      case rel =>
        refine ⟨j + 1, by omega, by go_num, ?_, ?_, ?_⟩
        · show Value.int _ _ = _
          rw [HSP.out]
          show Value.int .i64 _ = .int .i64 (((Xe v4 (kk + 1 + 1 + 1 + 1)).2 : Nat) : Int)
          first | go_num | (congr 1 <;> omega)
        · show own _ _ _ _
          rw [HSP.out]
          simp only [List.append_assoc, List.singleton_append]
          refine HSH.out _ [.int .i64 ((kk : Nat) : Int), .int .i64 ((kk + 1 : Nat) : Int), .bool ((kk + 1 + 1) % 3 == 0), .int .i64 ((kk + 1 + 1 + 1 : Nat) : Int), .slice oa4 v4.length cp4] _ (by repeat (first | (with_reducible exact HU1.out) | (with_reducible refine Upd.setCell ?_ _ (by omega) _))) (Yx (Qa9 _ (Qdc (kk) (by omega))) (Yx (Qa9 _ (Qdc (kk + 1) (by omega))) (Yx (own_b _ _) (Yx (Qa9 _ (Qdc (kk + 1 + 1 + 1) (by omega))) (show own SL4 _ [.slice oa4 v4.length cp4] (Xe v4 (kk + 1 + 1 + 1 + 1)).1 by repeat (first | (with_reducible exact HM1.out) | (refine Z2 ?_ (fun hm => hgLi (List.mem_append.2 (.inr (List.mem_append.2 (.inr (List.mem_append.2 (.inr (List.mem_append.2 (.inr hm)))))))))) )) (fun x hx hy => (List.nodup_append.1 nd1).2.2 x hx x hy rfl)) (fun x hx hy => (List.nodup_append.1 nd2).2.2 x hx x hy rfl)) (fun x hx hy => (List.nodup_append.1 nd3).2.2 x hx x hy rfl)) (fun x hx hy => (List.nodup_append.1 nd4).2.2 x hx x hy rfl)) ?_
          intro q u hq
          match q, hq with
          | 0, hq => obtain rfl := (Option.some.inj hq); simp [go_sem, *]
          | 1, hq => obtain rfl := (Option.some.inj hq); simp [go_sem, *]
          | 2, hq => obtain rfl := (Option.some.inj hq); simp [go_sem, *]
          | 3, hq => obtain rfl := (Option.some.inj hq); simp [go_sem, *]
          | 4, hq => obtain rfl := (Option.some.inj hq); simp [go_sem, *]
          | q + 5, hq => simp at hq
        · exact HC.out.trans (((by repeat (first | (with_reducible exact HU1.out) | (with_reducible refine Upd.setCell ?_ _ (by omega) _))) : Upd g (j * 5) 5 ([] ++ ([] ++ ([] ++ ([] ++ SL4)))) wr _).chg.mono (fun b hb => (List.mem_cons.1 hb).elim (fun e => e ▸ hgL) (HSUB.out b)))
    · obtain rfl : j = l.length := by omega
      have how := HW.out; have hch := HC.out
      rw [List.take_length, List.drop_length, List.append_nil] at how
      rw [List.take_length] at *
      have HW2 := Lib.hid how; have HC2 := Lib.hid hch; clear how hch
      go_wp2
      go_ret
      exact ⟨rfl, HW2.out, HC2.out⟩
set_option maxRecDepth 100000 in
set_option maxHeartbeats 1000000 in
theorem Qsa (w : World) (ca : List Value) (a : X7) (L : List Nat) (K : Int) (k : Nat) (hK : K = k) (h1 : 1 ≤ k) (hk : (GoD.markT a k).2 ≤ 4611686018427387904) (ho : own L w ca a) : Calls Tryz.prog 16 #[.agg ca.toArray, .int .i64 K] w (Qgn L w ca (GoD.markT a k)) := by
  subst hK
  obtain ⟨b1, b2, b3⟩ := a
  have hk : (Xe b2 ((Xe b1 (k)).2)).2 ≤ 4611686018427387904 := hk
  have hlt := GoD.own_lt ho
  obtain ⟨nd0, _, _, SL0, _, rfl, rfl, so0, ⟨nd1, _, _, SL1, _, rfl, rfl, so1, ⟨rfl, rfl, h2⟩⟩⟩ := ho
  obtain ⟨ax0_0, rfl⟩ := U6 (show _ = 1 from GoD.rd_len (GoD.own_rd so0))
  have HSO0 := Lib.hid so0; clear so0
  have hm0 : k ≤ (Xe b1 (k)).2 := Jo _ _
  obtain ⟨ax1_0, rfl⟩ := U6 (show _ = 1 from GoD.rd_len (GoD.own_rd so1))
  have HSO1 := Lib.hid so1; clear so1
  have hm1 : (Xe b1 (k)).2 ≤ (Xe b2 ((Xe b1 (k)).2)).2 := Jo _ _
  show Calls Tryz.prog 16 #[.agg #[ax0_0, ax1_0, .int .i64 b3], .int .i64 (k : Int)] w (Qgn (SL0 ++ (SL1 ++ [])) w [ax0_0, ax1_0, .int .i64 b3] (GoD.markT ((b1, b2, b3) : X7) k))
  have HLT := Lib.hid hlt; clear hlt
  have tok1 : True := trivial
  have tok2 : True := trivial
  go_enter Tryz.func16, Tryz.ntmps16
  go_wp2_with (first | (go_at_call 48; have tk := tok1; clear tok1; refine Qbt (Qqd _ ax0_0 b1 SL0 _ (k) (by omega) (by omega) (show (Xe b1 (k)).2 ≤ 4611686018427387904 by omega) (by repeat (first | (with_reducible exact HSO0.out) | (refine K1 ?_) ))) ?_; intro w1 ho1 hch hz; have c1 := fun o => hch.cell (b := w.heap.size) (by go_size) (fun hm => by have := HLT.out _ (List.mem_append.2 (.inl hm)); omega) o; (repeat (first | rewrite [World.size_alloc] at hz | rewrite [World.size_setCell] at hz | rewrite [World.size_drew] at hz)); have HB1 := Lib.hid hch; clear hch; have HM1 := Lib.hid ho1; clear ho1) | (go_at_call 49; have tk := tok2; clear tok2; refine Qbt (Qr9 _ ax1_0 b2 SL1 _ ((Xe b1 (k)).2) (by omega) (by omega) (show (Xe b2 ((Xe b1 (k)).2)).2 ≤ 4611686018427387904 by omega) (by repeat (first | (with_reducible exact HSO1.out) | (refine K1 ?_) | (refine Qhu ?_ HB1.out (fun b hb1 hb2 => (List.nodup_append.1 nd0).2.2 _ hb2 _ (List.mem_append.2 (.inl hb1)) rfl))))) ?_; intro w2 ho2 hch hz; have c2 := fun o => hch.cell (b := w.heap.size) (by go_size) (fun hm => by have := HLT.out _ (List.mem_append.2 (.inr (List.mem_append.2 (.inl hm)))); omega) o; (repeat (first | rewrite [World.size_alloc] at hz | rewrite [World.size_setCell] at hz | rewrite [World.size_drew] at hz)); have HB2 := Lib.hid hch; clear hch; have HM2 := Lib.hid ho2; clear ho2))
  go_ret
  refine ⟨rfl, ?_, ?_⟩
  · show own (SL0 ++ (SL1 ++ [])) _ [ax0_0, ax1_0, .int .i64 b3] _
    exact (Yx (show own SL0 _ [ax0_0] (Xe b1 (k)).1 by repeat (first | (with_reducible exact HM1.out) | (refine K1 ?_) | (refine Qhu ?_ HB2.out (fun b hb1 hb2 => (List.nodup_append.1 nd0).2.2 _ hb1 _ (List.mem_append.2 (.inl hb2)) rfl)))) (Yx (show own SL1 _ [ax1_0] (Xe b2 ((Xe b1 (k)).2)).1 by repeat (first | (with_reducible exact HM2.out) | (refine K1 ?_) )) (Qa9 _ h2) (fun x hx hy => (List.nodup_append.1 nd1).2.2 x hx x hy rfl)) (fun x hx hy => (List.nodup_append.1 nd0).2.2 x hx x hy rfl))
  · show Chg (SL0 ++ (SL1 ++ [])) w _
    exact ((Chg.of_below (show Below w.heap.size w _ by go_grown)).trans (HB1.out.mono (fun b hm => (List.mem_append.2 (.inl hm))))).trans (HB2.out.mono (fun b hm => (List.mem_append.2 (.inr (List.mem_append.2 (.inl hm))))))
set_option maxRecDepth 100000 in
set_option maxHeartbeats 1000000 in
theorem Qsb (w : World) (v : Value) (l : List Yq) (L : List Nat) (K : Int) (k : Nat) (hK : K = k) (h1 : 1 ≤ k) (hk : (Xe l k).2 ≤ 4611686018427387904) (ho : own L w [v] l) : Calls Tryz.prog 51 #[v, .int .i64 K] w (Qgn L w [v] (Xe l k)) := by
  subst hK
  obtain ⟨oa, cap, rfl⟩ := Zd ho
  have hlm : l.length ≤ 9223372036854775807 := Qbd ho
  have HO := Lib.hid ho; clear ho
  go_enter Tryz.func51, Tryz.ntmps51
  go_wp2
  go_loopw [1, 5] (fun q i wr => ∃ j : Nat, j ≤ l.length ∧ i = .int .i64 j ∧ q = .int .i64 ((Xe (l.take j) k).2 : Nat) ∧ Hid (own L wr [.slice oa l.length cap] ((Xe (l.take j) k).1 ++ l.drop j)) ∧ Hid (Chg L w wr)) (fun _ i _ => l.length - (intOf i).toNat)
  case atStart => exact ⟨0, Nat.zero_le _, rfl, rfl, HO.out, Chg.refl _ _⟩
  case round =>
    obtain ⟨j, hj, rfl, rfl, HW, HC⟩ := hrel
    by_cases hjl : j < l.length
    · have hx := List.getElem?_eq_getElem hjl
      have hsp := Ub l k j _ hx
      have hle := Nat.le_trans (Wy l k j _ hx) hk
      have hdr : l.drop j = l[j] :: l.drop (j + 1) := List.drop_eq_getElem_cons hjl
      have hxl : (Xe (l.take j) k).1.length = j := by rw [V9, List.length_take]; omega
      have hkk : k ≤ (Xe (l.take j) k).2 := Jo _ _
      have how := HW.out
      rw [hdr] at how
      clear hx hdr HW
      generalize (Xe (l.take j) k).2 = kk at *
      generalize (Xe (l.take j) k).1 = xs at *
      generalize l[j] = x at *
      obtain ⟨g, cap', cur, e, Li, hv, hg, hroom, hgLi, hgL, hsub, hoe, hshut⟩ := Qdt how
      simp only [Value.slice.injEq] at hv
      obtain ⟨rfl, hq0, rfl⟩ := hv
      clear hq0
      rw [hxl] at hroom hoe hshut
      clear hxl
      rw [show GoD.n Yq = 7 from rfl] at hroom hoe hshut
      generalize hce : (cur.toList.drop (j * 7)).take 7 = ce at *
      obtain ⟨v0, v1, v2, v3, ⟨v4, v5, v6⟩⟩ := x
      obtain ⟨nd6, _, _, _, _, rfl, rfl, ⟨rfl, rfl, h0⟩, ⟨nd5, _, _, _, _, rfl, rfl, ⟨rfl, rfl, h1⟩, ⟨nd4, _, _, _, _, rfl, rfl, ⟨rfl, rfl, h2⟩, ⟨nd3, _, _, _, _, rfl, rfl, ⟨rfl, rfl, h3⟩, ⟨nd2, _, _, _, _, rfl, rfl, ⟨rfl, rfl, h4⟩, ⟨nd1, _, _, _, _, rfl, rfl, ⟨rfl, rfl, h5⟩, ⟨rfl, rfl, h6⟩⟩⟩⟩⟩⟩⟩ := hoe
      have p0 : wr.cell? ⟨g, j * 7, none⟩ = some _ := Kj hg hce 0 _ rfl
      have p1 : wr.cell? ⟨g, j * 7 + 1, none⟩ = some _ := Kj hg hce 1 _ rfl
      have p2 : wr.cell? ⟨g, j * 7 + 2, none⟩ = some _ := Kj hg hce 2 _ rfl
      have p3 : wr.cell? ⟨g, j * 7 + 3, none⟩ = some _ := Kj hg hce 3 _ rfl
      have p4 : wr.cell? ⟨g, j * 7 + 4, none⟩ = some _ := Kj hg hce 4 _ rfl
      have p5 : wr.cell? ⟨g, j * 7 + 5, none⟩ = some _ := Kj hg hce 5 _ rfl
      have p6 : wr.cell? ⟨g, j * 7 + 6, none⟩ = some _ := Kj hg hce 6 _ rfl
      have fz := Jp hg
      have hglt := Q5 hg
      clear hce hg how
      have HSH := Lib.hid hshut; clear hshut
      have HSP := Lib.hid hsp; clear hsp
      have hle : kk + 1 + 1 + 1 + 1 + 1 + 1 + 1 ≤ 4611686018427387904 := hle
      have HSUB := Lib.hid hsub; clear hsub
      have HU0 : Hid (Upd g (j * 7) 7 ([] ++ ([] ++ ([] ++ ([] ++ ([] ++ ([] ++ [])))))) wr wr) := Upd.refl _ _ _ _ _
      have tok1 : True := trivial
      have tok2 : True := trivial
      go_wp2_with (first | (go_at_call 50; have tk := tok1; clear tok1; refine (Qcj _ _ (kk + 1 + 1 + 1) (by omega) (by omega) (by omega)).mono ?_; rintro e w1 ⟨rfl, hb⟩; have hz := hb.size; have c1 := fun o => Z4 hb g o (by go_size); have f1 := fun o => U4 hb g o (by go_size); have HU1 : Hid (Upd g (j * 7) 7 ([] ++ ([] ++ ([] ++ ([] ++ ([] ++ ([] ++ [])))))) wr w1) := Upd.below (by repeat (first | (with_reducible exact HU0.out) | (with_reducible refine Upd.setCell ?_ _ (by omega) _))) hb (by go_size); (repeat (first | rewrite [World.size_alloc] at hz | rewrite [World.size_setCell] at hz | rewrite [World.size_drew] at hz)); have HB1 := Lib.hid hb; clear hb) | (go_at_call 50; have tk := tok2; clear tok2; refine (Qcj _ _ (kk + 1 + 1 + 1 + 1 + 1 + 1) (by omega) (by omega) (by omega)).mono ?_; rintro e w2 ⟨rfl, hb⟩; have hz := hb.size; have c2 := fun o => Z4 hb g o (by go_size); have f2 := fun o => U4 hb g o (by go_size); have HU2 : Hid (Upd g (j * 7) 7 ([] ++ ([] ++ ([] ++ ([] ++ ([] ++ ([] ++ [])))))) wr w2) := Upd.below (by repeat (first | (with_reducible exact HU1.out) | (with_reducible refine Upd.setCell ?_ _ (by omega) _))) hb (by go_size); (repeat (first | rewrite [World.size_alloc] at hz | rewrite [World.size_setCell] at hz | rewrite [World.size_drew] at hz)); have HB2 := Lib.hid hb; clear hb))
      go_roundw
      case measure => simp [intOf]; omega
      case rel =>
        refine ⟨j + 1, by omega, by go_num, ?_, ?_, ?_⟩
        · show Value.int _ _ = _
          rw [HSP.out]
          show Value.int .i64 _ = .int .i64 ((kk + 1 + 1 + 1 + 1 + 1 + 1 + 1 : Nat) : Int)
          first | go_num | (congr 1 <;> omega)
        · show own _ _ _ _
          rw [HSP.out]
          simp only [List.append_assoc, List.singleton_append]
          refine HSH.out _ [.int .i64 ((kk : Nat) : Int), .int .i64 ((kk + 1 : Nat) : Int), .int .i64 ((kk + 1 + 1 : Nat) : Int), .string (Qio (kk + 1 + 1 + 1)), .int .i64 ((kk + 1 + 1 + 1 + 1 : Nat) : Int), .int .i64 ((kk + 1 + 1 + 1 + 1 + 1 : Nat) : Int), .string (Qio (kk + 1 + 1 + 1 + 1 + 1 + 1))] _ (by repeat (first | (with_reducible exact HU2.out) | (with_reducible refine Upd.setCell ?_ _ (by omega) _))) (Yx (Qa9 _ (Qdc (kk) (by omega))) (Yx (Qa9 _ (Qdc (kk + 1) (by omega))) (Yx (Qa9 _ (Qdc (kk + 1 + 1) (by omega))) (Yx (Qhi _ (Qci (by omega))) (Yx (Qa9 _ (Qdc (kk + 1 + 1 + 1 + 1) (by omega))) (Yx (Qa9 _ (Qdc (kk + 1 + 1 + 1 + 1 + 1) (by omega))) (Qhi _ (Qci (by omega))) (fun x hx hy => (List.nodup_append.1 nd1).2.2 x hx x hy rfl)) (fun x hx hy => (List.nodup_append.1 nd2).2.2 x hx x hy rfl)) (fun x hx hy => (List.nodup_append.1 nd3).2.2 x hx x hy rfl)) (fun x hx hy => (List.nodup_append.1 nd4).2.2 x hx x hy rfl)) (fun x hx hy => (List.nodup_append.1 nd5).2.2 x hx x hy rfl)) (fun x hx hy => (List.nodup_append.1 nd6).2.2 x hx x hy rfl)) ?_
          intro q u hq
          match q, hq with
          | 0, hq => obtain rfl := (Option.some.inj hq); simp [go_sem, *]
          | 1, hq => obtain rfl := (Option.some.inj hq); simp [go_sem, *]
          | 2, hq => obtain rfl := (Option.some.inj hq); simp [go_sem, *]
          | 3, hq => obtain rfl := (Option.some.inj hq); simp [go_sem, *]
          | 4, hq => obtain rfl := (Option.some.inj hq); simp [go_sem, *]
          | 5, hq => obtain rfl := (Option.some.inj hq); simp [go_sem, *]
          | 6, hq => obtain rfl := (Option.some.inj hq); simp [go_sem, *]
          | q + 7, hq => simp at hq
        · exact HC.out.trans (((by repeat (first | (with_reducible exact HU2.out) | (with_reducible refine Upd.setCell ?_ _ (by omega) _))) : Upd g (j * 7) 7 ([] ++ ([] ++ ([] ++ ([] ++ ([] ++ ([] ++ [])))))) wr _).chg.mono (fun b hb => (List.mem_cons.1 hb).elim (fun e => e ▸ hgL) (HSUB.out b)))
    · obtain rfl : j = l.length := by omega
      have how := HW.out; have hch := HC.out
      rw [List.take_length, List.drop_length, List.append_nil] at how
      rw [List.take_length] at *
      have HW2 := Lib.hid how; have HC2 := Lib.hid hch; clear how hch
      go_wp2
      go_ret
      exact ⟨rfl, HW2.out, HC2.out⟩
set_option maxRecDepth 100000 in
set_option maxHeartbeats 1000000 in
theorem Qu7 (w : World) (v : Value) (l : List Zh) (L : List Nat) (K : Int) (k : Nat) (hK : K = k) (h1 : 1 ≤ k) (hk : (Xe l k).2 ≤ 4611686018427387904) (ho : own L w [v] l) : Calls Tryz.prog 17 #[v, .int .i64 K] w (Qgn L w [v] (Xe l k)) := by
  subst hK
  obtain ⟨oa, cap, rfl⟩ := Zd ho
  have hlm : l.length ≤ 9223372036854775807 := Qbd ho
  have HO := Lib.hid ho; clear ho
  go_enter Tryz.func17, Tryz.ntmps17
  go_wp2
  go_loopw [1, 5] (fun q i wr => ∃ j : Nat, j ≤ l.length ∧ i = .int .i64 j ∧ q = .int .i64 ((Xe (l.take j) k).2 : Nat) ∧ Hid (own L wr [.slice oa l.length cap] ((Xe (l.take j) k).1 ++ l.drop j)) ∧ Hid (Chg L w wr)) (fun _ i _ => l.length - (intOf i).toNat)
  case atStart => exact ⟨0, Nat.zero_le _, rfl, rfl, HO.out, Chg.refl _ _⟩
  case round =>
    obtain ⟨j, hj, rfl, rfl, HW, HC⟩ := hrel
    by_cases hjl : j < l.length
    · have hx := List.getElem?_eq_getElem hjl
      have hsp := Ub l k j _ hx
      have hle := Nat.le_trans (Wy l k j _ hx) hk
      have hdr : l.drop j = l[j] :: l.drop (j + 1) := List.drop_eq_getElem_cons hjl
      have hxl : (Xe (l.take j) k).1.length = j := by rw [V9, List.length_take]; omega
      have hkk : k ≤ (Xe (l.take j) k).2 := Jo _ _
      have how := HW.out
      rw [hdr] at how
      clear hx hdr HW
      generalize (Xe (l.take j) k).2 = kk at *
      generalize (Xe (l.take j) k).1 = xs at *
      generalize l[j] = x at *
      obtain ⟨g, cap', cur, e, Li, hv, hg, hroom, hgLi, hgL, hsub, hoe, hshut⟩ := Qdt how
      simp only [Value.slice.injEq] at hv
      obtain ⟨rfl, hq0, rfl⟩ := hv
      clear hq0
      rw [hxl] at hroom hoe hshut
      clear hxl
      rw [show GoD.n Zh = 2 from rfl] at hroom hoe hshut
      generalize hce : (cur.toList.drop (j * 2)).take 2 = ce at *
      obtain ⟨v0, v1⟩ := x
      obtain ⟨nd1, _, _, _, SL1, rfl, rfl, ⟨rfl, rfl, h0⟩, so1⟩ := hoe
      obtain ⟨sv1, rfl⟩ := U6 (show _ = 1 from GoD.rd_len (GoD.own_rd so1))
      obtain ⟨oa1, cp1, rfl⟩ := Zd so1
      have p0 : wr.cell? ⟨g, j * 2, none⟩ = some _ := Kj hg hce 0 _ rfl
      have p1 : wr.cell? ⟨g, j * 2 + 1, none⟩ = some _ := Kj hg hce 1 _ rfl
      have fz := Jp hg
      have hglt := Q5 hg
      clear hce hg how
      have HSH := Lib.hid hshut; clear hshut
      have HSP := Lib.hid hsp; clear hsp
      have hle : (Xe v1 (kk + 1)).2 ≤ 4611686018427387904 := hle
      have hm1 : kk + 1 ≤ (Xe v1 (kk + 1)).2 := Jo _ _
      have HSO1 := Lib.hid so1; clear so1
      have HSUB := Lib.hid hsub; clear hsub
      have HU0 : Hid (Upd g (j * 2) 2 ([] ++ SL1) wr wr) := Upd.refl _ _ _ _ _
      have tok1 : True := trivial
      have tok2 : True := trivial
      go_wp2_with (first | (go_at_call 50; have tk := tok1; clear tok1; refine (Qcj _ _ (kk) (by omega) (by omega) (by omega)).mono ?_; rintro e w1 ⟨rfl, hb⟩; have hz := hb.size; have c1 := fun o => Z4 hb g o (by go_size); have f1 := fun o => U4 hb g o (by go_size); have HU1 : Hid (Upd g (j * 2) 2 ([] ++ SL1) wr w1) := Upd.below (by repeat (first | (with_reducible exact HU0.out) | (with_reducible refine Upd.setCell ?_ _ (by omega) _))) hb (by go_size); (repeat (first | rewrite [World.size_alloc] at hz | rewrite [World.size_setCell] at hz | rewrite [World.size_drew] at hz)); have HB1 := Lib.hid hb; clear hb) | (go_at_call 51; have tk := tok2; clear tok2; refine Qbt (Qsb _ _ v1 SL1 _ (kk + 1) (by omega) (by omega) (by omega) (by repeat (first | (with_reducible exact HSO1.out) | (refine Z2 ?_ (fun hm => hgLi (List.mem_append.2 (.inr hm)))) | (with_reducible refine Qeb ?_ HB1.out)))) ?_; intro w2 ho2 hch hz; have c2 := fun o => hch.cell (b := g) (by go_size) (fun hm => hgLi (List.mem_append.2 (.inr hm))) o; have f2 := fun o => hch.frozen (b := g) (by go_size) (fun hm => hgLi (List.mem_append.2 (.inr hm))) o; have HU2 : Hid (Upd g (j * 2) 2 ([] ++ SL1) wr w2) := Upd.mark (by repeat (first | (with_reducible exact HU1.out) | (with_reducible refine Upd.setCell ?_ _ (by omega) _))) hch (fun b hm => (List.mem_append.2 (.inr hm))) (fun hm => hgLi (List.mem_append.2 (.inr hm))) (by go_size); (repeat (first | rewrite [World.size_alloc] at hz | rewrite [World.size_setCell] at hz | rewrite [World.size_drew] at hz)); have HB2 := Lib.hid hch; clear hch; have HM2 := Lib.hid ho2; clear ho2))
      go_roundw
      case measure => simp [intOf]; omega
      case rel =>
        refine ⟨j + 1, by omega, by go_num, ?_, ?_, ?_⟩
        · show Value.int _ _ = _
          rw [HSP.out]
          show Value.int .i64 _ = .int .i64 (((Xe v1 (kk + 1)).2 : Nat) : Int)
          first | go_num | (congr 1 <;> omega)
        · show own _ _ _ _
          rw [HSP.out]
          simp only [List.append_assoc, List.singleton_append]
          refine HSH.out _ [.string (Qio (kk)), .slice oa1 v1.length cp1] _ (by repeat (first | (with_reducible exact HU2.out) | (with_reducible refine Upd.setCell ?_ _ (by omega) _))) (Yx (Qhi _ (Qci (by omega))) (show own SL1 _ [.slice oa1 v1.length cp1] (Xe v1 (kk + 1)).1 by repeat (first | (with_reducible exact HM2.out) | (refine Z2 ?_ (fun hm => hgLi (List.mem_append.2 (.inr hm)))) )) (fun x hx hy => (List.nodup_append.1 nd1).2.2 x hx x hy rfl)) ?_
          intro q u hq
          match q, hq with
          | 0, hq => obtain rfl := (Option.some.inj hq); simp [go_sem, *]
          | 1, hq => obtain rfl := (Option.some.inj hq); simp [go_sem, *]
          | q + 2, hq => simp at hq
        · exact HC.out.trans (((by repeat (first | (with_reducible exact HU2.out) | (with_reducible refine Upd.setCell ?_ _ (by omega) _))) : Upd g (j * 2) 2 ([] ++ SL1) wr _).chg.mono (fun b hb => (List.mem_cons.1 hb).elim (fun e => e ▸ hgL) (HSUB.out b)))
    · obtain rfl : j = l.length := by omega
      have how := HW.out; have hch := HC.out
      rw [List.take_length, List.drop_length, List.append_nil] at how
      rw [List.take_length] at *
      have HW2 := Lib.hid how; have HC2 := Lib.hid hch; clear how hch
      go_wp2
      go_ret
      exact ⟨rfl, HW2.out, HC2.out⟩
set_option maxRecDepth 100000 in
set_option maxHeartbeats 1000000 in
theorem Qh7 (w : World) (v : Value) (l : List Int) (L : List Nat) (K : Int) (k : Nat) (hK : K = k) (h1 : 1 ≤ k) (hk : (Xe l k).2 ≤ 4611686018427387904) (ho : own L w [v] l) : Calls Tryz.prog 18 #[v, .int .i64 K] w (Qgn L w [v] (Xe l k)) := by
  subst hK
  obtain ⟨oa, cap, rfl⟩ := Zd ho
  have hlm : l.length ≤ 9223372036854775807 := Qbd ho
  have HO := Lib.hid ho; clear ho
  go_enter Tryz.func18, Tryz.ntmps18
  go_wp2
  go_loopw [1, 5] (fun q i wr => ∃ j : Nat, j ≤ l.length ∧ i = .int .i64 j ∧ q = .int .i64 ((Xe (l.take j) k).2 : Nat) ∧ Hid (own L wr [.slice oa l.length cap] ((Xe (l.take j) k).1 ++ l.drop j)) ∧ Hid (Chg L w wr)) (fun _ i _ => l.length - (intOf i).toNat)
  case atStart => exact ⟨0, Nat.zero_le _, rfl, rfl, HO.out, Chg.refl _ _⟩
  case round =>
    obtain ⟨j, hj, rfl, rfl, HW, HC⟩ := hrel
    by_cases hjl : j < l.length
    · have hx := List.getElem?_eq_getElem hjl
      have hsp := Ub l k j _ hx
      have hle := Nat.le_trans (Wy l k j _ hx) hk
      have hdr : l.drop j = l[j] :: l.drop (j + 1) := List.drop_eq_getElem_cons hjl
      have hxl : (Xe (l.take j) k).1.length = j := by rw [V9, List.length_take]; omega
      have hkk : k ≤ (Xe (l.take j) k).2 := Jo _ _
      have how := HW.out
      rw [hdr] at how
      clear hx hdr HW
      generalize (Xe (l.take j) k).2 = kk at *
      generalize (Xe (l.take j) k).1 = xs at *
      generalize l[j] = x at *
      obtain ⟨g, cap', cur, e, Li, hv, hg, hroom, hgLi, hgL, hsub, hoe, hshut⟩ := Qdt how
      simp only [Value.slice.injEq] at hv
      obtain ⟨rfl, hq0, rfl⟩ := hv
      clear hq0
      rw [hxl] at hroom hoe hshut
      clear hxl
      rw [show GoD.n Int = 1 from rfl] at hroom hoe hshut
      rw [Nat.mul_one] at hoe hshut
      generalize hce : (cur.toList.drop j).take 1 = ce at *
      obtain ⟨rfl, rfl, hh⟩ := hoe
      have p0 : wr.cell? ⟨g, j, none⟩ = some _ := Kj hg hce 0 _ rfl
      have fz := Jp hg
      have hglt := Q5 hg
      clear hce hg how
      have HSH := Lib.hid hshut; clear hshut
      have HSP := Lib.hid hsp; clear hsp
      have hle : kk + 1 ≤ 4611686018427387904 := hle
      have HU0 : Hid (Upd g j 1 [] wr wr) := Upd.refl _ _ _ _ _
      go_wp2
      go_roundw
      case measure => simp [intOf]; omega
      case rel =>
        refine ⟨j + 1, by omega, by go_num, ?_, ?_, ?_⟩
        · show Value.int _ _ = _
          rw [HSP.out]
          show Value.int .i64 _ = .int .i64 ((kk + 1 : Nat) : Int)
          first | go_num | (congr 1 <;> omega)
        · show own _ _ _ _
          rw [HSP.out]
          simp only [List.append_assoc, List.singleton_append]
          refine HSH.out _ [.int .i64 ((kk : Nat) : Int)] _ (by repeat (first | (with_reducible exact HU0.out) | (with_reducible refine Upd.setCell ?_ _ (by omega) _))) (Qa9 _ (Qdc (kk) (by omega))) ?_
          intro q u hq
          match q, hq with
          | 0, hq => obtain rfl := (Option.some.inj hq); simp [go_sem, *]
          | q + 1, hq => simp at hq
        · exact HC.out.trans (((by repeat (first | (with_reducible exact HU0.out) | (with_reducible refine Upd.setCell ?_ _ (by omega) _))) : Upd g j 1 [] wr _).chg.mono (fun b hb => (List.mem_cons.1 hb).elim (fun e => e ▸ hgL) (hsub b)))
    · obtain rfl : j = l.length := by omega
      have how := HW.out; have hch := HC.out
      rw [List.take_length, List.drop_length, List.append_nil] at how
      rw [List.take_length] at *
      have HW2 := Lib.hid how; have HC2 := Lib.hid hch; clear how hch
      go_wp2
      go_ret
      exact ⟨rfl, HW2.out, HC2.out⟩
set_option maxRecDepth 100000 in
set_option maxHeartbeats 1000000 in
theorem Qqe (w : World) (v : Value) (l : List Zk) (L : List Nat) (K : Int) (k : Nat) (hK : K = k) (h1 : 1 ≤ k) (hk : (Xe l k).2 ≤ 4611686018427387904) (ho : own L w [v] l) : Calls Tryz.prog 55 #[v, .int .i64 K] w (Qgn L w [v] (Xe l k)) := by
  subst hK
  obtain ⟨oa, cap, rfl⟩ := Zd ho
  have hlm : l.length ≤ 9223372036854775807 := Qbd ho
  have HO := Lib.hid ho; clear ho
  go_enter Tryz.func55, Tryz.ntmps55
  go_wp2
  go_loopw [1, 5] (fun q i wr => ∃ j : Nat, j ≤ l.length ∧ i = .int .i64 j ∧ q = .int .i64 ((Xe (l.take j) k).2 : Nat) ∧ Hid (own L wr [.slice oa l.length cap] ((Xe (l.take j) k).1 ++ l.drop j)) ∧ Hid (Chg L w wr)) (fun _ i _ => l.length - (intOf i).toNat)
  case atStart => exact ⟨0, Nat.zero_le _, rfl, rfl, HO.out, Chg.refl _ _⟩
  case round =>
    obtain ⟨j, hj, rfl, rfl, HW, HC⟩ := hrel
    by_cases hjl : j < l.length
    · have hx := List.getElem?_eq_getElem hjl
      have hsp := Ub l k j _ hx
      have hle := Nat.le_trans (Wy l k j _ hx) hk
      have hdr : l.drop j = l[j] :: l.drop (j + 1) := List.drop_eq_getElem_cons hjl
      have hxl : (Xe (l.take j) k).1.length = j := by rw [V9, List.length_take]; omega
      have hkk : k ≤ (Xe (l.take j) k).2 := Jo _ _
      have how := HW.out
      rw [hdr] at how
      clear hx hdr HW
      generalize (Xe (l.take j) k).2 = kk at *
      generalize (Xe (l.take j) k).1 = xs at *
      generalize l[j] = x at *
      obtain ⟨g, cap', cur, e, Li, hv, hg, hroom, hgLi, hgL, hsub, hoe, hshut⟩ := Qdt how
      simp only [Value.slice.injEq] at hv
      obtain ⟨rfl, hq0, rfl⟩ := hv
      clear hq0
      rw [hxl] at hroom hoe hshut
      clear hxl
      rw [show GoD.n Zk = 3 from rfl] at hroom hoe hshut
      generalize hce : (cur.toList.drop (j * 3)).take 3 = ce at *
      obtain ⟨v0, v1, v2⟩ := x
      obtain ⟨nd2, _, _, _, _, rfl, rfl, ⟨rfl, rfl, h0⟩, ⟨nd1, _, _, SL1, SL2, rfl, rfl, so1, so2⟩⟩ := hoe
      obtain ⟨sv1, rfl⟩ := U6 (show _ = 1 from GoD.rd_len (GoD.own_rd so1))
      obtain ⟨oa1, cp1, rfl⟩ := Zd so1
      obtain ⟨sv2, rfl⟩ := U6 (show _ = 1 from GoD.rd_len (GoD.own_rd so2))
      obtain ⟨oa2, cp2, rfl⟩ := Zd so2
      have p0 : wr.cell? ⟨g, j * 3, none⟩ = some _ := Kj hg hce 0 _ rfl
      have p1 : wr.cell? ⟨g, j * 3 + 1, none⟩ = some _ := Kj hg hce 1 _ rfl
      have p2 : wr.cell? ⟨g, j * 3 + 2, none⟩ = some _ := Kj hg hce 2 _ rfl
      have fz := Jp hg
      have hglt := Q5 hg
      clear hce hg how
      have HSH := Lib.hid hshut; clear hshut
      have HSP := Lib.hid hsp; clear hsp
      have hle : (Xe v2 ((Xe v1 (kk + 1)).2)).2 ≤ 4611686018427387904 := hle
      have hm1 : kk + 1 ≤ (Xe v1 (kk + 1)).2 := Jo _ _
      have hm2 : (Xe v1 (kk + 1)).2 ≤ (Xe v2 ((Xe v1 (kk + 1)).2)).2 := Jo _ _
      have HSO1 := Lib.hid so1; clear so1
      have HSO2 := Lib.hid so2; clear so2
      have HSUB := Lib.hid hsub; clear hsub
      have HU0 : Hid (Upd g (j * 3) 3 ([] ++ (SL1 ++ SL2)) wr wr) := Upd.refl _ _ _ _ _
      have tok1 : True := trivial
      have tok2 : True := trivial
      go_wp2_with (first | (go_at_call 18; have tk := tok1; clear tok1; refine Qbt (Qh7 _ _ v1 SL1 _ (kk + 1) (by omega) (by omega) (by omega) (by repeat (first | (with_reducible exact HSO1.out) | (refine Z2 ?_ (fun hm => hgLi (List.mem_append.2 (.inr (List.mem_append.2 (.inl hm)))))) ))) ?_; intro w1 ho1 hch hz; have c1 := fun o => hch.cell (b := g) (by go_size) (fun hm => hgLi (List.mem_append.2 (.inr (List.mem_append.2 (.inl hm))))) o; have f1 := fun o => hch.frozen (b := g) (by go_size) (fun hm => hgLi (List.mem_append.2 (.inr (List.mem_append.2 (.inl hm))))) o; have HU1 : Hid (Upd g (j * 3) 3 ([] ++ (SL1 ++ SL2)) wr w1) := Upd.mark (by repeat (first | (with_reducible exact HU0.out) | (with_reducible refine Upd.setCell ?_ _ (by omega) _))) hch (fun b hm => (List.mem_append.2 (.inr (List.mem_append.2 (.inl hm))))) (fun hm => hgLi (List.mem_append.2 (.inr (List.mem_append.2 (.inl hm))))) (by go_size); (repeat (first | rewrite [World.size_alloc] at hz | rewrite [World.size_setCell] at hz | rewrite [World.size_drew] at hz)); have HB1 := Lib.hid hch; clear hch; have HM1 := Lib.hid ho1; clear ho1) | (go_at_call 18; have tk := tok2; clear tok2; refine Qbt (Qh7 _ _ v2 SL2 _ ((Xe v1 (kk + 1)).2) (by omega) (by omega) (by omega) (by repeat (first | (with_reducible exact HSO2.out) | (refine Z2 ?_ (fun hm => hgLi (List.mem_append.2 (.inr (List.mem_append.2 (.inr hm)))))) | (refine Qhu ?_ HB1.out (fun b hb1 hb2 => (List.nodup_append.1 nd1).2.2 _ hb2 _ hb1 rfl))))) ?_; intro w2 ho2 hch hz; have c2 := fun o => hch.cell (b := g) (by go_size) (fun hm => hgLi (List.mem_append.2 (.inr (List.mem_append.2 (.inr hm))))) o; have f2 := fun o => hch.frozen (b := g) (by go_size) (fun hm => hgLi (List.mem_append.2 (.inr (List.mem_append.2 (.inr hm))))) o; have HU2 : Hid (Upd g (j * 3) 3 ([] ++ (SL1 ++ SL2)) wr w2) := Upd.mark (by repeat (first | (with_reducible exact HU1.out) | (with_reducible refine Upd.setCell ?_ _ (by omega) _))) hch (fun b hm => (List.mem_append.2 (.inr (List.mem_append.2 (.inr hm))))) (fun hm => hgLi (List.mem_append.2 (.inr (List.mem_append.2 (.inr hm))))) (by go_size); (repeat (first | rewrite [World.size_alloc] at hz | rewrite [World.size_setCell] at hz | rewrite [World.size_drew] at hz)); have HB2 := Lib.hid hch; clear hch; have HM2 := Lib.hid ho2; clear ho2))
      go_roundw
      case measure => simp [intOf]; omega
      case rel =>
        refine ⟨j + 1, by omega, by go_num, ?_, ?_, ?_⟩
        · show Value.int _ _ = _
          rw [HSP.out]
          show Value.int .i64 _ = .int .i64 (((Xe v2 ((Xe v1 (kk + 1)).2)).2 : Nat) : Int)
          first | go_num | (congr 1 <;> omega)
        · show own _ _ _ _
          rw [HSP.out]
          simp only [List.append_assoc, List.singleton_append]
          refine HSH.out _ [.int .i64 ((kk : Nat) : Int), .slice oa1 v1.length cp1, .slice oa2 v2.length cp2] _ (by repeat (first | (with_reducible exact HU2.out) | (with_reducible refine Upd.setCell ?_ _ (by omega) _))) (Yx (Qa9 _ (Qdc (kk) (by omega))) (Yx (show own SL1 _ [.slice oa1 v1.length cp1] (Xe v1 (kk + 1)).1 by repeat (first | (with_reducible exact HM1.out) | (refine Z2 ?_ (fun hm => hgLi (List.mem_append.2 (.inr (List.mem_append.2 (.inl hm)))))) | (refine Qhu ?_ HB2.out (fun b hb1 hb2 => (List.nodup_append.1 nd1).2.2 _ hb1 _ hb2 rfl)))) (show own SL2 _ [.slice oa2 v2.length cp2] (Xe v2 ((Xe v1 (kk + 1)).2)).1 by repeat (first | (with_reducible exact HM2.out) | (refine Z2 ?_ (fun hm => hgLi (List.mem_append.2 (.inr (List.mem_append.2 (.inr hm)))))) )) (fun x hx hy => (List.nodup_append.1 nd1).2.2 x hx x hy rfl)) (fun x hx hy => (List.nodup_append.1 nd2).2.2 x hx x hy rfl)) ?_
          intro q u hq
          match q, hq with
          | 0, hq => obtain rfl := (Option.some.inj hq); simp [go_sem, *]
          | 1, hq => obtain rfl := (Option.some.inj hq); simp [go_sem, *]
          | 2, hq => obtain rfl := (Option.some.inj hq); simp [go_sem, *]
          | q + 3, hq => simp at hq
        · exact HC.out.trans (((by repeat (first | (with_reducible exact HU2.out) | (with_reducible refine Upd.setCell ?_ _ (by omega) _))) : Upd g (j * 3) 3 ([] ++ (SL1 ++ SL2)) wr _).chg.mono (fun b hb => (List.mem_cons.1 hb).elim (fun e => e ▸ hgL) (HSUB.out b)))
    · obtain rfl : j = l.length := by omega
      have how := HW.out; have hch := HC.out
      rw [List.take_length, List.drop_length, List.append_nil] at how
      rw [List.take_length] at *
      have HW2 := Lib.hid how; have HC2 := Lib.hid hch; clear how hch
      go_wp2
      go_ret
      exact ⟨rfl, HW2.out, HC2.out⟩
set_option maxRecDepth 100000 in
set_option maxHeartbeats 1000000 in
theorem Qsc (w : World) (ca : List Value) (a : Jl) (L : List Nat) (K : Int) (k : Nat) (hK : K = k) (h1 : 1 ≤ k) (hk : (GoD.markT a k).2 ≤ 4611686018427387904) (ho : own L w ca a) : Calls Tryz.prog 23 #[.agg ca.toArray, .int .i64 K] w (Qgn L w ca (GoD.markT a k)) := by
  subst hK
  obtain ⟨b1, b2, b3, b4⟩ := a
  have hk : (Xe b4 ((Xe b3 (k)).2)).2 ≤ 4611686018427387904 := hk
  have hlt := GoD.own_lt ho
  obtain ⟨nd0, _, _, _, _, rfl, rfl, ⟨rfl, rfl, h0⟩, ⟨nd1, _, _, _, _, rfl, rfl, ⟨rfl, rfl, h1⟩, ⟨nd2, _, _, SL2, SL3, rfl, rfl, so2, so3⟩⟩⟩ := ho
  obtain ⟨ax2_0, rfl⟩ := U6 (show _ = 1 from GoD.rd_len (GoD.own_rd so2))
  have HSO2 := Lib.hid so2; clear so2
  have hm2 : k ≤ (Xe b3 (k)).2 := Jo _ _
  obtain ⟨ax3_0, rfl⟩ := U6 (show _ = 1 from GoD.rd_len (GoD.own_rd so3))
  have HSO3 := Lib.hid so3; clear so3
  have hm3 : (Xe b3 (k)).2 ≤ (Xe b4 ((Xe b3 (k)).2)).2 := Jo _ _
  show Calls Tryz.prog 23 #[.agg #[.int .i64 b1, .string b2, ax2_0, ax3_0], .int .i64 (k : Int)] w (Qgn ([] ++ ([] ++ (SL2 ++ SL3))) w [.int .i64 b1, .string b2, ax2_0, ax3_0] (GoD.markT ((b1, b2, b3, b4) : Jl) k))
  have HLT := Lib.hid hlt; clear hlt
  have tok1 : True := trivial
  have tok2 : True := trivial
  go_enter Tryz.func23, Tryz.ntmps23
  go_wp2_with (first | (go_at_call 18; have tk := tok1; clear tok1; refine Qbt (Qh7 _ ax2_0 b3 SL2 _ (k) (by omega) (by omega) (show (Xe b3 (k)).2 ≤ 4611686018427387904 by omega) (by repeat (first | (with_reducible exact HSO2.out) | (refine K1 ?_) ))) ?_; intro w1 ho1 hch hz; have c1 := fun o => hch.cell (b := w.heap.size) (by go_size) (fun hm => by have := HLT.out _ (List.mem_append.2 (.inr (List.mem_append.2 (.inr (List.mem_append.2 (.inl hm)))))); omega) o; (repeat (first | rewrite [World.size_alloc] at hz | rewrite [World.size_setCell] at hz | rewrite [World.size_drew] at hz)); have HB1 := Lib.hid hch; clear hch; have HM1 := Lib.hid ho1; clear ho1) | (go_at_call 55; have tk := tok2; clear tok2; refine Qbt (Qqe _ ax3_0 b4 SL3 _ ((Xe b3 (k)).2) (by omega) (by omega) (show (Xe b4 ((Xe b3 (k)).2)).2 ≤ 4611686018427387904 by omega) (by repeat (first | (with_reducible exact HSO3.out) | (refine K1 ?_) | (refine Qhu ?_ HB1.out (fun b hb1 hb2 => (List.nodup_append.1 nd2).2.2 _ hb2 _ hb1 rfl))))) ?_; intro w2 ho2 hch hz; have c2 := fun o => hch.cell (b := w.heap.size) (by go_size) (fun hm => by have := HLT.out _ (List.mem_append.2 (.inr (List.mem_append.2 (.inr (List.mem_append.2 (.inr hm)))))); omega) o; (repeat (first | rewrite [World.size_alloc] at hz | rewrite [World.size_setCell] at hz | rewrite [World.size_drew] at hz)); have HB2 := Lib.hid hch; clear hch; have HM2 := Lib.hid ho2; clear ho2))
  go_ret
  refine ⟨rfl, ?_, ?_⟩
  · show own ([] ++ ([] ++ (SL2 ++ SL3))) _ [.int .i64 b1, .string b2, ax2_0, ax3_0] _
    exact (Yx (Qa9 _ h0) (Yx (Qhi _ h1) (Yx (show own SL2 _ [ax2_0] (Xe b3 (k)).1 by repeat (first | (with_reducible exact HM1.out) | (refine K1 ?_) | (refine Qhu ?_ HB2.out (fun b hb1 hb2 => (List.nodup_append.1 nd2).2.2 _ hb1 _ hb2 rfl)))) (show own SL3 _ [ax3_0] (Xe b4 ((Xe b3 (k)).2)).1 by repeat (first | (with_reducible exact HM2.out) | (refine K1 ?_) )) (fun x hx hy => (List.nodup_append.1 nd2).2.2 x hx x hy rfl)) (fun x hx hy => (List.nodup_append.1 nd1).2.2 x hx x hy rfl)) (fun x hx hy => (List.nodup_append.1 nd0).2.2 x hx x hy rfl))
  · show Chg ([] ++ ([] ++ (SL2 ++ SL3))) w _
    exact ((Chg.of_below (show Below w.heap.size w _ by go_grown)).trans (HB1.out.mono (fun b hm => (List.mem_append.2 (.inr (List.mem_append.2 (.inr (List.mem_append.2 (.inl hm))))))))).trans (HB2.out.mono (fun b hm => (List.mem_append.2 (.inr (List.mem_append.2 (.inr (List.mem_append.2 (.inr hm))))))))
end Go.Proofs.YtnhmnfmhnepjmaaGreat
