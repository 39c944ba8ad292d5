/- Texts of this proof, put together by a program: Cgb, Cgc, Gb, Cua, Cub, Cuc, Cud, Cue, Pla, Qra, LQr, Qrl, MQr. -/
import Derived.Test.YtamghcfmhfknmaaGreatP6
import Derived.KernelRfl
import Derived.Outline
set_option linter.unusedVariables false
set_option linter.unusedSimpArgs false
namespace Go.Proofs.YtamghcfmhfknmaaGreat
open Go.RowKit
open GoE (enc wide)
def J6 (d : (List Zt)) : Bool := ((Qz d)).2
theorem strat_len {d : List Zt} (h : J6 d = true) : List.length d ≤ 5 := (Qer (d := d) h).2.1
theorem implIsStratified_a (d : (List Zt)) : ACalls Tryz.prog 136 [.h d] (.b (J6 d)) := by
 refine Qt (tt := tt) Qb Tryz.func136 (fn := Tryz.f136) rfl (by unfold Jr; kernel_rfl) (Nat.le_of_ble_eq_true rfl) fun w0 F0 hG => ?_
 refine Qa ?_
 refine rk Qb [(2, .b false)] [] [] [] [] (o0) ?_
 refine Qa ?_
 refine rk Qb [(4, .b (((Qz d)).2))] [0] [] [] [(1, .val (.tup [(false, [.o 0 (((Qz d)).1)]), (false, [.b (((Qz d)).2)])]))] (o1 (Qg (implStrata_a d))) ?_
 refine Qa ?_
 refine rk Qb [(2, .b (((Qz d)).2))] [2, 4] [] [] [] (o0) ?_
 refine Qq ?_
 exact Ze [] (congrArg (fun z => (.b z : AV)) (show J6 d = ((Qz d)).2 from rfl).symm)
def Xo (x : Zt) : Zt := x
theorem Qd2 (x : Zt) : ACalls Tryz.prog 128 [.a [.s x.1, .h x.2]] (.a [.s ((Xo x).1), .o 0 ((Xo x).2)]) := by
 refine Qt (tt := tt) Qb Tryz.func128 (fn := Tryz.f128) rfl (by unfold Jr; kernel_rfl) (Nat.le_of_ble_eq_true rfl) fun w0 F0 hG => ?_
 refine Qa ?_
 refine rk Qb [(1, .p 1 0), (2, .p 2 0)] [0] [(1, [.s x.1, .h x.2]), (2, [.s ⟨#[]⟩, .e 7])] [] [] (o0) ?_
 refine Qa ?_
 refine rk Qb [] [] [(1, [.s x.1, .o 320 x.2])] [1] [(2, .val (.o 0 x.2))] (o1 (Qg (cloneNode_a x.2))) ?_
 refine Qa ?_
 refine rk Qb [] [1] [(2, [.s x.1, .o 320 x.2])] [1, 2] [] (o0) ?_
 refine Qq ?_
 exact Ze [] (congrArg (fun z => (.a [.s z.1, .o 0 z.2] : AV)) (show Xo x = x from rfl).symm)
def Qa4 (_ : Nat) (a0 : Zt) (s0 : (List Zt)) : Rd ((List Zt)) ((List Zt)) ((List Zt)) := (.next (s0 ++ [(Xo a0)]))
def Qcx (_ : Nat) (s0 : (List Zt)) : (List Zt) := s0
def Qw (d : (List Zt)) : (List Zt) := (Out.on (Xv Qa4 Qcx d 0 []) (fun y0 => y0))
theorem copyDirs_id (d : List Zt) : Qw d = d := by
 unfold Qw
 rw [forL_map (f := Qa4) (g := id) (fun _ _ _ => rfl), List.map_id]
 rfl
theorem copyDirs_len (d : List Zt) : (Qw d).length = d.length := by rw [copyDirs_id]
theorem He (d : (List Zt)) : ACalls Tryz.prog 76 [.h d] (.o 0 (Qw d)) := by
 refine Qt (tt := tt) Qb Tryz.func76 (fn := Tryz.f76) rfl (by unfold Jr; kernel_rfl) (Nat.le_of_ble_eq_true rfl) fun w0 F0 hG => ?_
 refine Qa ?_
 refine rk Qb [(2, .e 0)] [] [] [] [] (o0) ?_
 refine Qa ?_
 refine rk Qb [(3, .one (.slc (.own true 384) 2 []))] [] [] [] [] (o0) ?_
 refine Qa ?_
 refine Qa ?_
 refine rk Qb [(7, .h d), (8, .i (d.length : Int)), (9, .i 0)] [0] [] [] [(1, .val (.i (d.length : Int)))] (o1 (Qi (Xs d))) ?_
 refine wdT 7 0 .sh d (fun hw1 => ?_)
 have hl2 : List.length d ≤ 1073741824 := Qx (hw1)
 refine blk (fun (k0 : Nat) (s0 : (List Zt)) => [(3, .o 147201 s0), (9, .i ((k0 : Nat) : Int))]) [3, 9] (fun k0 s0 => []) [] (fun (y0 : (List Zt)) => [(3, .o 147351 y0)]) [3, 7, 8, 9] (fun y0 => []) [] (fun (k0 : Nat) (s0 : (List Zt)) => (Xv Qa4 Qcx d 0 []) = Xv Qa4 Qcx (List.drop k0 d) k0 s0 ∧ List.length s0 ≤ k0) (fun (y0 : (List Zt)) => (Xv Qa4 Qcx d 0 []) = .brk y0) d.length [] (Yt [(384, 147201)] (by kernel_rfl)) ⟨rfl, (by simp)⟩ (fun k0 s0 hk0 hI0 => ?_) (fun k0 s0 hk0 hI0 => ?_) (fun y0 hD0 => ?_)
 ·
  have hA0_0 := hI0.2
  obtain ⟨a0, hx0⟩ := Yl (l := d) (i := k0) hk0
  refine Qa ?_
  refine rk Qb [(10, .b true)] [] [] [] [(0, .val (.b true))] (o1 (Qi (Qh (decide_eq_true (p := ((k0 : Nat) : Int) < (d.length : Int)) (by omega))))) ?_
  refine Qa ?_
  refine ckT ?_
  refine Qr ?_
  refine Qa ?_
  refine Xf ?_
  refine Qa ?_
  refine rk Qb [(5, .p 5 0)] [10] [(5, [.s a0.1, .h a0.2])] [] [(0, .row [.s a0.1, .h a0.2])] (o1 (Qy (X4 (i := ((k0 : Nat) : Int)) (by omega) rfl hx0))) ?_
  refine wdT 3 0 (.own true 147201) s0 (fun hw3 => ?_)
  have hl4 : List.length s0 ≤ 1073741824 := Qx (hw3)
  refine rk Qb [(3, .one (.slc (.own true 1088) 2 ((eL s0) ++ [[.s ((Xo a0).1), .h ((Xo a0).2)]])))] [3, 5] [] [5] [(2, .val (.a [.s ((Xo a0).1), .o 0 ((Xo a0).2)]))] (o2 (Qg (Qd2 a0)) (o1 (V9 (Wi (Xm s0) (Xm [(Xo a0)]) (by first | omega | (simp only [List.length_cons, List.length_nil]; omega) | (simp; omega) | simp))))) ?_
  refine eqn [(3, .o 1088 (s0 ++ [(Xo a0)]))] [3] [] [] (by rw [show ((eL s0) ++ [[.s ((Xo a0).1), .h ((Xo a0).2)]]) = (eL (s0 ++ [(Xo a0)])) from Hj (rfl) (rfl)]; first | done | kernel_rfl) ?_
  refine rk Qb [(9, .i ((k0 + 1 : Nat) : Int))] [9] [] [] [(0, .val (.i ((k0 + 1 : Nat) : Int)))] (o1 (Qi (Km (Q8 k0 (by omega))))) ?_
  exact Exists.intro (s0 ++ [(Xo a0)]) (And.intro (Yt [(1088, 147201)] (by kernel_rfl)) ⟨Xe hx0 (rfl) hI0.1, by first | omega | (simp; omega) | simp⟩)
 ·
  have hA0_0 := hI0.2
  refine Qa ?_
  refine rk Qb [(10, .b false)] [] [] [] [(0, .val (.b false))] (o1 (Qi (Qh (decide_eq_false (p := ((k0 : Nat) : Int) < (d.length : Int)) (by omega))))) ?_
  refine Qa ?_
  refine ckF ?_
  refine Xt ?_
  exact Exists.intro s0 (And.intro (Yt [(147201, 147351)] (by kernel_rfl)) (Ym hk0 (rfl) hI0.1))
 ·
  refine Qa ?_
  refine rk Qb [(2, .o 147351 y0)] [2, 3] [] [] [] (o0) ?_
  refine Qq ?_
  exact Ze [] (congrArg (fun z => (.o 0 z : AV)) (show Qw d = y0 from Hk hD0 (rfl)).symm)
def Qa5 (o : Zt) (q0 : Zt) : Bool := (!(Op.bytesLess o.1.toList q0.1.toList || o.1.toList == q0.1.toList))
theorem implSetDir_1_a (o : Zt) (q0 : Zt) : ACalls Tryz.prog 185 [.a [.s o.1, .h o.2], .one (.rptr .sh [.s q0.1, .h q0.2])] (.b (Qa5 o q0)) := by
 refine Qt (tt := tt) Qb Tryz.func185 (fn := Tryz.f185) rfl (by unfold Jr; kernel_rfl) (Nat.le_of_ble_eq_true rfl) fun w0 F0 hG => ?_
 refine Qa ?_
 refine rk Qb [(2, .p 2 0), (3, .b false)] [0] [(2, [.s o.1, .h o.2])] [] [] (o0) ?_
 refine Qa ?_
 refine rk Qb [(3, .b (!(Op.bytesLess o.1.toList q0.1.toList || o.1.toList == q0.1.toList)))] [1, 2, 3] [] [2] [] (o0) ?_
 refine Qq ?_
 exact Ze [] (congrArg (fun z => (.b z : AV)) (show Qa5 o q0 = (!(Op.bytesLess o.1.toList q0.1.toList || o.1.toList == q0.1.toList)) from rfl).symm)
def Jb (c0 : Zt) (k0 : Nat) (a0 : Zt) (_ : Unit) : Rd (Int) (Unit) (Unit) := (bif (Qa5 a0 c0) then (.ret ((k0 : Nat) : Int)) else (.next ()))
def Jc (_ : Nat) (_ : Unit) : Unit := ()
def Q1 (s_ : (List Zt)) (c0 : Zt) : Int := (Out.on (Xv (Jb c0) Jc s_ 0 ()) (fun _ => -1))
theorem Qb8 (s_ : (List Zt)) (c0 : Zt) : Q1 s_ c0 = ixF (fun a => Qa5 a c0) s_ := idx_eq (fun _ _ _ => rfl) s_
theorem Qb9 (s_ : (List Zt)) (c0 : Zt) : -1 ≤ Q1 s_ c0 ∧ Q1 s_ c0 < (List.length s_ : Int) := by rw [Qb8]; exact ixF_bd _ _
theorem Qcj (s_ : (List Zt)) (c0 : Zt) : ACalls Tryz.prog 184 [.h s_, .one (.fnr 185 [[.s c0.1, .h c0.2]])] (.i (Q1 s_ c0)) := by
 refine Qt (tt := tt) Qb Tryz.func184 (fn := Tryz.f184) rfl (by unfold Jr; kernel_rfl) (Nat.le_of_ble_eq_true rfl) fun w0 F0 hG => ?_
 refine Qa ?_
 refine rk Qb [(4, .i 0)] [] [] [] [] (o0) ?_
 refine Qa ?_
 refine Qa ?_
 refine rk Qb [(7, .i (s_.length : Int)), (8, .i 0)] [] [] [] [(1, .val (.i (s_.length : Int)))] (o1 (Qi (Xs s_))) ?_
 refine wdT 0 0 .sh s_ (fun hw1 => ?_)
 have hl2 : List.length s_ ≤ 1073741824 := Qx (hw1)
 refine blk (fun (k0 : Nat) (s0 : Unit) => [(8, .i ((k0 : Nat) : Int))]) [8] (fun k0 s0 => []) [] (fun (y0 : Unit) => []) [0, 1, 7, 8] (fun y0 => []) [] (fun (k0 : Nat) (s0 : Unit) => (Xv (Jb c0) Jc s_ 0 ()) = Xv (Jb c0) Jc (List.drop k0 s_) k0 s0) (fun (y0 : Unit) => (Xv (Jb c0) Jc s_ 0 ()) = .brk y0) s_.length () (Qd (by kernel_rfl)) rfl (fun k0 s0 hk0 hI0 => ?_) (fun k0 s0 hk0 hI0 => ?_) (fun y0 hD0 => ?_)
 ·
  obtain ⟨a0, hx0⟩ := Yl (l := s_) (i := k0) hk0
  refine Qa ?_
  refine rk Qb [(9, .b true)] [] [] [] [(0, .val (.b true))] (o1 (Qi (Qh (decide_eq_true (p := ((k0 : Nat) : Int) < (s_.length : Int)) (by omega))))) ?_
  refine Qa ?_
  refine ckT ?_
  refine Qr ?_
  refine Qa ?_
  refine Xf ?_
  refine Qa ?_
  refine rk Qb [(5, .i ((k0 : Nat) : Int))] [9] [] [] [] (o0) ?_
  refine Qa ?_
  refine rk Qb [(16, .b (Qa5 a0 c0))] [] [] [] [(3, .row [.s a0.1, .h a0.2]), (5, .val (.b (Qa5 a0 c0)))] (o2 (Qy (X4 (i := ((k0 : Nat) : Int)) (by omega) rfl hx0)) (o1 (Qg (implSetDir_1_a a0 c0)))) ?_
  refine ck (Qa5 a0 c0) (fun h3 => ?_) (fun h3 => ?_)
  ·
   refine Qa ?_
   refine rk Qb [(4, .i ((k0 : Nat) : Int))] [4, 5, 16] [] [] [] (o0) ?_
   refine Qq ?_
   have hr4 : (Xv (Jb c0) Jc s_ 0 ()) = .ret ((k0 : Nat) : Int) := Jy hx0 (X8 h3 (rfl)) hI0
   exact Ze [] (congrArg (fun z => (.i z : AV)) (show Q1 s_ c0 = ((k0 : Nat) : Int) from on_r hr4).symm)
  ·
   refine Qr ?_
   refine rk Qb [(8, .i ((k0 + 1 : Nat) : Int))] [5, 8, 16] [] [] [(0, .val (.i ((k0 + 1 : Nat) : Int)))] (o1 (Qi (Km (Q8 k0 (by omega))))) ?_
   exact Exists.intro () (And.intro (Qd (by kernel_rfl)) (Xe hx0 (Q6 h3 (rfl)) hI0))
 ·
  refine Qa ?_
  refine rk Qb [(9, .b false)] [] [] [] [(0, .val (.b false))] (o1 (Qi (Qh (decide_eq_false (p := ((k0 : Nat) : Int) < (s_.length : Int)) (by omega))))) ?_
  refine Qa ?_
  refine ckF ?_
  refine Xt ?_
  exact Exists.intro () (And.intro (Qd (by kernel_rfl)) (Ym hk0 (rfl) hI0))
 ·
  refine Qa ?_
  refine rk Qb [(4, .i (-1))] [4] [] [] [] (o0) ?_
  refine Qq ?_
  exact Ze [] (congrArg (fun z => (.i z : AV)) (show Q1 s_ c0 = -1 from Hk hD0 (rfl)).symm)
def Xi (d : (List Zt)) (x : Zt) : (List Zt) × Bool := (bif decide ((Xc d x.1) ≥ (0 : Int)) then (bif ((!(Q2 d)) || (!(Q2 (List.set (Qw d) (Int.toNat (Xc d x.1)) (Xo x))))) then ((Qw d), false) else (List.set (Qw d) (Int.toNat (Xc d x.1)) (Xo x), true)) else (bif decide ((Q1 d x) < (0 : Int)) then (bif ((!(Q2 d)) || (!(Q2 (Qdt (Qw d) (Int.toNat (d.length : Int)) (Xo x))))) then ((Qw d), false) else (Qdt (Qw d) (Int.toNat (d.length : Int)) (Xo x), true)) else (bif ((!(Q2 d)) || (!(Q2 (Qdt (Qw d) (Int.toNat (Q1 d x)) (Xo x))))) then ((Qw d), false) else (Qdt (Qw d) (Int.toNat (Q1 d x)) (Xo x), true))))
theorem implSetDir_a (d : (List Zt)) (x : Zt) (hp : List.length d < 1073741000) : ACalls Tryz.prog 135 [.h d, .a [.s x.1, .h x.2]] (.tup [(false, [.h (((Xi d x)).1)]), (false, [.b (((Xi d x)).2)])]) := by
 refine Qt (tt := tt) Qb Tryz.func135 (fn := Tryz.f135) rfl (by unfold Jr; kernel_rfl) (Nat.le_of_ble_eq_true rfl) fun w0 F0 hG => ?_
 have hcl := copyDirs_len d
 have hbd := Qb9 d x
 refine Qa ?_
 refine rk Qb [(3, .p 3 0), (4, .e 0), (5, .b false)] [1] [(3, [.s x.1, .h x.2])] [] [] (o0) ?_
 refine Qa ?_
 refine rk Qb [(6, .o 576 (Qw d))] [] [] [] [(1, .val (.o 0 (Qw d)))] (o1 (Qg (He d))) ?_
 refine Qa ?_
 refine rk Qb [(7, .i (Xc d x.1))] [] [] [] [(3, .val (.i (Xc d x.1)))] (o1 (Qg (impldirAt_a d x.1))) ?_
 refine Qa ?_
 refine Qa ?_
 refine rk Qb [(15, .b (decide ((Xc d x.1) ≥ (0 : Int))))] [] [] [] [] (o0) ?_
 refine ck (decide ((Xc d x.1) ≥ (0 : Int))) (fun h1 => ?_) (fun h1 => ?_)
 ·
  have h1p := place_lt d x.1
  have h1d := of_decide_eq_true h1
  refine wdT 6 0 (.own true 576) (Qw d) (fun hw3 => ?_)
  have hl4 : List.length (Qw d) ≤ 1073741824 := Qx (hw3)
  have hx2 : (Qw d)[(Int.toNat (Xc d x.1))]? = some (nth (Qw d) (Int.toNat (Xc d x.1))) := Yj (by omega)
  refine rk Qb [(6, .one (.slc (.own true 576) 2 (setRow (eL (Qw d)) (Int.toNat (Xc d x.1)) 0 [.s ((Xo x).1), .h ((Xo x).2)])))] [3, 6, 7, 15] [] [3] [(3, .val (.a [.s ((Xo x).1), .o 0 ((Xo x).2)])), (4, .rowE [.s ((nth (Qw d) (Int.toNat (Xc d x.1))).1), .h ((nth (Qw d) (Int.toNat (Xc d x.1))).2)])] (o2 (Qg (Qd2 x)) (o1 (Qy (X4 (i := (Xc d x.1)) (by omega) rfl hx2)))) ?_
  refine eqn [(6, .o 576 (List.set (Qw d) (Int.toNat (Xc d x.1)) (Xo x)))] [6] [] [] (by rw [K0 (y := (Xo x)) hx2 rfl]; first | done | kernel_rfl) ?_
  refine Qa ?_
  refine Qa ?_
  refine jn [(41, .b ((!(Q2 d)) || (!(Q2 (List.set (Qw d) (Int.toNat (Xc d x.1)) (Xo x))))))] [] [] [] (!(Q2 d)) (fun h5 => ?_) (fun h5 => ?_) ?_
  ·
   have h5n : (Q2 d) = false := Ug h5
   refine rk Qb [(41, .b true)] [] [] [] [(1, .val (.b false)), (2, .val (.b true))] (o2 (Qg (cb h5n (Jh d))) (o1 (Qi (show .b (!false) = .b true from rfl)))) ?_
   exact ⟨rfl, Qd (by rw [h5]; first | done | kernel_rfl)⟩
  ·
   have h5n : (Q2 d) = true := Jn h5
   refine rk Qb [(41, .b (!(Q2 (List.set (Qw d) (Int.toNat (Xc d x.1)) (Xo x)))))] [] [] [] [(1, .val (.b true)), (2, .val (.b false)), (5, .val (.b (Q2 (List.set (Qw d) (Int.toNat (Xc d x.1)) (Xo x)))))] (o2 (Qg (cb h5n (Jh d))) (o2 (Qi (show .b (!true) = .b false from rfl)) (o1 (Qg (Jh (List.set (Qw d) (Int.toNat (Xc d x.1)) (Xo x))))))) ?_
   exact ⟨rfl, Qd (by rw [h5]; first | done | kernel_rfl)⟩
  refine ck ((!(Q2 d)) || (!(Q2 (List.set (Qw d) (Int.toNat (Xc d x.1)) (Xo x))))) (fun h6 => ?_) (fun h6 => ?_)
  ·
   refine Qa ?_
   refine rk Qb [(4, .o 2752 (Qw d))] [0, 4, 41] [] [] [(1, .val (.o 0 (Qw d)))] (o1 (Qg (He d))) ?_
   refine Qq ?_
   exact Ze [2752] (congrArg (fun z => (.tup [(false, [.h z.1]), (false, [.b z.2])] : AV)) (show Xi d x = ((Qw d), false) from X8 h1 (X8 h6 (rfl))).symm)
  ·
   refine Qr ?_
   refine Qa ?_
   refine rk Qb [(4, .o 576 (List.set (Qw d) (Int.toNat (Xc d x.1)) (Xo x))), (5, .b true)] [0, 4, 5, 6, 41] [] [] [] (o0) ?_
   refine Qq ?_
   exact Ze [576] (congrArg (fun z => (.tup [(false, [.h z.1]), (false, [.b z.2])] : AV)) (show Xi d x = (List.set (Qw d) (Int.toNat (Xc d x.1)) (Xo x), true) from X8 h1 (Q6 h6 (rfl))).symm)
 ·
  have h1d := of_decide_eq_false h1
  refine Qa ?_
  refine rk Qb [(7, .i (Q1 d x))] [7, 15] [] [] [(2, .val (.i (Q1 d x)))] (o1 (Qg (Qcj d x))) ?_
  refine Qa ?_
  refine Qa ?_
  refine rk Qb [(25, .b (decide ((Q1 d x) < (0 : Int))))] [] [] [] [] (o0) ?_
  refine ck (decide ((Q1 d x) < (0 : Int))) (fun h7 => ?_) (fun h7 => ?_)
  ·
   have h7d := of_decide_eq_true h7
   refine rk Qb [(7, .i (d.length : Int))] [7, 25] [] [] [(1, .val (.i (d.length : Int)))] (o1 (Qi (Xs d))) ?_
   refine Qed [576] rfl ?_
   refine wdT 6 0 (.own false 576) (Qw d) (fun hw8 => ?_)
   have hl9 : List.length (Qw d) ≤ 1073741824 := Qx (hw8)
   refine rk Qb [(6, .q 2112 (Qdt (Qw d) (Int.toNat (d.length : Int)) (Xo x)))] [3, 6, 7] [] [3] [(3, .val (.a [.s ((Xo x).1), .o 0 ((Xo x).2)])), (5, .take true false (eL (Qdt (Qw d) (Int.toNat (d.length : Int)) (Xo x))))] (o2 (Qg (Qd2 x)) (o1 (ob_take (insDir_a (Qw d) (Xo x) (i := (d.length : Int)) (by omega) (by omega) (by omega))))) ?_
   refine Qa ?_
   refine Qa ?_
   refine jn [(41, .b ((!(Q2 d)) || (!(Q2 (Qdt (Qw d) (Int.toNat (d.length : Int)) (Xo x))))))] [] [] [] (!(Q2 d)) (fun h10 => ?_) (fun h10 => ?_) ?_
   ·
    have h10n : (Q2 d) = false := Ug h10
    refine rk Qb [(41, .b true)] [] [] [] [(1, .val (.b false)), (2, .val (.b true))] (o2 (Qg (cb h10n (Jh d))) (o1 (Qi (show .b (!false) = .b true from rfl)))) ?_
    exact ⟨rfl, Qd (by rw [h10]; first | done | kernel_rfl)⟩
   ·
    have h10n : (Q2 d) = true := Jn h10
    refine rk Qb [(41, .b (!(Q2 (Qdt (Qw d) (Int.toNat (d.length : Int)) (Xo x)))))] [] [] [] [(1, .val (.b true)), (2, .val (.b false)), (5, .val (.b (Q2 (Qdt (Qw d) (Int.toNat (d.length : Int)) (Xo x)))))] (o2 (Qg (cb h10n (Jh d))) (o2 (Qi (show .b (!true) = .b false from rfl)) (o1 (Qg (Jh (Qdt (Qw d) (Int.toNat (d.length : Int)) (Xo x))))))) ?_
    exact ⟨rfl, Qd (by rw [h10]; first | done | kernel_rfl)⟩
   refine ck ((!(Q2 d)) || (!(Q2 (Qdt (Qw d) (Int.toNat (d.length : Int)) (Xo x))))) (fun h11 => ?_) (fun h11 => ?_)
   ·
    refine Qa ?_
    refine rk Qb [(4, .o 2752 (Qw d))] [0, 4, 41] [] [] [(1, .val (.o 0 (Qw d)))] (o1 (Qg (He d))) ?_
    refine Qq ?_
    exact Ze [2752] (congrArg (fun z => (.tup [(false, [.h z.1]), (false, [.b z.2])] : AV)) (show Xi d x = ((Qw d), false) from Q6 h1 (X8 h7 (X8 h11 (rfl)))).symm)
   ·
    refine Qr ?_
    refine Qa ?_
    refine rk Qb [(4, .q 2112 (Qdt (Qw d) (Int.toNat (d.length : Int)) (Xo x))), (5, .b true)] [0, 4, 5, 6, 41] [] [] [] (o0) ?_
    refine Qq ?_
    exact Ze [2112] (congrArg (fun z => (.tup [(false, [.h z.1]), (false, [.b z.2])] : AV)) (show Xi d x = (Qdt (Qw d) (Int.toNat (d.length : Int)) (Xo x), true) from Q6 h1 (X8 h7 (Q6 h11 (rfl)))).symm)
  ·
   have h7d := of_decide_eq_false h7
   refine Qr ?_
   refine Qed [576] rfl ?_
   refine wdT 6 0 (.own false 576) (Qw d) (fun hw12 => ?_)
   have hl13 : List.length (Qw d) ≤ 1073741824 := Qx (hw12)
   refine rk Qb [(6, .q 2112 (Qdt (Qw d) (Int.toNat (Q1 d x)) (Xo x)))] [3, 6, 7, 25] [] [3] [(3, .val (.a [.s ((Xo x).1), .o 0 ((Xo x).2)])), (5, .take true false (eL (Qdt (Qw d) (Int.toNat (Q1 d x)) (Xo x))))] (o2 (Qg (Qd2 x)) (o1 (ob_take (insDir_a (Qw d) (Xo x) (i := (Q1 d x)) (by omega) (by omega) (by omega))))) ?_
   refine Qa ?_
   refine Qa ?_
   refine jn [(41, .b ((!(Q2 d)) || (!(Q2 (Qdt (Qw d) (Int.toNat (Q1 d x)) (Xo x))))))] [] [] [] (!(Q2 d)) (fun h14 => ?_) (fun h14 => ?_) ?_
   ·
    have h14n : (Q2 d) = false := Ug h14
    refine rk Qb [(41, .b true)] [] [] [] [(1, .val (.b false)), (2, .val (.b true))] (o2 (Qg (cb h14n (Jh d))) (o1 (Qi (show .b (!false) = .b true from rfl)))) ?_
    exact ⟨rfl, Qd (by rw [h14]; first | done | kernel_rfl)⟩
   ·
    have h14n : (Q2 d) = true := Jn h14
    refine rk Qb [(41, .b (!(Q2 (Qdt (Qw d) (Int.toNat (Q1 d x)) (Xo x)))))] [] [] [] [(1, .val (.b true)), (2, .val (.b false)), (5, .val (.b (Q2 (Qdt (Qw d) (Int.toNat (Q1 d x)) (Xo x)))))] (o2 (Qg (cb h14n (Jh d))) (o2 (Qi (show .b (!true) = .b false from rfl)) (o1 (Qg (Jh (Qdt (Qw d) (Int.toNat (Q1 d x)) (Xo x))))))) ?_
    exact ⟨rfl, Qd (by rw [h14]; first | done | kernel_rfl)⟩
   refine ck ((!(Q2 d)) || (!(Q2 (Qdt (Qw d) (Int.toNat (Q1 d x)) (Xo x))))) (fun h15 => ?_) (fun h15 => ?_)
   ·
    refine Qa ?_
    refine rk Qb [(4, .o 2752 (Qw d))] [0, 4, 41] [] [] [(1, .val (.o 0 (Qw d)))] (o1 (Qg (He d))) ?_
    refine Qq ?_
    exact Ze [2752] (congrArg (fun z => (.tup [(false, [.h z.1]), (false, [.b z.2])] : AV)) (show Xi d x = ((Qw d), false) from Q6 h1 (Q6 h7 (X8 h15 (rfl)))).symm)
   ·
    refine Qr ?_
    refine Qa ?_
    refine rk Qb [(4, .q 2112 (Qdt (Qw d) (Int.toNat (Q1 d x)) (Xo x))), (5, .b true)] [0, 4, 5, 6, 41] [] [] [] (o0) ?_
    refine Qq ?_
    exact Ze [2112] (congrArg (fun z => (.tup [(false, [.h z.1]), (false, [.b z.2])] : AV)) (show Xi d x = (Qdt (Qw d) (Int.toNat (Q1 d x)) (Xo x), true) from Q6 h1 (Q6 h7 (Q6 h15 (rfl)))).symm)
def Ye (d : (List Zt)) (name : ByteArray) : (List Zt) × Bool := (bif ((!(Q2 d)) || decide ((Xc d name) < (0 : Int))) then ((Qw d), false) else (delAt (Qw d) (Int.toNat (Xc d name)), true))
theorem implRemoveDir_a (d : (List Zt)) (name : ByteArray) : ACalls Tryz.prog 84 [.h d, .s name] (.tup [(false, [.h (((Ye d name)).1)]), (false, [.b (((Ye d name)).2)])]) := by
 refine Qt (tt := tt) Qb Tryz.func84 (fn := Tryz.f84) rfl (by unfold Jr; kernel_rfl) (Nat.le_of_ble_eq_true rfl) fun w0 F0 hG => ?_
 have hcl := copyDirs_len d
 refine Qa ?_
 refine rk Qb [(4, .e 0), (5, .b false)] [] [] [] [] (o0) ?_
 refine Qa ?_
 refine rk Qb [(6, .o 576 (Qw d))] [] [] [] [(1, .val (.o 0 (Qw d)))] (o1 (Qg (He d))) ?_
 refine Qa ?_
 refine rk Qb [(7, .i (Xc d name))] [1] [] [] [(2, .val (.i (Xc d name)))] (o1 (Qg (impldirAt_a d name))) ?_
 refine Qa ?_
 refine Qa ?_
 refine jn [(19, .b ((!(Q2 d)) || decide ((Xc d name) < (0 : Int))))] [0] [] [] (!(Q2 d)) (fun h1 => ?_) (fun h1 => ?_) ?_
 ·
  have h1n : (Q2 d) = false := Ug h1
  refine rk Qb [(19, .b true)] [0] [] [] [(1, .val (.b false)), (2, .val (.b true))] (o2 (Qg (cb h1n (Jh d))) (o1 (Qi (show .b (!false) = .b true from rfl)))) ?_
  exact ⟨rfl, Qd (by rw [h1]; first | done | kernel_rfl)⟩
 ·
  have h1n : (Q2 d) = true := Jn h1
  have h1ns := Qdr h1n
  refine rk Qb [(19, .b (decide ((Xc d name) < (0 : Int))))] [0] [] [] [(1, .val (.b true)), (2, .val (.b false))] (o2 (Qg (cb h1n (Jh d))) (o1 (Qi (show .b (!true) = .b false from rfl)))) ?_
  exact ⟨rfl, Qd (by rw [h1]; first | done | kernel_rfl)⟩
 refine ck ((!(Q2 d)) || decide ((Xc d name) < (0 : Int))) (fun h2 => ?_) (fun h2 => ?_)
 ·
  refine Qa ?_
  refine rk Qb [(4, .o 576 (Qw d))] [4, 19] [] [] [] (o0) ?_
  refine Qq ?_
  exact Ze [576] (congrArg (fun z => (.tup [(false, [.h z.1]), (false, [.b z.2])] : AV)) (show Ye d name = ((Qw d), false) from X8 h2 (rfl)).symm)
 ·
  have h2l : ((!(Q2 d))) = false := or_l h2
  have h2ln : (Q2 d) = true := Jn h2l
  have h2lns := Qdr h2ln
  have h2r : (decide ((Xc d name) < (0 : Int))) = false := or_r h2
  have h2rp := place_lt d name
  have h2rd := of_decide_eq_false h2r
  refine Qr ?_
  refine Qa ?_
  refine Qed [576] rfl ?_
  refine wdT 6 0 (.own false 576) (Qw d) (fun hw3 => ?_)
  have hl4 : List.length (Qw d) ≤ 1073741824 := Qx (hw3)
  refine rk Qb [(4, .q 1600 (delAt (Qw d) (Int.toNat (Xc d name)))), (5, .b true)] [4, 5, 6, 7, 19] [] [] [(4, .take true false (eL (delAt (Qw d) (Int.toNat (Xc d name)))))] (o1 (ob_take (delDir_a (Qw d) (i := (Xc d name)) (k := IntKind.i64.wrap ((Xc d name) + 1)) (by omega) (by first | omega | exact IntWalk.i64_in _ (by omega)) (by omega) (by omega)))) ?_
  refine Qq ?_
  exact Ze [1600] (congrArg (fun z => (.tup [(false, [.h z.1]), (false, [.b z.2])] : AV)) (show Ye d name = (delAt (Qw d) (Int.toNat (Xc d name)), true) from Q6 h2 (rfl)).symm)
def Qbw (_ : Nat) (a0 : Zo) (s0 : (List ByteArray)) : Rd ((List ByteArray)) ((List ByteArray)) ((List ByteArray)) := (bif (Jj a0) then (.next (s0 ++ [a0.2.2.2.1])) else (.next s0))
def Qbx (_ : Nat) (s0 : (List ByteArray)) : (List ByteArray) := s0
def Ue (q : (List Zo)) : (List ByteArray) := (Out.on (Xv Qbw Qbx q 0 []) (fun y0 => (Zh y0)))
theorem implQueryDirs_a (q : (List Zo)) : ACalls Tryz.prog 189 [.h q] (.h (Ue q)) := by
 refine Qt (tt := tt) Qb Tryz.func189 (fn := Tryz.f189) rfl (by unfold Jr; kernel_rfl) (Nat.le_of_ble_eq_true rfl) fun w0 F0 hG => ?_
 refine Qa ?_
 refine rk Qb [(2, .e 0)] [] [] [] [] (o0) ?_
 refine Qa ?_
 refine rk Qb [(3, .one (.slc (.own true 384) 1 []))] [] [] [] [] (o0) ?_
 refine Qa ?_
 refine Qa ?_
 refine rk Qb [(7, .h q), (8, .i (q.length : Int)), (9, .i 0)] [0] [] [] [(1, .val (.i (q.length : Int)))] (o1 (Qi (Xs q))) ?_
 refine wdT 7 0 .sh q (fun hw1 => ?_)
 have hl2 : List.length q ≤ 1073741824 := Qx (hw1)
 refine blk (fun (k0 : Nat) (s0 : (List ByteArray)) => [(3, .o 147201 s0), (9, .i ((k0 : Nat) : Int))]) [3, 9] (fun k0 s0 => []) [] (fun (y0 : (List ByteArray)) => [(3, .o 147351 y0)]) [3, 7, 8, 9] (fun y0 => []) [] (fun (k0 : Nat) (s0 : (List ByteArray)) => (Xv Qbw Qbx q 0 []) = Xv Qbw Qbx (List.drop k0 q) k0 s0 ∧ List.length s0 ≤ k0) (fun (y0 : (List ByteArray)) => (Xv Qbw Qbx q 0 []) = .brk y0) q.length [] (Yt [(384, 147201)] (by kernel_rfl)) ⟨rfl, (by simp)⟩ (fun k0 s0 hk0 hI0 => ?_) (fun k0 s0 hk0 hI0 => ?_) (fun y0 hD0 => ?_)
 ·
  have hA0_0 := hI0.2
  obtain ⟨a0, hx0⟩ := Yl (l := q) (i := k0) hk0
  refine Qa ?_
  refine rk Qb [(10, .b true)] [] [] [] [(0, .val (.b true))] (o1 (Qi (Qh (decide_eq_true (p := ((k0 : Nat) : Int) < (q.length : Int)) (by omega))))) ?_
  refine Qa ?_
  refine ckT ?_
  refine Qr ?_
  refine Qa ?_
  refine Xf ?_
  refine Qa ?_
  refine rk Qb [(5, .p 5 0)] [10] [(5, [.i a0.1, .i a0.2.1, .i a0.2.2.1, .s a0.2.2.2.1, .i a0.2.2.2.2.1, .i a0.2.2.2.2.2.1, .s a0.2.2.2.2.2.2])] [] [(0, .row [.i a0.1, .i a0.2.1, .i a0.2.2.1, .s a0.2.2.2.1, .i a0.2.2.2.2.1, .i a0.2.2.2.2.2.1, .s a0.2.2.2.2.2.2])] (o1 (Qy (X4 (i := ((k0 : Nat) : Int)) (by omega) rfl hx0))) ?_
  refine Qa ?_
  refine rk Qb [(14, .b (Jj a0))] [] [] [] [(1, .val (.b (Jj a0)))] (o1 (Qg (Qey a0))) ?_
  refine ck (Jj a0) (fun h3 => ?_) (fun h3 => ?_)
  ·
   refine wdT 3 0 (.own true 147201) s0 (fun hw4 => ?_)
   have hl5 : List.length s0 ≤ 1073741824 := Qx (hw4)
   refine rk Qb [(3, .one (.slc (.own true 1216) 1 ((eL s0) ++ [[.s a0.2.2.2.1]])))] [3, 5, 14] [] [5] [] (o1 (V9 (Wi (Xm s0) (Xm [a0.2.2.2.1]) (by first | omega | (simp only [List.length_cons, List.length_nil]; omega) | (simp; omega) | simp)))) ?_
   refine eqn [(3, .o 1216 (s0 ++ [a0.2.2.2.1]))] [3] [] [] (by rw [show ((eL s0) ++ [[.s a0.2.2.2.1]]) = (eL (s0 ++ [a0.2.2.2.1])) from Hj (rfl) (rfl)]; first | done | kernel_rfl) ?_
   refine rk Qb [(9, .i ((k0 + 1 : Nat) : Int))] [9] [] [] [(0, .val (.i ((k0 + 1 : Nat) : Int)))] (o1 (Qi (Km (Q8 k0 (by omega))))) ?_
   exact Exists.intro (s0 ++ [a0.2.2.2.1]) (And.intro (Yt [(1216, 147201)] (by kernel_rfl)) ⟨Xe hx0 (X8 h3 (rfl)) hI0.1, by first | omega | (simp; omega) | simp⟩)
  ·
   refine Qr ?_
   refine rk Qb [(9, .i ((k0 + 1 : Nat) : Int))] [5, 9, 14] [] [5] [(0, .val (.i ((k0 + 1 : Nat) : Int)))] (o1 (Qi (Km (Q8 k0 (by omega))))) ?_
   exact Exists.intro s0 (And.intro (Qd (by kernel_rfl)) ⟨Xe hx0 (Q6 h3 (rfl)) hI0.1, by first | omega | (simp; omega) | simp⟩)
 ·
  have hA0_0 := hI0.2
  refine Qa ?_
  refine rk Qb [(10, .b false)] [] [] [] [(0, .val (.b false))] (o1 (Qi (Qh (decide_eq_false (p := ((k0 : Nat) : Int) < (q.length : Int)) (by omega))))) ?_
  refine Qa ?_
  refine ckF ?_
  refine Xt ?_
  exact Exists.intro s0 (And.intro (Yt [(147201, 147351)] (by kernel_rfl)) (Ym hk0 (rfl) hI0.1))
 ·
  refine Qa ?_
  refine rk Qb [(2, .h (Zh y0))] [2, 3] [] [] [(1, .val (.h (Zh y0)))] (o1 (Qg (H7 y0))) ?_
  refine Qq ?_
  exact Ze [] (congrArg (fun z => (.h z : AV)) (show Ue q = (Zh y0) from Hk hD0 (rfl)).symm)
def Ul (name : ByteArray) (_ : Nat) (a0 : Zt) (s0 : (List ByteArray)) : Rd ((List ByteArray)) ((List ByteArray)) ((List ByteArray)) := (bif (Q0 (Ue a0.2) name) then (.next (s0 ++ [a0.1])) else (.next s0))
def Hq (_ : Nat) (s0 : (List ByteArray)) : (List ByteArray) := s0
def Y2 (d : (List Zt)) (name : ByteArray) : (List ByteArray) := (Out.on (Xv (Ul name) Hq d 0 []) (fun y0 => y0))
theorem implDependents_a (d : (List Zt)) (name : ByteArray) : ACalls Tryz.prog 142 [.h d, .s name] (.o 0 (Y2 d name)) := by
 refine Qt (tt := tt) Qb Tryz.func142 (fn := Tryz.f142) rfl (by unfold Jr; kernel_rfl) (Nat.le_of_ble_eq_true rfl) fun w0 F0 hG => ?_
 refine Qa ?_
 refine rk Qb [(4, .e 0)] [] [] [] [] (o0) ?_
 refine Qa ?_
 refine rk Qb [(5, .one (.slc (.own true 512) 1 []))] [] [] [] [] (o0) ?_
 refine Qa ?_
 refine Qa ?_
 refine rk Qb [(9, .h d), (10, .i (d.length : Int)), (11, .i 0)] [0] [] [] [(1, .val (.i (d.length : Int)))] (o1 (Qi (Xs d))) ?_
 refine wdT 9 0 .sh d (fun hw1 => ?_)
 have hl2 : List.length d ≤ 1073741824 := Qx (hw1)
 refine blk (fun (k0 : Nat) (s0 : (List ByteArray)) => [(5, .o 147202 s0), (11, .i ((k0 : Nat) : Int))]) [5, 11] (fun k0 s0 => []) [] (fun (y0 : (List ByteArray)) => [(5, .o 147352 y0)]) [1, 5, 9, 10, 11] (fun y0 => []) [] (fun (k0 : Nat) (s0 : (List ByteArray)) => (Xv (Ul name) Hq d 0 []) = Xv (Ul name) Hq (List.drop k0 d) k0 s0 ∧ List.length s0 ≤ k0) (fun (y0 : (List ByteArray)) => (Xv (Ul name) Hq d 0 []) = .brk y0) d.length [] (Yt [(512, 147202)] (by kernel_rfl)) ⟨rfl, (by simp)⟩ (fun k0 s0 hk0 hI0 => ?_) (fun k0 s0 hk0 hI0 => ?_) (fun y0 hD0 => ?_)
 ·
  have hA0_0 := hI0.2
  obtain ⟨a0, hx0⟩ := Yl (l := d) (i := k0) hk0
  refine Qa ?_
  refine rk Qb [(12, .b true)] [] [] [] [(0, .val (.b true))] (o1 (Qi (Qh (decide_eq_true (p := ((k0 : Nat) : Int) < (d.length : Int)) (by omega))))) ?_
  refine Qa ?_
  refine ckT ?_
  refine Qr ?_
  refine Qa ?_
  refine Xf ?_
  refine Qa ?_
  refine rk Qb [(7, .p 7 0)] [12] [(7, [.s a0.1, .h a0.2])] [] [(0, .row [.s a0.1, .h a0.2])] (o1 (Qy (X4 (i := ((k0 : Nat) : Int)) (by omega) rfl hx0))) ?_
  refine Qa ?_
  refine rk Qb [(19, .b (Q0 (Ue a0.2) name))] [] [] [] [(2, .val (.h (Ue a0.2))), (4, .val (.b (Q0 (Ue a0.2) name)))] (o2 (Qg (implQueryDirs_a a0.2)) (o1 (Qg (Vp (Ue a0.2) name)))) ?_
  refine ck (Q0 (Ue a0.2) name) (fun h3 => ?_) (fun h3 => ?_)
  ·
   refine wdT 5 0 (.own true 147202) s0 (fun hw4 => ?_)
   have hl5 : List.length s0 ≤ 1073741824 := Qx (hw4)
   refine rk Qb [(5, .one (.slc (.own true 1536) 1 ((eL s0) ++ [[.s a0.1]])))] [5, 7, 19] [] [7] [] (o1 (V9 (Wi (Xm s0) (Xm [a0.1]) (by first | omega | (simp only [List.length_cons, List.length_nil]; omega) | (simp; omega) | simp)))) ?_
   refine eqn [(5, .o 1536 (s0 ++ [a0.1]))] [5] [] [] (by rw [show ((eL s0) ++ [[.s a0.1]]) = (eL (s0 ++ [a0.1])) from Hj (rfl) (rfl)]; first | done | kernel_rfl) ?_
   refine rk Qb [(11, .i ((k0 + 1 : Nat) : Int))] [11] [] [] [(0, .val (.i ((k0 + 1 : Nat) : Int)))] (o1 (Qi (Km (Q8 k0 (by omega))))) ?_
   exact Exists.intro (s0 ++ [a0.1]) (And.intro (Yt [(1536, 147202)] (by kernel_rfl)) ⟨Xe hx0 (X8 h3 (rfl)) hI0.1, by first | omega | (simp; omega) | simp⟩)
  ·
   refine Qr ?_
   refine rk Qb [(11, .i ((k0 + 1 : Nat) : Int))] [7, 11, 19] [] [7] [(0, .val (.i ((k0 + 1 : Nat) : Int)))] (o1 (Qi (Km (Q8 k0 (by omega))))) ?_
   exact Exists.intro s0 (And.intro (Qd (by kernel_rfl)) ⟨Xe hx0 (Q6 h3 (rfl)) hI0.1, by first | omega | (simp; omega) | simp⟩)
 ·
  have hA0_0 := hI0.2
  refine Qa ?_
  refine rk Qb [(12, .b false)] [] [] [] [(0, .val (.b false))] (o1 (Qi (Qh (decide_eq_false (p := ((k0 : Nat) : Int) < (d.length : Int)) (by omega))))) ?_
  refine Qa ?_
  refine ckF ?_
  refine Xt ?_
  exact Exists.intro s0 (And.intro (Yt [(147202, 147352)] (by kernel_rfl)) (Ym hk0 (rfl) hI0.1))
 ·
  refine Qa ?_
  refine rk Qb [(4, .o 147352 y0)] [4, 5] [] [] [] (o0) ?_
  refine Qq ?_
  exact Ze [] (congrArg (fun z => (.o 0 z : AV)) (show Y2 d name = y0 from Hk hD0 (rfl)).symm)
def Jd (_ : Nat) (a1 : ByteArray) (s1 : (List ByteArray)) : Rd (Rd ((List ByteArray)) ((List ByteArray) × Int) ((List ByteArray))) ((List ByteArray)) ((List ByteArray)) := (bif (!(Q0 s1 a1)) then (.next (s1 ++ [a1])) else (.next s1))
def Ju (_ : Nat) (s1 : (List ByteArray)) : (List ByteArray) := s1
def Je (d : (List Zt)) (s0 : (List ByteArray) × Int) : Rd ((List ByteArray)) ((List ByteArray) × Int) ((List ByteArray)) := (bif decide (s0.2 < (s0.1.length : Int)) then (Out.on (Xv Jd Ju (Y2 d (nth s0.1 (Int.toNat s0.2))) 0 s0.1) (fun y1 => (.next (y1, (s0.2 + 1))))) else (.brk s0.1))
def Qp (d : (List Zt)) (names : (List ByteArray)) : (List ByteArray) := (Out.on (whlD (Je d) (List.length names + List.length d + 1) (names, 0)) (fun y0 => (Zh y0)))
theorem Qbf (nm : ByteArray) : ∀ (l : List Zt) (k : Nat) (s : List ByteArray), ∃ s', Xv (Ul nm) Hq l k s = .brk s' ∧ s'.length ≤ s.length + l.length ∧ ∀ x, x ∈ s' → x ∈ s ∨ x ∈ l.map (·.1)
  | [], k, s => ⟨s, rfl, by simp, fun x hx => .inl hx⟩
  | a :: l, k, s => by
    simp only [Xv, Ul]
    cases Q0 (Ue a.2) nm with
    | true =>
      obtain ⟨s', h1, h2, h3⟩ := Qbf nm l (k + 1) (s ++ [a.1])
      refine ⟨s', h1, by simp at h2 ⊢; omega, fun x hx => ?_⟩
      rcases h3 x hx with h | h
      · rcases List.mem_append.1 h with h | h
        · exact .inl h
        · exact .inr (by rw [List.mem_singleton.1 h]; simp)
      · exact .inr (List.mem_cons_of_mem _ h)
    | false =>
      obtain ⟨s', h1, h2, h3⟩ := Qbf nm l (k + 1) s
      refine ⟨s', h1, by simp at h2 ⊢; omega, fun x hx => (h3 x hx).imp id fun h => List.mem_cons_of_mem _ h⟩
theorem implDependents_len (d : List Zt) (nm : ByteArray) : List.length (Y2 d nm) ≤ List.length d := by
 obtain ⟨s', h1, h2, _⟩ := Qbf nm d 0 []
 unfold Y2
 rw [h1]
 exact (by simpa using h2 : s'.length ≤ d.length)
theorem Qet (d : List Zt) (nm : ByteArray) : ∀ x, x ∈ Y2 d nm → x ∈ d.map (·.1) := by
 obtain ⟨s', h1, _, h3⟩ := Qbf nm d 0 []
 unfold Y2
 rw [h1]
 intro x hx
 exact (h3 x hx).resolve_left (by simp)
theorem Vr (N : List ByteArray) : ∀ (l : List ByteArray) (k : Nat) (s : List ByteArray), (∀ x, x ∈ l → x ∈ N) → ∃ s', Xv Jd Ju l k s = .brk s' ∧ Fresh N s s'
 | [], k, s, _ => ⟨s, rfl, Fresh.refl N s⟩
 | a :: l, k, s, h => by
  simp only [Xv, Jd]
  cases hc : Q0 s a with
  | true =>
   simp only [Bool.not_true, cond_false]
   exact Vr N l (k + 1) s fun x hx => h x (List.mem_cons_of_mem _ hx)
  | false =>
   simp only [Bool.not_false, cond_true]
   obtain ⟨s', h1, h2⟩ := Vr N l (k + 1) (s ++ [a]) fun x hx => h x (List.mem_cons_of_mem _ hx)
   exact ⟨s', h1, (Fresh.one (fun hm => by rw [(contains_iff a s).2 hm] at hc; cases hc) (h a (List.mem_cons_self ..))).trans h2⟩
theorem Vs {d : List Zt} {names out y : List ByteArray} {nm : ByteArray} (hF : Fresh (List.map (·.1) d) names out) (hD : Xv Jd Ju (Y2 d nm) 0 out = .brk y) : Fresh (List.map (·.1) d) names y := by
 obtain ⟨s', h1, h2⟩ := Vr (List.map (·.1) d) (Y2 d nm) 0 out (Qet d nm)
 rw [h1] at hD
 obtain rfl : s' = y := by simpa using hD
 exact hF.trans h2
theorem Qej (d : List Zt) (names : List ByteArray) (hp : (List.length names : Int) + List.length d ≤ 1000000) : (whl (Je d) (List.length names + List.length d + 1) (names, 0)).isSome = true := by
  have h := work_some (N := List.map (·.1) d) (names := names) (f := Je d) (fun out i s' h0 hl hs => by
    rw [List.length_map] at hl
    unfold Je at hs
    by_cases hc : i < (out.length : Int)
    · simp only [decide_eq_true hc, cond_true] at hs
      obtain ⟨y, h1, h2⟩ := Vr (List.map (·.1) d) (Y2 d (nth out (Int.toNat i))) 0 out (Qet d _)
      rw [h1] at hs
      simp only [Out.on] at hs
      have hs := Rd.next.inj hs
      rw [← hs]
      exact ⟨hc, by first | rfl | exact IntWalk.i64_in _ (by omega), h2⟩
    · simp only [decide_eq_false hc, cond_false] at hs
      cases hs)
  rwa [List.length_map] at h
theorem Ut (d : (List Zt)) (names : (List ByteArray)) (hp : (List.length names : Int) + List.length d ≤ 1000000) : ACalls Tryz.prog 86 [.h d, .h names] (.h (Qp d names)) := by
 refine Qt (tt := tt) Qb Tryz.func86 (fn := Tryz.f86) rfl (by unfold Jr; kernel_rfl) (Nat.le_of_ble_eq_true rfl) fun w0 F0 hG => ?_
 refine Qa ?_
 refine rk Qb [(4, .e 0)] [] [] [] [] (o0) ?_
 refine Qa ?_
 refine rk Qb [(5, .o 640 names)] [1] [] [] [(1, .val (.o 0 names))] (o1 (Qg (cloneString_a names))) ?_
 refine Qa ?_
 refine Qa ?_
 refine rk Qb [(6, .i 0)] [] [] [] [] (o0) ?_
 refine blw (fun (s0 : (List ByteArray) × Int) => [(5, .o 147202 s0.1), (6, .i s0.2)]) [5, 6] (fun s0 => []) [] (fun (y0 : (List ByteArray)) => [(5, .o 147352 y0)]) [0, 5, 6] (fun y0 => []) [] (fun (k0 : Nat) (s0 : (List ByteArray) × Int) => whl (Je d) k0 s0 = some (whlD (Je d) (List.length names + List.length d + 1) (names, 0)) ∧ 0 ≤ s0.2 ∧ Fresh (List.map (·.1) d) names s0.1) (fun (y0 : (List ByteArray)) => (whlD (Je d) (List.length names + List.length d + 1) (names, 0)) = .brk y0 ∧ List.length y0 ≤ List.length names + List.length d) (List.length names + List.length d + 1) (names, 0) (Yt [(640, 147202)] (by kernel_rfl)) ⟨whl_some (Qej d names hp), (by first | exact Fresh.refl _ _ | omega), (by first | exact Fresh.refl _ _ | omega)⟩ (fun _ h => whl_zero h.1) (fun k0 s0 hI0 => ?_) (fun y0 hD0 => ?_)
 ·
  have hA0_0 := hI0.2.1
  have hA0_1 := hI0.2.2
  have hfl := fresh_len hA0_1; rw [List.length_map] at hfl
  have hdl := implDependents_len d (nth s0.1 (Int.toNat s0.2))
  refine Qa ?_
  refine Qa ?_
  refine rk Qb [(14, .b (decide (s0.2 < (s0.1.length : Int))))] [] [] [] [(2, .val (.i (s0.1.length : Int)))] (o1 (Qi (Xs s0.1))) ?_
  refine ck (decide (s0.2 < (s0.1.length : Int))) (fun h1 => ?_) (fun h1 => ?_)
  ·
   have h1d := of_decide_eq_true h1
   refine Qr ?_
   refine Qa ?_
   refine Xf ?_
   refine Qa ?_
   refine wdT 5 0 (.own true 147202) s0.1 (fun hw3 => ?_)
   have hl4 : List.length s0.1 ≤ 1073741824 := Qx (hw3)
   have hx2 : s0.1[(Int.toNat s0.2)]? = some (nth s0.1 (Int.toNat s0.2)) := Yj (by omega)
   refine rk Qb [(22, .o 1408 (Y2 d (nth s0.1 (Int.toNat s0.2)))), (23, .i ((Y2 d (nth s0.1 (Int.toNat s0.2))).length : Int)), (24, .i 0)] [14] [] [] [(3, .rowE [.s (nth s0.1 (Int.toNat s0.2))]), (5, .val (.o 0 (Y2 d (nth s0.1 (Int.toNat s0.2))))), (6, .val (.i ((Y2 d (nth s0.1 (Int.toNat s0.2))).length : Int)))] (o2 (Qy (X4 (i := s0.2) (by omega) rfl hx2)) (o2 (Qg (implDependents_a d (nth s0.1 (Int.toNat s0.2)))) (o1 (Qi (Xs (Y2 d (nth s0.1 (Int.toNat s0.2)))))))) ?_
   refine wdT 22 0 (.own true 1408) (Y2 d (nth s0.1 (Int.toNat s0.2))) (fun hw5 => ?_)
   have hl6 : List.length (Y2 d (nth s0.1 (Int.toNat s0.2))) ≤ 1073741824 := Qx (hw5)
   refine blk (fun (k1 : Nat) (s1 : (List ByteArray)) => [(5, .o 166402 s1), (24, .i ((k1 : Nat) : Int))]) [5, 24] (fun k1 s1 => []) [] (fun (y1 : (List ByteArray)) => [(5, .o 166552 y1)]) [5, 22, 23, 24] (fun y1 => []) [] (fun (k1 : Nat) (s1 : (List ByteArray)) => (Xv Jd Ju (Y2 d (nth s0.1 (Int.toNat s0.2))) 0 s0.1) = Xv Jd Ju (List.drop k1 (Y2 d (nth s0.1 (Int.toNat s0.2)))) k1 s1 ∧ List.length s1 ≤ s0.1.length + k1) (fun (y1 : (List ByteArray)) => (Xv Jd Ju (Y2 d (nth s0.1 (Int.toNat s0.2))) 0 s0.1) = .brk y1) ((Y2 d (nth s0.1 (Int.toNat s0.2))).length) s0.1 (Yt [(147202, 166402)] (by kernel_rfl)) ⟨rfl, (by simp)⟩ (fun k1 s1 hk1 hI1 => ?_) (fun k1 s1 hk1 hI1 => ?_) (fun y1 hD1 => ?_)
   ·
    have hA1_0 := hI1.2
    obtain ⟨a1, hx1⟩ := Yl (l := Y2 d (nth s0.1 (Int.toNat s0.2))) (i := k1) hk1
    refine Qa ?_
    refine rk Qb [(25, .b true)] [] [] [] [(0, .val (.b true))] (o1 (Qi (Qh (decide_eq_true (p := ((k1 : Nat) : Int) < ((Y2 d (nth s0.1 (Int.toNat s0.2))).length : Int)) (by omega))))) ?_
    refine Qa ?_
    refine ckT ?_
    refine Qr ?_
    refine Qa ?_
    refine Xf ?_
    refine Qa ?_
    refine rk Qb [(8, .s a1)] [25] [] [] [(0, .rowE [.s a1])] (o1 (Qy (X4 (i := ((k1 : Nat) : Int)) (by omega) rfl hx1))) ?_
    refine Qa ?_
    refine rk Qb [(31, .b (!(Q0 s1 a1)))] [] [] [] [(2, .val (.b (Q0 s1 a1)))] (o1 (Qg (Vp s1 a1))) ?_
    refine ck (!(Q0 s1 a1)) (fun h7 => ?_) (fun h7 => ?_)
    ·
     have h7n : (Q0 s1 a1) = false := Ug h7
     refine wdT 5 0 (.own true 166402) s1 (fun hw8 => ?_)
     have hl9 : List.length s1 ≤ 1073741824 := Qx (hw8)
     refine rk Qb [(5, .one (.slc (.own true 2240) 1 ((eL s1) ++ [[.s a1]])))] [5, 8, 31] [] [] [] (o1 (V9 (Wi (Xm s1) (Xm [a1]) (by first | omega | (simp only [List.length_cons, List.length_nil]; omega) | (simp; omega) | simp)))) ?_
     refine eqn [(5, .o 2240 (s1 ++ [a1]))] [5] [] [] (by rw [show ((eL s1) ++ [[.s a1]]) = (eL (s1 ++ [a1])) from Hj (rfl) (rfl)]; first | done | kernel_rfl) ?_
     refine rk Qb [(24, .i ((k1 + 1 : Nat) : Int))] [24] [] [] [(0, .val (.i ((k1 + 1 : Nat) : Int)))] (o1 (Qi (Km (Q8 k1 (by omega))))) ?_
     exact Exists.intro (s1 ++ [a1]) (And.intro (Yt [(2240, 166402)] (by kernel_rfl)) ⟨Xe hx1 (X8 h7 (rfl)) hI1.1, by first | omega | (simp; omega) | simp⟩)
    ·
     have h7n : (Q0 s1 a1) = true := Jn h7
     refine Qr ?_
     refine rk Qb [(24, .i ((k1 + 1 : Nat) : Int))] [8, 24, 31] [] [] [(0, .val (.i ((k1 + 1 : Nat) : Int)))] (o1 (Qi (Km (Q8 k1 (by omega))))) ?_
     exact Exists.intro s1 (And.intro (Qd (by kernel_rfl)) ⟨Xe hx1 (Q6 h7 (rfl)) hI1.1, by first | omega | (simp; omega) | simp⟩)
   ·
    have hA1_0 := hI1.2
    refine Qa ?_
    refine rk Qb [(25, .b false)] [] [] [] [(0, .val (.b false))] (o1 (Qi (Qh (decide_eq_false (p := ((k1 : Nat) : Int) < ((Y2 d (nth s0.1 (Int.toNat s0.2))).length : Int)) (by omega))))) ?_
    refine Qa ?_
    refine ckF ?_
    refine Xt ?_
    exact Exists.intro s1 (And.intro (Yt [(166402, 166552)] (by kernel_rfl)) (Ym hk1 (rfl) hI1.1))
   ·
    refine rk Qb [(6, .i (s0.2 + 1))] [6] [] [] [(1, .val (.i (s0.2 + 1)))] (o1 (Qi (Km (IntWalk.i64_in (s0.2 + 1) (by omega))))) ?_
    exact Exists.intro (y1, (s0.2 + 1)) (And.intro (Yt [(166552, 147202)] (by kernel_rfl)) ⟨whl_next (X8 h1 (Hk hD1 (rfl))) hI0.1, (by first | omega | exact Vs (by assumption) hD1 | exact Vs (by assumption) hD1.1), (by first | omega | exact Vs (by assumption) hD1 | exact Vs (by assumption) hD1.1)⟩)
  ·
   have h1d := of_decide_eq_false h1
   refine Xt ?_
   exact Exists.intro s0.1 (And.intro (Yt [(147202, 147352)] (by kernel_rfl)) ⟨whl_brk (Q6 h1 (rfl)) hI0.1, by first | omega | (simp only [List.length_set]; omega)⟩)
 ·
  have hD0_0 := hD0.2
  refine Qa ?_
  refine rk Qb [(4, .h (Zh y0))] [4, 5] [] [] [(1, .val (.h (Zh y0)))] (o1 (Qg (H7 y0))) ?_
  refine Qq ?_
  exact Ze [] (congrArg (fun z => (.h z : AV)) (show Qp d names = (Zh y0) from Hk hD0.1 (rfl)).symm)
def Qag (_ : Nat) (a0 : AttrD) (s0 : (List ByteArray)) : Rd ((List ByteArray)) ((List ByteArray)) ((List ByteArray)) := (.next (s0 ++ [a0.1]))
def Qah (_ : Nat) (s0 : (List ByteArray)) : (List ByteArray) := s0
def Qk (f : Zb) : (List ByteArray) := (Out.on (Xv Qag Qah f.2.2.2.2 0 []) (fun y0 => y0))
theorem attrNames_len (f : Zb) : (Qk f).length = f.2.2.2.2.length := by
 unfold Qk
 rw [forL_map (f := Qag) (g := fun a : AttrD => a.1) (fun _ _ _ => rfl)]
 simp [Out.on, Qah]
theorem implAttrNames_a (f : Zb) : ACalls Tryz.prog 252 [.a [.i f.1, .i f.2.1, .b f.2.2.1, .i f.2.2.2.1, .h f.2.2.2.2]] (.o 0 (Qk f)) := by
 refine Qt (tt := tt) Qb Tryz.func252 (fn := Tryz.f252) rfl (by unfold Jr; kernel_rfl) (Nat.le_of_ble_eq_true rfl) fun w0 F0 hG => ?_
 refine Qa ?_
 refine rk Qb [(1, .p 1 0), (2, .e 0)] [0] [(1, [.i f.1, .i f.2.1, .b f.2.2.1, .i f.2.2.2.1, .h f.2.2.2.2])] [] [] (o0) ?_
 refine Qa ?_
 refine rk Qb [(3, .one (.slc (.own true 384) 1 []))] [] [] [] [] (o0) ?_
 refine Qa ?_
 refine Qa ?_
 refine rk Qb [(8, .h f.2.2.2.2), (9, .i (f.2.2.2.2.length : Int)), (10, .i 0)] [1] [] [1] [(2, .val (.i (f.2.2.2.2.length : Int)))] (o1 (Qi (Xs f.2.2.2.2))) ?_
 refine wdT 8 0 .sh f.2.2.2.2 (fun hw1 => ?_)
 have hl2 : List.length f.2.2.2.2 ≤ 1073741824 := Qx (hw1)
 refine blk (fun (k0 : Nat) (s0 : (List ByteArray)) => [(3, .o 147201 s0), (10, .i ((k0 : Nat) : Int))]) [3, 10] (fun k0 s0 => []) [] (fun (y0 : (List ByteArray)) => [(3, .o 147351 y0)]) [3, 8, 9, 10] (fun y0 => []) [] (fun (k0 : Nat) (s0 : (List ByteArray)) => (Xv Qag Qah f.2.2.2.2 0 []) = Xv Qag Qah (List.drop k0 f.2.2.2.2) k0 s0 ∧ List.length s0 ≤ k0) (fun (y0 : (List ByteArray)) => (Xv Qag Qah f.2.2.2.2 0 []) = .brk y0) f.2.2.2.2.length [] (Yt [(384, 147201)] (by kernel_rfl)) ⟨rfl, (by simp)⟩ (fun k0 s0 hk0 hI0 => ?_) (fun k0 s0 hk0 hI0 => ?_) (fun y0 hD0 => ?_)
 ·
  have hA0_0 := hI0.2
  obtain ⟨a0, hx0⟩ := Yl (l := f.2.2.2.2) (i := k0) hk0
  refine Qa ?_
  refine rk Qb [(11, .b true)] [] [] [] [(0, .val (.b true))] (o1 (Qi (Qh (decide_eq_true (p := ((k0 : Nat) : Int) < (f.2.2.2.2.length : Int)) (by omega))))) ?_
  refine Qa ?_
  refine ckT ?_
  refine Qr ?_
  refine Qa ?_
  refine Xf ?_
  refine Qa ?_
  refine rk Qb [(5, .p 5 0)] [11] [(5, [.s a0.1, .i a0.2.1, .i a0.2.2.1, .s a0.2.2.2])] [] [(0, .row [.s a0.1, .i a0.2.1, .i a0.2.2.1, .s a0.2.2.2])] (o1 (Qy (X4 (i := ((k0 : Nat) : Int)) (by omega) rfl hx0))) ?_
  refine wdT 3 0 (.own true 147201) s0 (fun hw3 => ?_)
  have hl4 : List.length s0 ≤ 1073741824 := Qx (hw3)
  refine rk Qb [(3, .one (.slc (.own true 1152) 1 ((eL s0) ++ [[.s a0.1]])))] [3, 5] [] [5] [] (o1 (V9 (Wi (Xm s0) (Xm [a0.1]) (by first | omega | (simp only [List.length_cons, List.length_nil]; omega) | (simp; omega) | simp)))) ?_
  refine eqn [(3, .o 1152 (s0 ++ [a0.1]))] [3] [] [] (by rw [show ((eL s0) ++ [[.s a0.1]]) = (eL (s0 ++ [a0.1])) from Hj (rfl) (rfl)]; first | done | kernel_rfl) ?_
  refine rk Qb [(10, .i ((k0 + 1 : Nat) : Int))] [10] [] [] [(0, .val (.i ((k0 + 1 : Nat) : Int)))] (o1 (Qi (Km (Q8 k0 (by omega))))) ?_
  exact Exists.intro (s0 ++ [a0.1]) (And.intro (Yt [(1152, 147201)] (by kernel_rfl)) ⟨Xe hx0 (rfl) hI0.1, by first | omega | (simp; omega) | simp⟩)
 ·
  have hA0_0 := hI0.2
  refine Qa ?_
  refine rk Qb [(11, .b false)] [] [] [] [(0, .val (.b false))] (o1 (Qi (Qh (decide_eq_false (p := ((k0 : Nat) : Int) < (f.2.2.2.2.length : Int)) (by omega))))) ?_
  refine Qa ?_
  refine ckF ?_
  refine Xt ?_
  exact Exists.intro s0 (And.intro (Yt [(147201, 147351)] (by kernel_rfl)) (Ym hk0 (rfl) hI0.1))
 ·
  refine Qa ?_
  refine rk Qb [(2, .o 147351 y0)] [2, 3] [] [] [] (o0) ?_
  refine Qq ?_
  exact Ze [] (congrArg (fun z => (.o 0 z : AV)) (show Qk f = y0 from Hk hD0 (rfl)).symm)
def H2 (a_ : Zb) (b : Zb) (k0 : Nat) (s0 : (List ByteArray)) : Rd ((List ByteArray)) ((List ByteArray)) ((List ByteArray)) := (bif (!(((Xa a_ (nth (Qk a_ ++ (Qk b)) k0)).1 == (Xa b (nth (Qk a_ ++ (Qk b)) k0)).1) && (((Xa a_ (nth (Qk a_ ++ (Qk b)) k0)).2.1 == (Xa b (nth (Qk a_ ++ (Qk b)) k0)).2.1) && ((((Xa a_ (nth (Qk a_ ++ (Qk b)) k0)).2.2).toList == ((Xa b (nth (Qk a_ ++ (Qk b)) k0)).2.2).toList) && true)))) then (.next (s0 ++ [(nth (Qk a_ ++ (Qk b)) k0)])) else (.next s0))
def H3 (_ : Nat) (s0 : (List ByteArray)) : (List ByteArray) := s0
def J7 (a_ : Zb) (b : Zb) : (List ByteArray) := (Out.on (Hu (H2 a_ b) H3 (Int.toNat (((Qk a_).length + (Qk b).length) : Int)) 0 []) (fun y0 => (Zh y0)))
theorem implChangedAttrs_a (a_ : Zb) (b : Zb) (hp : (List.length a_.2.2.2.2 : Int) + List.length b.2.2.2.2 ≤ 1073741000) : ACalls Tryz.prog 226 [.a [.i a_.1, .i a_.2.1, .b a_.2.2.1, .i a_.2.2.2.1, .h a_.2.2.2.2], .a [.i b.1, .i b.2.1, .b b.2.2.1, .i b.2.2.2.1, .h b.2.2.2.2]] (.h (J7 a_ b)) := by
 refine Qt (tt := tt) Qb Tryz.func226 (fn := Tryz.f226) rfl (by unfold Jr; kernel_rfl) (Nat.le_of_ble_eq_true rfl) fun w0 F0 hG => ?_
 have hn1 := attrNames_len a_
 have hn2 := attrNames_len b
 refine Qa ?_
 refine rk Qb [(2, .p 2 0), (3, .p 3 0), (4, .e 0)] [0, 1] [(2, [.i a_.1, .i a_.2.1, .b a_.2.2.1, .i a_.2.2.2.1, .h a_.2.2.2.2]), (3, [.i b.1, .i b.2.1, .b b.2.2.1, .i b.2.2.2.1, .h b.2.2.2.2])] [] [] (o0) ?_
 refine Qa ?_
 refine rk Qb [(5, .one (.slc (.own true 512) 1 []))] [] [] [] [] (o0) ?_
 refine Qa ?_
 refine Qa ?_
 refine rd' Qb Js [(13, .one (.slc (.own true 832) 1 ((eL (Qk a_)) ++ (eL (Qk b))))), (14, .i (((Qk a_).length + (Qk b).length) : Int)), (15, .i 0)] [] [] [] [(1, .val (.o 0 (Qk a_))), (3, .val (.o 0 (Qk b))), (5, .val (.i (((Qk a_).length + (Qk b).length) : Int)))] (o2 (Qg (implAttrNames_a a_)) (o2 (Qg (implAttrNames_a b)) (o2 (V9 (Wi (Xm (Qk a_)) (Xm (Qk b)) (by first | omega | (simp only [List.length_cons, List.length_nil]; omega) | (simp; omega) | simp))) (o1 (Qi (show .i ((((eL (Qk a_)) ++ (eL (Qk b))) : List (List PV)).length : Int) = .i (((Qk a_).length + (Qk b).length) : Int) from by simp [Xm])))))) ?_
 refine eqn [(13, .o 832 (Qk a_ ++ (Qk b)))] [13] [] [] (by rw [show ((eL (Qk a_)) ++ (eL (Qk b))) = (eL (Qk a_ ++ (Qk b))) from Hj (rfl) (rfl)]; first | done | kernel_rfl) ?_
 refine blk (fun (k0 : Nat) (s0 : (List ByteArray)) => [(5, .o 147203 s0), (15, .i ((k0 : Nat) : Int))]) [5, 15] (fun k0 s0 => []) [] (fun (y0 : (List ByteArray)) => [(5, .o 147353 y0)]) [2, 3, 5, 13, 14, 15] (fun y0 => []) [2, 3] (fun (k0 : Nat) (s0 : (List ByteArray)) => (Hu (H2 a_ b) H3 (Int.toNat (((Qk a_).length + (Qk b).length) : Int)) 0 []) = Hu (H2 a_ b) H3 ((Int.toNat (((Qk a_).length + (Qk b).length) : Int)) - k0) k0 s0 ∧ List.length s0 ≤ k0) (fun (y0 : (List ByteArray)) => (Hu (H2 a_ b) H3 (Int.toNat (((Qk a_).length + (Qk b).length) : Int)) 0 []) = .brk y0) (Int.toNat (((Qk a_).length + (Qk b).length) : Int)) [] (Yt [(512, 147203)] (by kernel_rfl)) ⟨rfl, (by simp)⟩ (fun k0 s0 hk0 hI0 => ?_) (fun k0 s0 hk0 hI0 => ?_) (fun y0 hD0 => ?_)
 ·
  have hA0_0 := hI0.2
  refine Qa ?_
  refine rk Qb [(16, .b true)] [] [] [] [(0, .val (.b true))] (o1 (Qi (Qh (decide_eq_true (p := ((k0 : Nat) : Int) < (((Qk a_).length + (Qk b).length) : Int)) (by omega))))) ?_
  refine Qa ?_
  refine ckT ?_
  refine Qr ?_
  refine Qa ?_
  refine Xf ?_
  refine Qa ?_
  refine wdT 13 0 (.own true 832) (Qk a_ ++ (Qk b)) (fun hw2 => ?_)
  have hl3 : List.length (Qk a_ ++ (Qk b)) ≤ 1073741824 := Qx (hw2)
  have hx1 : (Qk a_ ++ (Qk b))[k0]? = some (nth (Qk a_ ++ (Qk b)) k0) := Yj (by first | omega | (rw [List.length_append]; omega))
  refine rk Qb [(7, .s (nth (Qk a_ ++ (Qk b)) k0))] [16] [] [] [(0, .rowE [.s (nth (Qk a_ ++ (Qk b)) k0)])] (o1 (Qy (X4 (i := ((k0 : Nat) : Int)) (by omega) rfl hx1))) ?_
  refine Qa ?_
  refine rd' Qb Js [(25, .b (!(((Xa a_ (nth (Qk a_ ++ (Qk b)) k0)).1 == (Xa b (nth (Qk a_ ++ (Qk b)) k0)).1) && (((Xa a_ (nth (Qk a_ ++ (Qk b)) k0)).2.1 == (Xa b (nth (Qk a_ ++ (Qk b)) k0)).2.1) && ((((Xa a_ (nth (Qk a_ ++ (Qk b)) k0)).2.2).toList == ((Xa b (nth (Qk a_ ++ (Qk b)) k0)).2.2).toList) && true)))))] [] [] [] [(2, .val (.a [.i ((Xa a_ (nth (Qk a_ ++ (Qk b)) k0)).1), .i ((Xa a_ (nth (Qk a_ ++ (Qk b)) k0)).2.1), .s ((Xa a_ (nth (Qk a_ ++ (Qk b)) k0)).2.2)])), (5, .val (.a [.i ((Xa b (nth (Qk a_ ++ (Qk b)) k0)).1), .i ((Xa b (nth (Qk a_ ++ (Qk b)) k0)).2.1), .s ((Xa b (nth (Qk a_ ++ (Qk b)) k0)).2.2)]))] (o2 (Qg (Qcu a_ (nth (Qk a_ ++ (Qk b)) k0))) (o1 (Qg (Qcu b (nth (Qk a_ ++ (Qk b)) k0))))) ?_
  refine ck (!(((Xa a_ (nth (Qk a_ ++ (Qk b)) k0)).1 == (Xa b (nth (Qk a_ ++ (Qk b)) k0)).1) && (((Xa a_ (nth (Qk a_ ++ (Qk b)) k0)).2.1 == (Xa b (nth (Qk a_ ++ (Qk b)) k0)).2.1) && ((((Xa a_ (nth (Qk a_ ++ (Qk b)) k0)).2.2).toList == ((Xa b (nth (Qk a_ ++ (Qk b)) k0)).2.2).toList) && true)))) (fun h4 => ?_) (fun h4 => ?_)
  ·
   refine wdT 5 0 (.own true 147203) s0 (fun hw5 => ?_)
   have hl6 : List.length s0 ≤ 1073741824 := Qx (hw5)
   refine rk Qb [(5, .one (.slc (.own true 1856) 1 ((eL s0) ++ [[.s (nth (Qk a_ ++ (Qk b)) k0)]])))] [5, 7, 25] [] [] [] (o1 (V9 (Wi (Xm s0) (Xm [(nth (Qk a_ ++ (Qk b)) k0)]) (by first | omega | (simp only [List.length_cons, List.length_nil]; omega) | (simp; omega) | simp)))) ?_
   refine eqn [(5, .o 1856 (s0 ++ [(nth (Qk a_ ++ (Qk b)) k0)]))] [5] [] [] (by rw [show ((eL s0) ++ [[.s (nth (Qk a_ ++ (Qk b)) k0)]]) = (eL (s0 ++ [(nth (Qk a_ ++ (Qk b)) k0)])) from Hj (rfl) (rfl)]; first | done | kernel_rfl) ?_
   refine rk Qb [(15, .i ((k0 + 1 : Nat) : Int))] [15] [] [] [(0, .val (.i ((k0 + 1 : Nat) : Int)))] (o1 (Qi (Km (Q8 k0 (by omega))))) ?_
   exact Exists.intro (s0 ++ [(nth (Qk a_ ++ (Qk b)) k0)]) (And.intro (Yt [(1856, 147203)] (by kernel_rfl)) ⟨Vh hk0 (X8 h4 (rfl)) hI0.1, by first | omega | (simp; omega) | simp⟩)
  ·
   have h4n : (((Xa a_ (nth (Qk a_ ++ (Qk b)) k0)).1 == (Xa b (nth (Qk a_ ++ (Qk b)) k0)).1) && (((Xa a_ (nth (Qk a_ ++ (Qk b)) k0)).2.1 == (Xa b (nth (Qk a_ ++ (Qk b)) k0)).2.1) && ((((Xa a_ (nth (Qk a_ ++ (Qk b)) k0)).2.2).toList == ((Xa b (nth (Qk a_ ++ (Qk b)) k0)).2.2).toList) && true))) = true := Jn h4
   have h4nl : (((Xa a_ (nth (Qk a_ ++ (Qk b)) k0)).1 == (Xa b (nth (Qk a_ ++ (Qk b)) k0)).1)) = true := and_l h4n
   have h4nld := eq_of_beq h4nl
   have h4nr : ((((Xa a_ (nth (Qk a_ ++ (Qk b)) k0)).2.1 == (Xa b (nth (Qk a_ ++ (Qk b)) k0)).2.1) && ((((Xa a_ (nth (Qk a_ ++ (Qk b)) k0)).2.2).toList == ((Xa b (nth (Qk a_ ++ (Qk b)) k0)).2.2).toList) && true))) = true := and_r h4n
   have h4nrl : (((Xa a_ (nth (Qk a_ ++ (Qk b)) k0)).2.1 == (Xa b (nth (Qk a_ ++ (Qk b)) k0)).2.1)) = true := and_l h4nr
   have h4nrld := eq_of_beq h4nrl
   refine Qr ?_
   refine rk Qb [(15, .i ((k0 + 1 : Nat) : Int))] [7, 15, 25] [] [] [(0, .val (.i ((k0 + 1 : Nat) : Int)))] (o1 (Qi (Km (Q8 k0 (by omega))))) ?_
   exact Exists.intro s0 (And.intro (Qd (by kernel_rfl)) ⟨Vh hk0 (Q6 h4 (rfl)) hI0.1, by first | omega | (simp; omega) | simp⟩)
 ·
  have hA0_0 := hI0.2
  refine Qa ?_
  refine rk Qb [(16, .b false)] [] [] [] [(0, .val (.b false))] (o1 (Qi (Qh (decide_eq_false (p := ((k0 : Nat) : Int) < (((Qk a_).length + (Qk b).length) : Int)) (by omega))))) ?_
  refine Qa ?_
  refine ckF ?_
  refine Xt ?_
  exact Exists.intro s0 (And.intro (Yt [(147203, 147353)] (by kernel_rfl)) (Qbu hk0 (rfl) hI0.1))
 ·
  refine Qa ?_
  refine rk Qb [(4, .h (Zh y0))] [4, 5] [] [] [(1, .val (.h (Zh y0)))] (o1 (Qg (H7 y0))) ?_
  refine Qq ?_
  exact Ze [] (congrArg (fun z => (.h z : AV)) (show J7 a_ b = (Zh y0) from Hk hD0 (rfl)).symm)
def Qbg (_ : Nat) (a0 : Zo) (s0 : (List ByteArray)) : Rd ((List ByteArray)) ((List ByteArray)) ((List ByteArray)) := (bif ((a0.1 == (2 : Int)) || ((a0.1 == (3 : Int)) || (a0.1 == (4 : Int)))) then (.next (s0 ++ [a0.2.2.2.1])) else (.next s0))
def Qbh (_ : Nat) (s0 : (List ByteArray)) : (List ByteArray) := s0
def K2 (q : (List Zo)) : (List ByteArray) := (Out.on (Xv Qbg Qbh q 0 []) (fun y0 => (Zh y0)))
theorem implQueryAttrs_a (q : (List Zo)) : ACalls Tryz.prog 227 [.h q] (.h (K2 q)) := by
 refine Qt (tt := tt) Qb Tryz.func227 (fn := Tryz.f227) rfl (by unfold Jr; kernel_rfl) (Nat.le_of_ble_eq_true rfl) fun w0 F0 hG => ?_
 refine Qa ?_
 refine rk Qb [(2, .e 0)] [] [] [] [] (o0) ?_
 refine Qa ?_
 refine rk Qb [(3, .one (.slc (.own true 384) 1 []))] [] [] [] [] (o0) ?_
 refine Qa ?_
 refine Qa ?_
 refine rk Qb [(7, .h q), (8, .i (q.length : Int)), (9, .i 0)] [0] [] [] [(1, .val (.i (q.length : Int)))] (o1 (Qi (Xs q))) ?_
 refine wdT 7 0 .sh q (fun hw1 => ?_)
 have hl2 : List.length q ≤ 1073741824 := Qx (hw1)
 refine blk (fun (k0 : Nat) (s0 : (List ByteArray)) => [(3, .o 147201 s0), (9, .i ((k0 : Nat) : Int))]) [3, 9] (fun k0 s0 => []) [] (fun (y0 : (List ByteArray)) => [(3, .o 147351 y0)]) [3, 7, 8, 9] (fun y0 => []) [] (fun (k0 : Nat) (s0 : (List ByteArray)) => (Xv Qbg Qbh q 0 []) = Xv Qbg Qbh (List.drop k0 q) k0 s0 ∧ List.length s0 ≤ k0) (fun (y0 : (List ByteArray)) => (Xv Qbg Qbh q 0 []) = .brk y0) q.length [] (Yt [(384, 147201)] (by kernel_rfl)) ⟨rfl, (by simp)⟩ (fun k0 s0 hk0 hI0 => ?_) (fun k0 s0 hk0 hI0 => ?_) (fun y0 hD0 => ?_)
 ·
  have hA0_0 := hI0.2
  obtain ⟨a0, hx0⟩ := Yl (l := q) (i := k0) hk0
  refine Qa ?_
  refine rk Qb [(10, .b true)] [] [] [] [(0, .val (.b true))] (o1 (Qi (Qh (decide_eq_true (p := ((k0 : Nat) : Int) < (q.length : Int)) (by omega))))) ?_
  refine Qa ?_
  refine ckT ?_
  refine Qr ?_
  refine Qa ?_
  refine Xf ?_
  refine Qa ?_
  refine rk Qb [(5, .p 5 0)] [10] [(5, [.i a0.1, .i a0.2.1, .i a0.2.2.1, .s a0.2.2.2.1, .i a0.2.2.2.2.1, .i a0.2.2.2.2.2.1, .s a0.2.2.2.2.2.2])] [] [(0, .row [.i a0.1, .i a0.2.1, .i a0.2.2.1, .s a0.2.2.2.1, .i a0.2.2.2.2.1, .i a0.2.2.2.2.2.1, .s a0.2.2.2.2.2.2])] (o1 (Qy (X4 (i := ((k0 : Nat) : Int)) (by omega) rfl hx0))) ?_
  refine Qa ?_
  refine jn [(25, .b ((a0.1 == (2 : Int)) || ((a0.1 == (3 : Int)) || (a0.1 == (4 : Int)))))] [] [] [] (a0.1 == (2 : Int)) (fun h3 => ?_) (fun h3 => ?_) ?_
  ·
   refine rk Qb [(25, .b true)] [] [] [] [(2, .val (.b true))] (o1 (Qi (Qh h3))) ?_
   exact ⟨rfl, Qd (by rw [h3]; first | done | kernel_rfl)⟩
  ·
   refine X9 (a0.1 == (3 : Int)) (fun h4 => ?_) (fun h4 => ?_)
   ·
    refine rk Qb [(25, .b true)] [] [] [] [(2, .val (.b false)), (6, .val (.b true))] (o2 (Qi (Qh h3)) (o1 (Qi (Qh h4)))) ?_
    exact ⟨rfl, Qd (by rw [h3, h4]; first | done | kernel_rfl)⟩
   ·
    refine rk Qb [(25, .b (a0.1 == (4 : Int)))] [] [] [] [(2, .val (.b false)), (6, .val (.b false))] (o2 (Qi (Qh h3)) (o1 (Qi (Qh h4)))) ?_
    exact ⟨rfl, Qd (by rw [h3, h4]; first | done | kernel_rfl)⟩
  refine ck ((a0.1 == (2 : Int)) || ((a0.1 == (3 : Int)) || (a0.1 == (4 : Int)))) (fun h5 => ?_) (fun h5 => ?_)
  ·
   refine wdT 3 0 (.own true 147201) s0 (fun hw6 => ?_)
   have hl7 : List.length s0 ≤ 1073741824 := Qx (hw6)
   refine rk Qb [(3, .one (.slc (.own true 1920) 1 ((eL s0) ++ [[.s a0.2.2.2.1]])))] [3, 5, 25] [] [5] [] (o1 (V9 (Wi (Xm s0) (Xm [a0.2.2.2.1]) (by first | omega | (simp only [List.length_cons, List.length_nil]; omega) | (simp; omega) | simp)))) ?_
   refine eqn [(3, .o 1920 (s0 ++ [a0.2.2.2.1]))] [3] [] [] (by rw [show ((eL s0) ++ [[.s a0.2.2.2.1]]) = (eL (s0 ++ [a0.2.2.2.1])) from Hj (rfl) (rfl)]; first | done | kernel_rfl) ?_
   refine rk Qb [(9, .i ((k0 + 1 : Nat) : Int))] [9] [] [] [(0, .val (.i ((k0 + 1 : Nat) : Int)))] (o1 (Qi (Km (Q8 k0 (by omega))))) ?_
   exact Exists.intro (s0 ++ [a0.2.2.2.1]) (And.intro (Yt [(1920, 147201)] (by kernel_rfl)) ⟨Xe hx0 (X8 h5 (rfl)) hI0.1, by first | omega | (simp; omega) | simp⟩)
  ·
   have h5l : ((a0.1 == (2 : Int))) = false := or_l h5
   have h5ld := Zz h5l
   have h5r : (((a0.1 == (3 : Int)) || (a0.1 == (4 : Int)))) = false := or_r h5
   have h5rl : ((a0.1 == (3 : Int))) = false := or_l h5r
   have h5rld := Zz h5rl
   have h5rr : ((a0.1 == (4 : Int))) = false := or_r h5r
   have h5rrd := Zz h5rr
   refine Qr ?_
   refine rk Qb [(9, .i ((k0 + 1 : Nat) : Int))] [5, 9, 25] [] [5] [(0, .val (.i ((k0 + 1 : Nat) : Int)))] (o1 (Qi (Km (Q8 k0 (by omega))))) ?_
   exact Exists.intro s0 (And.intro (Qd (by kernel_rfl)) ⟨Xe hx0 (Q6 h5 (rfl)) hI0.1, by first | omega | (simp; omega) | simp⟩)
 ·
  have hA0_0 := hI0.2
  refine Qa ?_
  refine rk Qb [(10, .b false)] [] [] [] [(0, .val (.b false))] (o1 (Qi (Qh (decide_eq_false (p := ((k0 : Nat) : Int) < (q.length : Int)) (by omega))))) ?_
  refine Qa ?_
  refine ckF ?_
  refine Xt ?_
  exact Exists.intro s0 (And.intro (Yt [(147201, 147351)] (by kernel_rfl)) (Ym hk0 (rfl) hI0.1))
 ·
  refine Qa ?_
  refine rk Qb [(2, .h (Zh y0))] [2, 3] [] [] [(1, .val (.h (Zh y0)))] (o1 (Qg (H7 y0))) ?_
  refine Qq ?_
  exact Ze [] (congrArg (fun z => (.h z : AV)) (show K2 q = (Zh y0) from Hk hD0 (rfl)).symm)
def Ky (name : ByteArray) (q0 : (List ByteArray)) : Bool := (Q0 q0 name)
theorem Qfa (name : ByteArray) (q0 : (List ByteArray)) : ACalls Tryz.prog 229 [.s name, .one (.rptr .sh [.h q0])] (.b (Ky name q0)) := by
 refine Qt (tt := tt) Qb Tryz.func229 (fn := Tryz.f229) rfl (by unfold Jr; kernel_rfl) (Nat.le_of_ble_eq_true rfl) fun w0 F0 hG => ?_
 refine Qa ?_
 refine rk Qb [(3, .b false)] [] [] [] [] (o0) ?_
 refine Qa ?_
 refine rk Qb [(3, .b (Q0 q0 name))] [0, 1, 3] [] [] [(2, .val (.b (Q0 q0 name)))] (o1 (Qg (Vp q0 name))) ?_
 refine Qq ?_
 exact Ze [] (congrArg (fun z => (.b z : AV)) (show Ky name q0 = (Q0 q0 name) from rfl).symm)
def Y8 (c0 : (List ByteArray)) (k0 : Nat) (a0 : ByteArray) (_ : Unit) : Rd (Int) (Unit) (Unit) := (bif (Ky a0 c0) then (.ret ((k0 : Nat) : Int)) else (.next ()))
def Y9 (_ : Nat) (_ : Unit) : Unit := ()
def Yd (s_ : (List ByteArray)) (c0 : (List ByteArray)) : Int := (Out.on (Xv (Y8 c0) Y9 s_ 0 ()) (fun _ => -1))
theorem Hf (s_ : (List ByteArray)) (c0 : (List ByteArray)) : ACalls Tryz.prog 253 [.h s_, .one (.fnr 229 [[.h c0]])] (.i (Yd s_ c0)) := by
 refine Qt (tt := tt) Qb Tryz.func253 (fn := Tryz.f253) rfl (by unfold Jr; kernel_rfl) (Nat.le_of_ble_eq_true rfl) fun w0 F0 hG => ?_
 refine Qa ?_
 refine rk Qb [(4, .i 0)] [] [] [] [] (o0) ?_
 refine Qa ?_
 refine Qa ?_
 refine rk Qb [(7, .i (s_.length : Int)), (8, .i 0)] [] [] [] [(1, .val (.i (s_.length : Int)))] (o1 (Qi (Xs s_))) ?_
 refine wdT 0 0 .sh s_ (fun hw1 => ?_)
 have hl2 : List.length s_ ≤ 1073741824 := Qx (hw1)
 refine blk (fun (k0 : Nat) (s0 : Unit) => [(8, .i ((k0 : Nat) : Int))]) [8] (fun k0 s0 => []) [] (fun (y0 : Unit) => []) [0, 1, 7, 8] (fun y0 => []) [] (fun (k0 : Nat) (s0 : Unit) => (Xv (Y8 c0) Y9 s_ 0 ()) = Xv (Y8 c0) Y9 (List.drop k0 s_) k0 s0) (fun (y0 : Unit) => (Xv (Y8 c0) Y9 s_ 0 ()) = .brk y0) s_.length () (Qd (by kernel_rfl)) rfl (fun k0 s0 hk0 hI0 => ?_) (fun k0 s0 hk0 hI0 => ?_) (fun y0 hD0 => ?_)
 ·
  obtain ⟨a0, hx0⟩ := Yl (l := s_) (i := k0) hk0
  refine Qa ?_
  refine rk Qb [(9, .b true)] [] [] [] [(0, .val (.b true))] (o1 (Qi (Qh (decide_eq_true (p := ((k0 : Nat) : Int) < (s_.length : Int)) (by omega))))) ?_
  refine Qa ?_
  refine ckT ?_
  refine Qr ?_
  refine Qa ?_
  refine Xf ?_
  refine Qa ?_
  refine rk Qb [(5, .i ((k0 : Nat) : Int))] [9] [] [] [] (o0) ?_
  refine Qa ?_
  refine rk Qb [(16, .b (Ky a0 c0))] [] [] [] [(3, .row [.s a0]), (5, .val (.b (Ky a0 c0)))] (o2 (Qy (X4 (i := ((k0 : Nat) : Int)) (by omega) rfl hx0)) (o1 (Qg (Qfa a0 c0)))) ?_
  refine ck (Ky a0 c0) (fun h3 => ?_) (fun h3 => ?_)
  ·
   refine Qa ?_
   refine rk Qb [(4, .i ((k0 : Nat) : Int))] [4, 5, 16] [] [] [] (o0) ?_
   refine Qq ?_
   have hr4 : (Xv (Y8 c0) Y9 s_ 0 ()) = .ret ((k0 : Nat) : Int) := Jy hx0 (X8 h3 (rfl)) hI0
   exact Ze [] (congrArg (fun z => (.i z : AV)) (show Yd s_ c0 = ((k0 : Nat) : Int) from on_r hr4).symm)
  ·
   refine Qr ?_
   refine rk Qb [(8, .i ((k0 + 1 : Nat) : Int))] [5, 8, 16] [] [] [(0, .val (.i ((k0 + 1 : Nat) : Int)))] (o1 (Qi (Km (Q8 k0 (by omega))))) ?_
   exact Exists.intro () (And.intro (Qd (by kernel_rfl)) (Xe hx0 (Q6 h3 (rfl)) hI0))
 ·
  refine Qa ?_
  refine rk Qb [(9, .b false)] [] [] [] [(0, .val (.b false))] (o1 (Qi (Qh (decide_eq_false (p := ((k0 : Nat) : Int) < (s_.length : Int)) (by omega))))) ?_
  refine Qa ?_
  refine ckF ?_
  refine Xt ?_
  exact Exists.intro () (And.intro (Qd (by kernel_rfl)) (Ym hk0 (rfl) hI0))
 ·
  refine Qa ?_
  refine rk Qb [(4, .i (-1))] [4] [] [] [] (o0) ?_
  refine Qq ?_
  exact Ze [] (congrArg (fun z => (.i z : AV)) (show Yd s_ c0 = -1 from Hk hD0 (rfl)).symm)
def Xx (s_ : (List ByteArray)) (c0 : (List ByteArray)) : Bool := decide ((Yd s_ c0) ≥ (0 : Int))
theorem Us (s_ : (List ByteArray)) (c0 : (List ByteArray)) : ACalls Tryz.prog 228 [.h s_, .one (.fnr 229 [[.h c0]])] (.b (Xx s_ c0)) := by
 refine Qt (tt := tt) Qb Tryz.func228 (fn := Tryz.f228) rfl (by unfold Jr; kernel_rfl) (Nat.le_of_ble_eq_true rfl) fun w0 F0 hG => ?_
 refine Qa ?_
 refine rk Qb [(4, .b false)] [] [] [] [] (o0) ?_
 refine Qa ?_
 refine rk Qb [(4, .b (decide ((Yd s_ c0) ≥ (0 : Int))))] [0, 1, 4] [] [] [(2, .val (.i (Yd s_ c0)))] (o1 (Qg (Hf s_ c0))) ?_
 refine Qq ?_
 exact Ze [] (congrArg (fun z => (.b z : AV)) (show Xx s_ c0 = decide ((Yd s_ c0) ≥ (0 : Int)) from rfl).symm)
def Kz (n : Zo) : Bool := (n.1 == (9 : Int))
theorem Qfb (n : Zo) : ACalls Tryz.prog 231 [.a [.i n.1, .i n.2.1, .i n.2.2.1, .s n.2.2.2.1, .i n.2.2.2.2.1, .i n.2.2.2.2.2.1, .s n.2.2.2.2.2.2]] (.b (Kz n)) := by
 refine Qt (tt := tt) Qb Tryz.func231 (fn := Tryz.f231) rfl (by unfold Jr; kernel_rfl) (Nat.le_of_ble_eq_true rfl) fun w0 F0 hG => ?_
 refine Qa ?_
 refine rk Qb [(1, .p 1 0), (2, .b false)] [0] [(1, [.i n.1, .i n.2.1, .i n.2.2.1, .s n.2.2.2.1, .i n.2.2.2.2.1, .i n.2.2.2.2.2.1, .s n.2.2.2.2.2.2])] [] [] (o0) ?_
 refine Qa ?_
 refine rk Qb [(2, .b (n.1 == (9 : Int)))] [1, 2] [] [1] [] (o0) ?_
 refine Qq ?_
 exact Ze [] (congrArg (fun z => (.b z : AV)) (show Kz n = (n.1 == (9 : Int)) from rfl).symm)
def Zc (k0 : Nat) (a0 : Zo) (_ : Unit) : Rd (Int) (Unit) (Unit) := (bif (Kz a0) then (.ret ((k0 : Nat) : Int)) else (.next ()))
def Zd (_ : Nat) (_ : Unit) : Unit := ()
def Yp (s_ : (List Zo)) : Int := (Out.on (Xv Zc Zd s_ 0 ()) (fun _ => -1))
theorem Hr (s_ : (List Zo)) : ACalls Tryz.prog 254 [.h s_, .one (.fnr 231 [])] (.i (Yp s_)) := by
 refine Qt (tt := tt) Qb Tryz.func254 (fn := Tryz.f254) rfl (by unfold Jr; kernel_rfl) (Nat.le_of_ble_eq_true rfl) fun w0 F0 hG => ?_
 refine Qa ?_
 refine rk Qb [(4, .i 0)] [] [] [] [] (o0) ?_
 refine Qa ?_
 refine Qa ?_
 refine rk Qb [(7, .i (s_.length : Int)), (8, .i 0)] [] [] [] [(1, .val (.i (s_.length : Int)))] (o1 (Qi (Xs s_))) ?_
 refine wdT 0 0 .sh s_ (fun hw1 => ?_)
 have hl2 : List.length s_ ≤ 1073741824 := Qx (hw1)
 refine blk (fun (k0 : Nat) (s0 : Unit) => [(8, .i ((k0 : Nat) : Int))]) [8] (fun k0 s0 => []) [] (fun (y0 : Unit) => []) [0, 1, 7, 8] (fun y0 => []) [] (fun (k0 : Nat) (s0 : Unit) => (Xv Zc Zd s_ 0 ()) = Xv Zc Zd (List.drop k0 s_) k0 s0) (fun (y0 : Unit) => (Xv Zc Zd s_ 0 ()) = .brk y0) s_.length () (Qd (by kernel_rfl)) rfl (fun k0 s0 hk0 hI0 => ?_) (fun k0 s0 hk0 hI0 => ?_) (fun y0 hD0 => ?_)
 ·
  obtain ⟨a0, hx0⟩ := Yl (l := s_) (i := k0) hk0
  refine Qa ?_
  refine rk Qb [(9, .b true)] [] [] [] [(0, .val (.b true))] (o1 (Qi (Qh (decide_eq_true (p := ((k0 : Nat) : Int) < (s_.length : Int)) (by omega))))) ?_
  refine Qa ?_
  refine ckT ?_
  refine Qr ?_
  refine Qa ?_
  refine Xf ?_
  refine Qa ?_
  refine rk Qb [(5, .i ((k0 : Nat) : Int))] [9] [] [] [] (o0) ?_
  refine Qa ?_
  refine rk Qb [(16, .b (Kz a0))] [] [] [] [(3, .row [.i a0.1, .i a0.2.1, .i a0.2.2.1, .s a0.2.2.2.1, .i a0.2.2.2.2.1, .i a0.2.2.2.2.2.1, .s a0.2.2.2.2.2.2]), (5, .val (.b (Kz a0)))] (o2 (Qy (X4 (i := ((k0 : Nat) : Int)) (by omega) rfl hx0)) (o1 (Qg (Qfb a0)))) ?_
  refine ck (Kz a0) (fun h3 => ?_) (fun h3 => ?_)
  ·
   refine Qa ?_
   refine rk Qb [(4, .i ((k0 : Nat) : Int))] [4, 5, 16] [] [] [] (o0) ?_
   refine Qq ?_
   have hr4 : (Xv Zc Zd s_ 0 ()) = .ret ((k0 : Nat) : Int) := Jy hx0 (X8 h3 (rfl)) hI0
   exact Ze [] (congrArg (fun z => (.i z : AV)) (show Yp s_ = ((k0 : Nat) : Int) from on_r hr4).symm)
  ·
   refine Qr ?_
   refine rk Qb [(8, .i ((k0 + 1 : Nat) : Int))] [5, 8, 16] [] [] [(0, .val (.i ((k0 + 1 : Nat) : Int)))] (o1 (Qi (Km (Q8 k0 (by omega))))) ?_
   exact Exists.intro () (And.intro (Qd (by kernel_rfl)) (Xe hx0 (Q6 h3 (rfl)) hI0))
 ·
  refine Qa ?_
  refine rk Qb [(9, .b false)] [] [] [] [(0, .val (.b false))] (o1 (Qi (Qh (decide_eq_false (p := ((k0 : Nat) : Int) < (s_.length : Int)) (by omega))))) ?_
  refine Qa ?_
  refine ckF ?_
  refine Xt ?_
  exact Exists.intro () (And.intro (Qd (by kernel_rfl)) (Ym hk0 (rfl) hI0))
 ·
  refine Qa ?_
  refine rk Qb [(4, .i (-1))] [4] [] [] [] (o0) ?_
  refine Qq ?_
  exact Ze [] (congrArg (fun z => (.i z : AV)) (show Yp s_ = -1 from Hk hD0 (rfl)).symm)
def X0 (s_ : (List Zo)) : Bool := decide ((Yp s_) ≥ (0 : Int))
theorem U9 (s_ : (List Zo)) : ACalls Tryz.prog 230 [.h s_, .one (.fnr 231 [])] (.b (X0 s_)) := by
 refine Qt (tt := tt) Qb Tryz.func230 (fn := Tryz.f230) rfl (by unfold Jr; kernel_rfl) (Nat.le_of_ble_eq_true rfl) fun w0 F0 hG => ?_
 refine Qa ?_
 refine rk Qb [(4, .b false)] [] [] [] [] (o0) ?_
 refine Qa ?_
 refine rk Qb [(4, .b (decide ((Yp s_) ≥ (0 : Int))))] [0, 1, 4] [] [] [(2, .val (.i (Yp s_)))] (o1 (Qg (Hr s_))) ?_
 refine Qq ?_
 exact Ze [] (congrArg (fun z => (.b z : AV)) (show X0 s_ = decide ((Yp s_) ≥ (0 : Int)) from rfl).symm)
def Kq (before : Zb) (after : Zb) (_ : Nat) (a0 : Zt) (s0 : (List ByteArray)) : Rd ((List ByteArray)) ((List ByteArray)) ((List ByteArray)) := (bif ((Xx (J7 before after) (K2 a0.2)) || ((X0 a0.2) && (before.2.2.2.1 != after.2.2.2.1))) then (.next (s0 ++ [a0.1])) else (.next s0))
def Vt (_ : Nat) (s0 : (List ByteArray)) : (List ByteArray) := s0
def Z5 (d : (List Zt)) (before : Zb) (after : Zb) : (List ByteArray) := (bif (before.1 != after.1) then (Q3 d) else (Out.on (Xv (Kq before after) Vt d 0 []) (fun y0 => y0)))
theorem directly_go (a b : Zb) : ∀ (l : List Zt) (k : Nat) (s : List ByteArray), ∃ s', Xv (Kq a b) Vt l k s = .brk s' ∧ s'.length ≤ s.length + l.length
 | [], k, s => ⟨s, rfl, by simp⟩
 | x :: l, k, s => by
  simp only [Xv, Kq]
  generalize (_ || _ : Bool) = c
  cases c with
  | true => obtain ⟨s', h1, h2⟩ := directly_go a b l (k + 1) (s ++ [x.1]); exact ⟨s', h1, by simp at h2 ⊢; omega⟩
  | false => obtain ⟨s', h1, h2⟩ := directly_go a b l (k + 1) s; exact ⟨s', h1, by simp at h2 ⊢; omega⟩
theorem directly_len (d : List Zt) (a b : Zb) : (Z5 d a b).length ≤ d.length := by
 unfold Z5
 obtain ⟨s', h1, h2⟩ := directly_go a b d 0 []
 rw [h1, dirNames_eq]
 generalize (a.1 != b.1) = c
 cases c with
 | true => simp
 | false => exact (by simpa using h2 : s'.length ≤ d.length)
theorem Qf1 (d : (List Zt)) (before : Zb) (after : Zb) (hp : (List.length before.2.2.2.2 : Int) + List.length after.2.2.2.2 ≤ 1073741000) : ACalls Tryz.prog 182 [.h d, .a [.i before.1, .i before.2.1, .b before.2.2.1, .i before.2.2.2.1, .h before.2.2.2.2], .a [.i after.1, .i after.2.1, .b after.2.2.1, .i after.2.2.2.1, .h after.2.2.2.2]] (.o 0 (Z5 d before after)) := by
 refine Qt (tt := tt) Qb Tryz.func182 (fn := Tryz.f182) rfl (by unfold Jr; kernel_rfl) (Nat.le_of_ble_eq_true rfl) fun w0 F0 hG => ?_
 refine Qa ?_
 refine rk Qb [(4, .p 4 0), (5, .p 5 0), (6, .e 0)] [1, 2] [(4, [.i before.1, .i before.2.1, .b before.2.2.1, .i before.2.2.2.1, .h before.2.2.2.2]), (5, [.i after.1, .i after.2.1, .b after.2.2.1, .i after.2.2.2.1, .h after.2.2.2.2])] [] [] (o0) ?_
 refine Qa ?_
 refine Qa ?_
 refine rk Qb [(18, .b (before.1 != after.1))] [] [] [] [] (o0) ?_
 refine ck (before.1 != after.1) (fun h1 => ?_) (fun h1 => ?_)
 ·
  refine Qa ?_
  refine rk Qb [(6, .o 1280 (Q3 d))] [6, 18] [] [] [(1, .val (.o 0 (Q3 d)))] (o1 (Qg (Qdc d))) ?_
  refine Qq ?_
  exact Ze [] (congrArg (fun z => (.o 0 z : AV)) (show Z5 d before after = (Q3 d) from X8 h1 (rfl)).symm)
 ·
  have h1d := H6 h1
  refine Qr ?_
  refine Qa ?_
  refine rk Qb [(7, .h (J7 before after))] [18] [] [] [(2, .val (.h (J7 before after)))] (o1 (Qg (implChangedAttrs_a before after (by first | omega | (simp; omega))))) ?_
  refine Qa ?_
  refine rk Qb [(8, .one (.slc (.own true 1536) 1 []))] [] [] [] [] (o0) ?_
  refine Qa ?_
  refine Qa ?_
  refine rk Qb [(25, .h d), (26, .i (d.length : Int)), (27, .i 0)] [0] [] [] [(1, .val (.i (d.length : Int)))] (o1 (Qi (Xs d))) ?_
  refine wdT 25 0 .sh d (fun hw2 => ?_)
  have hl3 : List.length d ≤ 1073741824 := Qx (hw2)
  refine blk (fun (k0 : Nat) (s0 : (List ByteArray)) => [(8, .o 147204 s0), (27, .i ((k0 : Nat) : Int))]) [8, 27] (fun k0 s0 => []) [] (fun (y0 : (List ByteArray)) => [(8, .o 147354 y0)]) [4, 5, 7, 8, 25, 26, 27] (fun y0 => []) [4, 5] (fun (k0 : Nat) (s0 : (List ByteArray)) => (Xv (Kq before after) Vt d 0 []) = Xv (Kq before after) Vt (List.drop k0 d) k0 s0 ∧ List.length s0 ≤ k0) (fun (y0 : (List ByteArray)) => (Xv (Kq before after) Vt d 0 []) = .brk y0) d.length [] (Yt [(1536, 147204)] (by kernel_rfl)) ⟨rfl, (by simp)⟩ (fun k0 s0 hk0 hI0 => ?_) (fun k0 s0 hk0 hI0 => ?_) (fun y0 hD0 => ?_)
  ·
   have hA0_0 := hI0.2
   obtain ⟨a0, hx0⟩ := Yl (l := d) (i := k0) hk0
   refine Qa ?_
   refine rk Qb [(28, .b true)] [] [] [] [(0, .val (.b true))] (o1 (Qi (Qh (decide_eq_true (p := ((k0 : Nat) : Int) < (d.length : Int)) (by omega))))) ?_
   refine Qa ?_
   refine ckT ?_
   refine Qr ?_
   refine Qa ?_
   refine Xf ?_
   refine Qa ?_
   refine rk Qb [(10, .p 10 0)] [28] [(10, [.s a0.1, .h a0.2])] [] [(0, .row [.s a0.1, .h a0.2])] (o1 (Qy (X4 (i := ((k0 : Nat) : Int)) (by omega) rfl hx0))) ?_
   refine Qa ?_
   refine rk Qb [(11, .p 11 0)] [] [(11, [.h (K2 a0.2)])] [] [(2, .val (.h (K2 a0.2)))] (o1 (Qg (implQueryAttrs_a a0.2))) ?_
   refine Qa ?_
   refine rk Qb [(12, .b (Xx (J7 before after) (K2 a0.2)))] [11] [] [11] [(2, .val (.b (Xx (J7 before after) (K2 a0.2))))] (o1 (Qg (Us (J7 before after) (K2 a0.2)))) ?_
   refine Qa ?_
   refine rk Qb [(13, .b (X0 a0.2))] [] [] [] [(2, .val (.b (X0 a0.2)))] (o1 (Qg (U9 a0.2))) ?_
   refine Qa ?_
   refine jn [(50, .b ((Xx (J7 before after) (K2 a0.2)) || ((X0 a0.2) && (before.2.2.2.1 != after.2.2.2.1))))] [12, 13] [] [] (Xx (J7 before after) (K2 a0.2)) (fun h4 => ?_) (fun h4 => ?_) ?_
   ·
    refine rk Qb [(50, .b true)] [12, 13] [] [] [(0, .val (.b true))] (o1 (Qi (Qh h4))) ?_
    exact ⟨rfl, Qd (by rw [h4]; first | done | kernel_rfl)⟩
   ·
    refine X9 (X0 a0.2) (fun h5 => ?_) (fun h5 => ?_)
    ·
     refine rk Qb [(50, .b (before.2.2.2.1 != after.2.2.2.1))] [12, 13] [] [] [(0, .val (.b false)), (2, .val (.b true))] (o2 (Qi (Qh h4)) (o1 (Qi (Qh h5)))) ?_
     exact ⟨rfl, Qd (by rw [h4, h5]; first | done | kernel_rfl)⟩
    ·
     refine rk Qb [(50, .b false)] [12, 13] [] [] [(0, .val (.b false)), (2, .val (.b false))] (o2 (Qi (Qh h4)) (o1 (Qi (Qh h5)))) ?_
     exact ⟨rfl, Qd (by rw [h4, h5]; first | done | kernel_rfl)⟩
   refine ck ((Xx (J7 before after) (K2 a0.2)) || ((X0 a0.2) && (before.2.2.2.1 != after.2.2.2.1))) (fun h6 => ?_) (fun h6 => ?_)
   ·
    refine wdT 8 0 (.own true 147204) s0 (fun hw7 => ?_)
    have hl8 : List.length s0 ≤ 1073741824 := Qx (hw7)
    refine rk Qb [(8, .one (.slc (.own true 3520) 1 ((eL s0) ++ [[.s a0.1]])))] [8, 10, 50] [] [10] [] (o1 (V9 (Wi (Xm s0) (Xm [a0.1]) (by first | omega | (simp only [List.length_cons, List.length_nil]; omega) | (simp; omega) | simp)))) ?_
    refine eqn [(8, .o 3520 (s0 ++ [a0.1]))] [8] [] [] (by rw [show ((eL s0) ++ [[.s a0.1]]) = (eL (s0 ++ [a0.1])) from Hj (rfl) (rfl)]; first | done | kernel_rfl) ?_
    refine rk Qb [(27, .i ((k0 + 1 : Nat) : Int))] [27] [] [] [(0, .val (.i ((k0 + 1 : Nat) : Int)))] (o1 (Qi (Km (Q8 k0 (by omega))))) ?_
    exact Exists.intro (s0 ++ [a0.1]) (And.intro (Yt [(3520, 147204)] (by kernel_rfl)) ⟨Xe hx0 (X8 h6 (rfl)) hI0.1, by first | omega | (simp; omega) | simp⟩)
   ·
    refine Qr ?_
    refine rk Qb [(27, .i ((k0 + 1 : Nat) : Int))] [10, 27, 50] [] [10] [(0, .val (.i ((k0 + 1 : Nat) : Int)))] (o1 (Qi (Km (Q8 k0 (by omega))))) ?_
    exact Exists.intro s0 (And.intro (Qd (by kernel_rfl)) ⟨Xe hx0 (Q6 h6 (rfl)) hI0.1, by first | omega | (simp; omega) | simp⟩)
  ·
   have hA0_0 := hI0.2
   refine Qa ?_
   refine rk Qb [(28, .b false)] [] [] [] [(0, .val (.b false))] (o1 (Qi (Qh (decide_eq_false (p := ((k0 : Nat) : Int) < (d.length : Int)) (by omega))))) ?_
   refine Qa ?_
   refine ckF ?_
   refine Xt ?_
   exact Exists.intro s0 (And.intro (Yt [(147204, 147354)] (by kernel_rfl)) (Ym hk0 (rfl) hI0.1))
  ·
   refine Qa ?_
   refine rk Qb [(6, .o 147354 y0)] [6, 8] [] [] [] (o0) ?_
   refine Qq ?_
   exact Ze [] (congrArg (fun z => (.o 0 z : AV)) (show Z5 d before after = y0 from Q6 h1 (Hk hD0 (rfl))).symm)
def Yi (d : (List Zt)) (before : Zb) (after : Zb) : (List ByteArray) := (Qp d (Z5 d before after))
theorem implAffectedDirs_a (d : (List Zt)) (before : Zb) (after : Zb) (hp : (List.length before.2.2.2.2 : Int) + List.length after.2.2.2.2 ≤ 1073741000) (hd : List.length d ≤ 1000) : ACalls Tryz.prog 133 [.h d, .a [.i before.1, .i before.2.1, .b before.2.2.1, .i before.2.2.2.1, .h before.2.2.2.2], .a [.i after.1, .i after.2.1, .b after.2.2.1, .i after.2.2.2.1, .h after.2.2.2.2]] (.h (Yi d before after)) := by
 refine Qt (tt := tt) Qb Tryz.func133 (fn := Tryz.f133) rfl (by unfold Jr; kernel_rfl) (Nat.le_of_ble_eq_true rfl) fun w0 F0 hG => ?_
 have hdl := directly_len d before after
 refine Qa ?_
 refine rk Qb [(4, .p 4 0), (5, .p 5 0), (6, .e 0)] [1, 2] [(4, [.i before.1, .i before.2.1, .b before.2.2.1, .i before.2.2.2.1, .h before.2.2.2.2]), (5, [.i after.1, .i after.2.1, .b after.2.2.1, .i after.2.2.2.1, .h after.2.2.2.2])] [] [] (o0) ?_
 refine Qa ?_
 refine rk Qb [(6, .h (Qp d (Z5 d before after)))] [0, 4, 5, 6] [] [4, 5] [(4, .val (.o 0 (Z5 d before after))), (5, .val (.h (Qp d (Z5 d before after))))] (o2 (Qg (Qf1 d before after (by first | omega | (simp; omega)))) (o1 (Qg (Ut d (Z5 d before after) (by first | omega | (simp; omega)))))) ?_
 refine Qq ?_
 exact Ze [] (congrArg (fun z => (.h z : AV)) (show Yi d before after = (Qp d (Z5 d before after)) from rfl).symm)
def Zg (a_ : (List Int)) (b : (List Int)) : (List Int) × (List Int) := ((Hd b a_), (Hd a_ b))
theorem implDiffIDs_a (a_ : (List Int)) (b : (List Int)) : ACalls Tryz.prog 89 [.h a_, .h b] (.tup [(false, [.o 0 (((Zg a_ b)).1)]), (false, [.o 1 (((Zg a_ b)).2)])]) := by
 refine Qt (tt := tt) Qb Tryz.func89 (fn := Tryz.f89) rfl (by unfold Jr; kernel_rfl) (Nat.le_of_ble_eq_true rfl) fun w0 F0 hG => ?_
 refine Qa ?_
 refine rk Qb [(4, .e 0), (5, .e 0)] [] [] [] [] (o0) ?_
 refine Qa ?_
 refine rk Qb [(4, .o 512 (Hd b a_)), (5, .o 704 (Hd a_ b))] [0, 1, 4, 5] [] [] [(2, .val (.o 0 (Hd b a_))), (5, .val (.o 0 (Hd a_ b)))] (o2 (Qg (implwithout_a b a_)) (o1 (Qg (implwithout_a a_ b)))) ?_
 refine Qq ?_
 exact Ze [] (congrArg (fun z => (.tup [(false, [.o 0 z.1]), (false, [.o 1 z.2])] : AV)) (show Zg a_ b = ((Hd b a_), (Hd a_ b)) from rfl).symm)
def Qan (a_ : (List Qs)) (_ : Nat) (a0 : Qs) (s0 : (List Qfo)) : Rd ((List Qfo)) ((List Qfo)) ((List Qfo)) := (bif decide (IntKind.i64.wrap (((((Zg (Q5 a_ a0.1) a0.2)).1).length : Int) + ((((Zg (Q5 a_ a0.1) a0.2)).2).length : Int)) > (0 : Int)) then (.next (s0 ++ [(a0.1, ((Zg (Q5 a_ a0.1) a0.2)).1, ((Zg (Q5 a_ a0.1) a0.2)).2)])) else (.next s0))
def Qao (_ : Nat) (s0 : (List Qfo)) : (List Qfo) := s0
def K3 (a_ : (List Qs)) (b : (List Qs)) : (List Qfo) := (Out.on (Xv (Qan a_) Qao b 0 []) (fun y0 => y0))
theorem Qfc (a_ : (List Qs)) (b : (List Qs)) : ACalls Tryz.prog 50 [.h a_, .h b] (.o 0 (K3 a_ b)) := by
 refine Qt (tt := tt) Qb Tryz.func50 (fn := Tryz.f50) rfl (by unfold Jr; kernel_rfl) (Nat.le_of_ble_eq_true rfl) fun w0 F0 hG => ?_
 refine Qa ?_
 refine rk Qb [(4, .e 0)] [] [] [] [] (o0) ?_
 refine Qa ?_
 refine rk Qb [(5, .one (.slc (.own true 640) 3 []))] [] [] [] [] (o0) ?_
 refine Qa ?_
 refine Qa ?_
 refine rk Qb [(11, .h b), (12, .i (b.length : Int)), (13, .i 0)] [1] [] [] [(1, .val (.i (b.length : Int)))] (o1 (Qi (Xs b))) ?_
 refine wdT 11 0 .sh b (fun hw1 => ?_)
 have hl2 : List.length b ≤ 1073741824 := Qx (hw1)
 refine blk (fun (k0 : Nat) (s0 : (List Qfo)) => [(5, .o 147202 s0), (13, .i ((k0 : Nat) : Int))]) [5, 13] (fun k0 s0 => []) [] (fun (y0 : (List Qfo)) => [(5, .o 147352 y0)]) [0, 5, 11, 12, 13] (fun y0 => []) [] (fun (k0 : Nat) (s0 : (List Qfo)) => (Xv (Qan a_) Qao b 0 []) = Xv (Qan a_) Qao (List.drop k0 b) k0 s0 ∧ List.length s0 ≤ k0) (fun (y0 : (List Qfo)) => (Xv (Qan a_) Qao b 0 []) = .brk y0) b.length [] (Yt [(640, 147202)] (by kernel_rfl)) ⟨rfl, (by simp)⟩ (fun k0 s0 hk0 hI0 => ?_) (fun k0 s0 hk0 hI0 => ?_) (fun y0 hD0 => ?_)
 ·
  have hA0_0 := hI0.2
  obtain ⟨a0, hx0⟩ := Yl (l := b) (i := k0) hk0
  refine Qa ?_
  refine rk Qb [(14, .b true)] [] [] [] [(0, .val (.b true))] (o1 (Qi (Qh (decide_eq_true (p := ((k0 : Nat) : Int) < (b.length : Int)) (by omega))))) ?_
  refine Qa ?_
  refine ckT ?_
  refine Qr ?_
  refine Qa ?_
  refine Xf ?_
  refine Qa ?_
  refine rk Qb [(7, .p 7 0)] [14] [(7, [.s a0.1, .h a0.2])] [] [(0, .row [.s a0.1, .h a0.2])] (o1 (Qy (X4 (i := ((k0 : Nat) : Int)) (by omega) rfl hx0))) ?_
  refine Qa ?_
  refine rd' Qb Js [(8, .o 1536 (((Zg (Q5 a_ a0.1) a0.2)).1)), (9, .o 1537 (((Zg (Q5 a_ a0.1) a0.2)).2))] [] [] [] [(3, .val (.o 0 (Q5 a_ a0.1))), (6, .val (.tup [(false, [.o 0 (((Zg (Q5 a_ a0.1) a0.2)).1)]), (false, [.o 1 (((Zg (Q5 a_ a0.1) a0.2)).2)])]))] (o2 (Qg (Qcv a_ a0.1)) (o1 (Qg (implDiffIDs_a (Q5 a_ a0.1) a0.2)))) ?_
  refine Qa ?_
  refine rk Qb [(32, .b (decide (IntKind.i64.wrap (((((Zg (Q5 a_ a0.1) a0.2)).1).length : Int) + ((((Zg (Q5 a_ a0.1) a0.2)).2).length : Int)) > (0 : Int))))] [] [] [] [(1, .val (.i ((((Zg (Q5 a_ a0.1) a0.2)).1).length : Int))), (3, .val (.i ((((Zg (Q5 a_ a0.1) a0.2)).2).length : Int)))] (o2 (Qi (Xs (((Zg (Q5 a_ a0.1) a0.2)).1))) (o1 (Qi (Xs (((Zg (Q5 a_ a0.1) a0.2)).2))))) ?_
  refine ck (decide (IntKind.i64.wrap (((((Zg (Q5 a_ a0.1) a0.2)).1).length : Int) + ((((Zg (Q5 a_ a0.1) a0.2)).2).length : Int)) > (0 : Int))) (fun h3 => ?_) (fun h3 => ?_)
  ·
   have h3d := of_decide_eq_true h3
   refine wdT 5 0 (.own true 147202) s0 (fun hw4 => ?_)
   have hl5 : List.length s0 ≤ 1073741824 := Qx (hw4)
   refine rk Qb [(5, .one (.slc (.own true 2560) 3 ((eL s0) ++ [[.s a0.1, .h (((Zg (Q5 a_ a0.1) a0.2)).1), .h (((Zg (Q5 a_ a0.1) a0.2)).2)]])))] [5, 7, 8, 9, 32] [] [7] [] (o1 (V9 (Wi (Xm s0) (Xm [(a0.1, ((Zg (Q5 a_ a0.1) a0.2)).1, ((Zg (Q5 a_ a0.1) a0.2)).2)]) (by first | omega | (simp only [List.length_cons, List.length_nil]; omega) | (simp; omega) | simp)))) ?_
   refine eqn [(5, .o 2560 (s0 ++ [(a0.1, ((Zg (Q5 a_ a0.1) a0.2)).1, ((Zg (Q5 a_ a0.1) a0.2)).2)]))] [5] [] [] (by rw [show ((eL s0) ++ [[.s a0.1, .h (((Zg (Q5 a_ a0.1) a0.2)).1), .h (((Zg (Q5 a_ a0.1) a0.2)).2)]]) = (eL (s0 ++ [(a0.1, ((Zg (Q5 a_ a0.1) a0.2)).1, ((Zg (Q5 a_ a0.1) a0.2)).2)])) from Hj (rfl) (rfl)]; first | done | kernel_rfl) ?_
   refine rk Qb [(13, .i ((k0 + 1 : Nat) : Int))] [13] [] [] [(0, .val (.i ((k0 + 1 : Nat) : Int)))] (o1 (Qi (Km (Q8 k0 (by omega))))) ?_
   exact Exists.intro (s0 ++ [(a0.1, ((Zg (Q5 a_ a0.1) a0.2)).1, ((Zg (Q5 a_ a0.1) a0.2)).2)]) (And.intro (Yt [(2560, 147202)] (by kernel_rfl)) ⟨Xe hx0 (X8 h3 (rfl)) hI0.1, by first | omega | (simp; omega) | simp⟩)
  ·
   have h3d := of_decide_eq_false h3
   refine Qr ?_
   refine rk Qb [(13, .i ((k0 + 1 : Nat) : Int))] [7, 8, 9, 13, 32] [] [7] [(0, .val (.i ((k0 + 1 : Nat) : Int)))] (o1 (Qi (Km (Q8 k0 (by omega))))) ?_
   exact Exists.intro s0 (And.intro (Qd (by kernel_rfl)) ⟨Xe hx0 (Q6 h3 (rfl)) hI0.1, by first | omega | (simp; omega) | simp⟩)
 ·
  have hA0_0 := hI0.2
  refine Qa ?_
  refine rk Qb [(14, .b false)] [] [] [] [(0, .val (.b false))] (o1 (Qi (Qh (decide_eq_false (p := ((k0 : Nat) : Int) < (b.length : Int)) (by omega))))) ?_
  refine Qa ?_
  refine ckF ?_
  refine Xt ?_
  exact Exists.intro s0 (And.intro (Yt [(147202, 147352)] (by kernel_rfl)) (Ym hk0 (rfl) hI0.1))
 ·
  refine Qa ?_
  refine rk Qb [(4, .o 147352 y0)] [4, 5] [] [] [] (o0) ?_
  refine Qq ?_
  exact Ze [] (congrArg (fun z => (.o 0 z : AV)) (show K3 a_ b = y0 from Hk hD0 (rfl)).symm)
def Wo (x : Qs) (y_ : Qs) : Bool := ((x.1.toList == y_.1.toList) && (Zn x.2 y_.2))
theorem implEqualResults_1_a (x : Qs) (y_ : Qs) : ACalls Tryz.prog 124 [.a [.s x.1, .h x.2], .a [.s y_.1, .h y_.2]] (.b (Wo x y_)) := by
 refine Qt (tt := tt) Qb Tryz.func124 (fn := Tryz.f124) rfl (by unfold Jr; kernel_rfl) (Nat.le_of_ble_eq_true rfl) fun w0 F0 hG => ?_
 refine Qa ?_
 refine rk Qb [(2, .p 2 0), (3, .p 3 0), (4, .b false)] [0, 1] [(2, [.s x.1, .h x.2]), (3, [.s y_.1, .h y_.2])] [] [] (o0) ?_
 refine Qa ?_
 refine jn [(4, .b ((x.1.toList == y_.1.toList) && (Zn x.2 y_.2)))] [2, 3, 4] [] [2, 3] (x.1.toList == y_.1.toList) (fun h1 => ?_) (fun h1 => ?_) ?_
 ·
  refine rk Qb [(4, .b (Zn x.2 y_.2))] [2, 3, 4] [] [2, 3] [(4, .val (.b true)), (10, .val (.b (Zn x.2 y_.2)))] (o2 (Qi (Qh h1)) (o1 (Qg (Qe9 x.2 y_.2)))) ?_
  exact ⟨rfl, Qd (by rw [h1]; first | done | kernel_rfl)⟩
 ·
  refine rk Qb [] [2, 3] [] [2, 3] [(4, .val (.b false))] (o1 (Qi (Qh h1))) ?_
  exact ⟨rfl, Qd (by rw [h1]; first | done | kernel_rfl)⟩
 refine Qq ?_
 exact Ze [] (congrArg (fun z => (.b z : AV)) (show Wo x y_ = ((x.1.toList == y_.1.toList) && (Zn x.2 y_.2)) from rfl).symm)
def Zj (s2_ : (List Qs)) (k0 : Nat) (a0 : Qs) (_ : Unit) : Rd (Bool) (Unit) (Unit) := (bif (!(Wo a0 (nth s2_ k0))) then (.ret false) else (.next ()))
def Zk (_ : Nat) (_ : Unit) : Unit := ()
def Ya (s1_ : (List Qs)) (s2_ : (List Qs)) : Bool := (bif ((s1_.length : Int) != (s2_.length : Int)) then false else (Out.on (Xv (Zj s2_) Zk s1_ 0 ()) (fun _ => true)))
theorem H4 (s1_ : (List Qs)) (s2_ : (List Qs)) : ACalls Tryz.prog 123 [.h s1_, .h s2_, .one (.fnr 124 [])] (.b (Ya s1_ s2_)) := by
 refine Qt (tt := tt) Qb Tryz.func123 (fn := Tryz.f123) rfl (by unfold Jr; kernel_rfl) (Nat.le_of_ble_eq_true rfl) fun w0 F0 hG => ?_
 refine Qa ?_
 refine rk Qb [(6, .b false)] [] [] [] [] (o0) ?_
 refine Qa ?_
 refine Qa ?_
 refine rk Qb [(14, .b ((s1_.length : Int) != (s2_.length : Int)))] [] [] [] [(1, .val (.i (s1_.length : Int))), (3, .val (.i (s2_.length : Int)))] (o2 (Qi (Xs s1_)) (o1 (Qi (Xs s2_)))) ?_
 refine ck ((s1_.length : Int) != (s2_.length : Int)) (fun h1 => ?_) (fun h1 => ?_)
 ·
  refine Qa ?_
  refine rk Qb [] [14] [] [] [] (o0) ?_
  refine Qq ?_
  exact Ze [] (congrArg (fun z => (.b z : AV)) (show Ya s1_ s2_ = false from X8 h1 (rfl)).symm)
 ·
  have h1d := H6 h1
  refine Qr ?_
  refine Qa ?_
  refine Qa ?_
  refine rk Qb [(15, .h s1_), (16, .i (s1_.length : Int)), (17, .i 0)] [0, 14] [] [] [(1, .val (.i (s1_.length : Int)))] (o1 (Qi (Xs s1_))) ?_
  refine wdT 15 0 .sh s1_ (fun hw2 => ?_)
  have hl3 : List.length s1_ ≤ 1073741824 := Qx (hw2)
  refine blk (fun (k0 : Nat) (s0 : Unit) => [(17, .i ((k0 : Nat) : Int))]) [17] (fun k0 s0 => []) [] (fun (y0 : Unit) => []) [1, 2, 15, 16, 17] (fun y0 => []) [] (fun (k0 : Nat) (s0 : Unit) => (Xv (Zj s2_) Zk s1_ 0 ()) = Xv (Zj s2_) Zk (List.drop k0 s1_) k0 s0) (fun (y0 : Unit) => (Xv (Zj s2_) Zk s1_ 0 ()) = .brk y0) s1_.length () (Qd (by kernel_rfl)) rfl (fun k0 s0 hk0 hI0 => ?_) (fun k0 s0 hk0 hI0 => ?_) (fun y0 hD0 => ?_)
  ·
   obtain ⟨a0, hx0⟩ := Yl (l := s1_) (i := k0) hk0
   refine Qa ?_
   refine rk Qb [(18, .b true)] [] [] [] [(0, .val (.b true))] (o1 (Qi (Qh (decide_eq_true (p := ((k0 : Nat) : Int) < (s1_.length : Int)) (by omega))))) ?_
   refine Qa ?_
   refine ckT ?_
   refine Qr ?_
   refine Qa ?_
   refine Xf ?_
   refine Qa ?_
   refine rk Qb [(7, .i ((k0 : Nat) : Int)), (8, .p 8 0)] [18] [(8, [.s a0.1, .h a0.2])] [] [(1, .row [.s a0.1, .h a0.2])] (o1 (Qy (X4 (i := ((k0 : Nat) : Int)) (by omega) rfl hx0))) ?_
   refine Qa ?_
   refine wdT 1 0 .sh s2_ (fun hw5 => ?_)
   have hl6 : List.length s2_ ≤ 1073741824 := Qx (hw5)
   have hx4 : s2_[k0]? = some (nth s2_ k0) := Yj (by omega)
   refine rk Qb [(9, .p 9 0)] [7] [(9, [.s ((nth s2_ k0).1), .h ((nth s2_ k0).2)])] [] [(2, .row [.s ((nth s2_ k0).1), .h ((nth s2_ k0).2)])] (o1 (Qy (X4 (i := ((k0 : Nat) : Int)) (by omega) rfl hx4))) ?_
   refine Qa ?_
   refine rk Qb [(30, .b (!(Wo a0 (nth s2_ k0))))] [8, 9] [] [8, 9] [(3, .val (.b (Wo a0 (nth s2_ k0))))] (o1 (Qg (implEqualResults_1_a a0 (nth s2_ k0)))) ?_
   refine ck (!(Wo a0 (nth s2_ k0))) (fun h7 => ?_) (fun h7 => ?_)
   ·
    refine Qa ?_
    refine rk Qb [] [30] [] [] [] (o0) ?_
    refine Qq ?_
    have hr8 : (Xv (Zj s2_) Zk s1_ 0 ()) = .ret false := Jy hx0 (X8 h7 (rfl)) hI0
    exact Ze [] (congrArg (fun z => (.b z : AV)) (show Ya s1_ s2_ = false from Q6 h1 (on_r hr8)).symm)
   ·
    refine Qr ?_
    refine rk Qb [(17, .i ((k0 + 1 : Nat) : Int))] [17, 30] [] [] [(0, .val (.i ((k0 + 1 : Nat) : Int)))] (o1 (Qi (Km (Q8 k0 (by omega))))) ?_
    exact Exists.intro () (And.intro (Qd (by kernel_rfl)) (Xe hx0 (Q6 h7 (rfl)) hI0))
  ·
   refine Qa ?_
   refine rk Qb [(18, .b false)] [] [] [] [(0, .val (.b false))] (o1 (Qi (Qh (decide_eq_false (p := ((k0 : Nat) : Int) < (s1_.length : Int)) (by omega))))) ?_
   refine Qa ?_
   refine ckF ?_
   refine Xt ?_
   exact Exists.intro () (And.intro (Qd (by kernel_rfl)) (Ym hk0 (rfl) hI0))
  ·
   refine Qa ?_
   refine rk Qb [(6, .b true)] [6] [] [] [] (o0) ?_
   refine Qq ?_
   exact Ze [] (congrArg (fun z => (.b z : AV)) (show Ya s1_ s2_ = true from Q6 h1 (Hk hD0 (rfl))).symm)
def Ww (a_ : (List Qs)) (b : (List Qs)) : Bool := (Ya a_ b)
theorem implEqualResults_a (a_ : (List Qs)) (b : (List Qs)) : ACalls Tryz.prog 74 [.h a_, .h b] (.b (Ww a_ b)) := by
 refine Qt (tt := tt) Qb Tryz.func74 (fn := Tryz.f74) rfl (by unfold Jr; kernel_rfl) (Nat.le_of_ble_eq_true rfl) fun w0 F0 hG => ?_
 refine Qa ?_
 refine rk Qb [(4, .b false)] [] [] [] [] (o0) ?_
 refine Qa ?_
 refine rk Qb [(4, .b (Ya a_ b))] [0, 1, 4] [] [] [(2, .val (.b (Ya a_ b)))] (o1 (Qg (H4 a_ b))) ?_
 refine Qq ?_
 exact Ze [] (congrArg (fun z => (.b z : AV)) (show Ww a_ b = (Ya a_ b) from rfl).symm)
def Xk (c : Z4) : Bool := (((Z3 c.1 c.2.1)).2 && (Ww (((Z3 c.1 c.2.1)).1) c.2.2))
theorem Qcg {c : Z4} (h : Xk c = true) : List.length c.2.1 ≤ 5 ∧ Xb c.1 = true := by
 unfold Xk at h
 cases he : (Z3 c.1 c.2.1).2 with
 | false => rw [he] at h; simp at h
 | true => obtain ⟨h1, h2, _⟩ := evaluate_ok he; exact ⟨h1, h2⟩
theorem Wd (c : Z4) : ACalls Tryz.prog 46 [.a [.h c.1.1, .h c.1.2.1, .i c.1.2.2, .h c.2.1, .h c.2.2]] (.b (Xk c)) := by
 refine Qt (tt := tt) Qb Tryz.func46 (fn := Tryz.f46) rfl (by unfold Jr; kernel_rfl) (Nat.le_of_ble_eq_true rfl) fun w0 F0 hG => ?_
 refine Qa ?_
 refine rk Qb [(1, .p 1 0), (2, .b false)] [0] [(1, [.h c.1.1, .h c.1.2.1, .i c.1.2.2, .h c.2.1, .h c.2.2])] [] [] (o0) ?_
 refine Qa ?_
 refine rk Qb [(3, .o 640 (((Z3 c.1 c.2.1)).1)), (4, .b (((Z3 c.1 c.2.1)).2))] [] [] [] [(4, .val (.tup [(false, [.o 0 (((Z3 c.1 c.2.1)).1)]), (false, [.b (((Z3 c.1 c.2.1)).2)])]))] (o1 (Qg (implEvaluate_a c.1 c.2.1))) ?_
 refine Qa ?_
 refine jn [(2, .b (((Z3 c.1 c.2.1)).2 && (Ww (((Z3 c.1 c.2.1)).1) c.2.2)))] [1, 2, 3, 4] [] [1] (((Z3 c.1 c.2.1)).2) (fun h1 => ?_) (fun h1 => ?_) ?_
 ·
  refine rk Qb [(2, .b (Ww (((Z3 c.1 c.2.1)).1) c.2.2))] [1, 2, 3, 4] [] [1] [(0, .val (.b true)), (5, .val (.b (Ww (((Z3 c.1 c.2.1)).1) c.2.2)))] (o2 (Qi (Qh h1)) (o1 (Qg (implEqualResults_a (((Z3 c.1 c.2.1)).1) c.2.2)))) ?_
  exact ⟨rfl, Qd (by rw [h1]; first | done | kernel_rfl)⟩
 ·
  refine rk Qb [] [1, 3, 4] [] [1] [(0, .val (.b false))] (o1 (Qi (Qh h1))) ?_
  exact ⟨rfl, Qd (by rw [h1]; first | done | kernel_rfl)⟩
 refine Qq ?_
 exact Ze [] (congrArg (fun z => (.b z : AV)) (show Xk c = (((Z3 c.1 c.2.1)).2 && (Ww (((Z3 c.1 c.2.1)).1) c.2.2)) from rfl).symm)
open GoE (enc wide)
def Qap (_ : Nat) (a0 : Qs) (s0 : (List Qs)) : Rd ((List Qs)) ((List Qs)) ((List Qs)) := (.next (s0 ++ [a0]))
def Qaq (_ : Nat) (s0 : (List Qs)) : (List Qs) := s0
def Hs (r : (List Qs)) : (List Qs) := (Out.on (Xv Qap Qaq r 0 []) (fun y0 => y0))
theorem implcopyResults_a (r : (List Qs)) : ACalls Tryz.prog 77 [.h r] (.o 0 (Hs r)) := by
 refine Qt (tt := tt) Qb Tryz.func77 (fn := Tryz.f77) rfl (by unfold Jr; kernel_rfl) (Nat.le_of_ble_eq_true rfl) fun w0 F0 hG => ?_
 refine Qa ?_
 refine rk Qb [(2, .e 0)] [] [] [] [] (o0) ?_
 refine Qa ?_
 refine rk Qb [(3, .one (.slc (.own true 384) 2 []))] [] [] [] [] (o0) ?_
 refine Qa ?_
 refine Qa ?_
 refine rk Qb [(7, .h r), (8, .i (r.length : Int)), (9, .i 0)] [0] [] [] [(1, .val (.i (r.length : Int)))] (o1 (Qi (Xs r))) ?_
 refine wdT 7 0 .sh r (fun hw1 => ?_)
 have hl2 : List.length r ≤ 1073741824 := Qx (hw1)
 refine blk (fun (k0 : Nat) (s0 : (List Qs)) => [(3, .o 147201 s0), (9, .i ((k0 : Nat) : Int))]) [3, 9] (fun k0 s0 => []) [] (fun (y0 : (List Qs)) => [(3, .o 147351 y0)]) [3, 7, 8, 9] (fun y0 => []) [] (fun (k0 : Nat) (s0 : (List Qs)) => (Xv Qap Qaq r 0 []) = Xv Qap Qaq (List.drop k0 r) k0 s0 ∧ List.length s0 ≤ k0) (fun (y0 : (List Qs)) => (Xv Qap Qaq r 0 []) = .brk y0) r.length [] (Yt [(384, 147201)] (by kernel_rfl)) ⟨rfl, (by simp)⟩ (fun k0 s0 hk0 hI0 => ?_) (fun k0 s0 hk0 hI0 => ?_) (fun y0 hD0 => ?_)
 ·
  have hA0_0 := hI0.2
  obtain ⟨a0, hx0⟩ := Yl (l := r) (i := k0) hk0
  refine Qa ?_
  refine rk Qb [(10, .b true)] [] [] [] [(0, .val (.b true))] (o1 (Qi (Qh (decide_eq_true (p := ((k0 : Nat) : Int) < (r.length : Int)) (by omega))))) ?_
  refine Qa ?_
  refine ckT ?_
  refine Qr ?_
  refine Qa ?_
  refine Xf ?_
  refine Qa ?_
  refine rk Qb [(5, .p 5 0)] [10] [(5, [.s a0.1, .h a0.2])] [] [(0, .row [.s a0.1, .h a0.2])] (o1 (Qy (X4 (i := ((k0 : Nat) : Int)) (by omega) rfl hx0))) ?_
  refine wdT 3 0 (.own true 147201) s0 (fun hw3 => ?_)
  have hl4 : List.length s0 ≤ 1073741824 := Qx (hw3)
  refine rd' Qb Js [(3, .one (.slc (.own true 1344) 2 ((eL s0) ++ [[.s a0.1, .h a0.2]])))] [3, 5] [] [5] [(5, .val (.o 0 a0.2))] (o2 (Qg (cloneInt_a a0.2)) (o1 (V9 (Wi (Xm s0) (Xm [a0]) (by first | omega | (simp only [List.length_cons, List.length_nil]; omega) | (simp; omega) | simp))))) ?_
  refine eqn [(3, .o 1344 (s0 ++ [a0]))] [3] [] [] (by rw [show ((eL s0) ++ [[.s a0.1, .h a0.2]]) = (eL (s0 ++ [a0])) from Hj (rfl) (rfl)]; first | done | kernel_rfl) ?_
  refine rk Qb [(9, .i ((k0 + 1 : Nat) : Int))] [9] [] [] [(0, .val (.i ((k0 + 1 : Nat) : Int)))] (o1 (Qi (Km (Q8 k0 (by omega))))) ?_
  exact Exists.intro (s0 ++ [a0]) (And.intro (Yt [(1344, 147201)] (by kernel_rfl)) ⟨Xe hx0 (rfl) hI0.1, by first | omega | (simp; omega) | simp⟩)
 ·
  have hA0_0 := hI0.2
  refine Qa ?_
  refine rk Qb [(10, .b false)] [] [] [] [(0, .val (.b false))] (o1 (Qi (Qh (decide_eq_false (p := ((k0 : Nat) : Int) < (r.length : Int)) (by omega))))) ?_
  refine Qa ?_
  refine ckF ?_
  refine Xt ?_
  exact Exists.intro s0 (And.intro (Yt [(147201, 147351)] (by kernel_rfl)) (Ym hk0 (rfl) hI0.1))
 ·
  refine Qa ?_
  refine rk Qb [(2, .o 147351 y0)] [2, 3] [] [] [] (o0) ?_
  refine Qq ?_
  exact Ze [] (congrArg (fun z => (.o 0 z : AV)) (show Hs r = y0 from Hk hD0 (rfl)).symm)
def Qc (c : Z4) : Z4 := ((Qm c.1), (Qw c.2.1), (Hs c.2.2))
theorem Zx (c : Z4) : ACalls Tryz.prog 47 [.a [.h c.1.1, .h c.1.2.1, .i c.1.2.2, .h c.2.1, .h c.2.2]] (.a [.o 0 ((Qc c).1.1), .o 1 ((Qc c).1.2.1), .i ((Qc c).1.2.2), .o 2 ((Qc c).2.1), .o 3 ((Qc c).2.2)]) := by
 refine Qt (tt := tt) Qb Tryz.func47 (fn := Tryz.f47) rfl (by unfold Jr; kernel_rfl) (Nat.le_of_ble_eq_true rfl) fun w0 F0 hG => ?_
 refine Qa ?_
 refine rk Qb [(1, .p 1 0), (2, .p 2 0)] [0] [(1, [.h c.1.1, .h c.1.2.1, .i c.1.2.2, .h c.2.1, .h c.2.2]), (2, [.e 2, .e 5, .i 0, .e 2, .e 2])] [] [] (o0) ?_
 refine Qa ?_
 refine rd' Qb Js [] [1] [(2, [.o 320 ((Qm c.1).1), .o 321 ((Qm c.1).2.1), .i ((Qm c.1).2.2), .o 512 (Qw c.2.1), .o 704 (Hs c.2.2)])] [1, 2] [(2, .val (.a [.o 0 ((Qm c.1).1), .o 1 ((Qm c.1).2.1), .i ((Qm c.1).2.2)])), (5, .val (.o 0 (Qw c.2.1))), (8, .val (.o 0 (Hs c.2.2)))] (o2 (Qg (Qa3 c.1)) (o2 (Qg (He c.2.1)) (o1 (Qg (implcopyResults_a c.2.2))))) ?_
 refine Qq ?_
 exact Ze [] (congrArg (fun z => (.a [.o 0 z.1.1, .o 1 z.1.2.1, .i z.1.2.2, .o 2 z.2.1, .o 3 z.2.2] : AV)) (show Qc c = ((Qm c.1), (Qw c.2.1), (Hs c.2.2)) from rfl).symm)
def Z1 (s_ : Zp) (d : (List Zt)) (r : (List Qs)) (names : (List ByteArray)) : (List Qs) × Bool := (((Yb s_ d r names)).1, ((Yb s_ d r names)).2.2)
theorem implReevaluate_a (s_ : Zp) (d : (List Zt)) (r : (List Qs)) (names : (List ByteArray)) : ACalls Tryz.prog 140 [.a [.h s_.1, .h s_.2.1, .i s_.2.2], .h d, .h r, .h names] (.tup [(false, [.o 0 (((Z1 s_ d r names)).1)]), (false, [.b (((Z1 s_ d r names)).2)])]) := by
 refine Qt (tt := tt) Qb Tryz.func140 (fn := Tryz.f140) rfl (by unfold Jr; kernel_rfl) (Nat.le_of_ble_eq_true rfl) fun w0 F0 hG => ?_
 refine Qa ?_
 refine rk Qb [(4, .p 4 0), (8, .e 0), (9, .b false)] [0] [(4, [.h s_.1, .h s_.2.1, .i s_.2.2])] [] [] (o0) ?_
 refine Qa ?_
 refine rk Qb [(10, .o 1152 (((Yb s_ d r names)).1)), (12, .b (((Yb s_ d r names)).2.2))] [1, 2, 3, 4] [] [4] [(4, .val (.tup [(false, [.o 0 (((Yb s_ d r names)).1)]), (false, [.i (((Yb s_ d r names)).2.1)]), (false, [.b (((Yb s_ d r names)).2.2)])]))] (o1 (Qg (implevaluated_a s_ d r names))) ?_
 refine Qa ?_
 refine rk Qb [(8, .o 1152 (((Yb s_ d r names)).1)), (9, .b (((Yb s_ d r names)).2.2))] [8, 9, 10, 12] [] [] [] (o0) ?_
 refine Qq ?_
 exact Ze [] (congrArg (fun z => (.tup [(false, [.o 0 z.1]), (false, [.b z.2])] : AV)) (show Z1 s_ d r names = (((Yb s_ d r names)).1, ((Yb s_ d r names)).2.2) from rfl).symm)
def Qo (c : Z4) (s_ : Zp) (d : (List Zt)) (names : (List ByteArray)) : Z4 × (List Qfo) × Bool := (bif (!(((Z1 s_ d c.2.2 names)).2)) then ((Qc c), [], false) else (((Qm s_), (Qw d), ((Z1 s_ d c.2.2 names)).1), (K3 c.2.2 (((Z1 s_ d c.2.2 names)).1)), true))
theorem Qa6 (c : Z4) (s_ : Zp) (d : (List Zt)) (names : (List ByteArray)) : ACalls Tryz.prog 85 [.a [.h c.1.1, .h c.1.2.1, .i c.1.2.2, .h c.2.1, .h c.2.2], .a [.h s_.1, .h s_.2.1, .i s_.2.2], .h d, .h names] (.tup [(true, [.o 0 ((((Qo c s_ d names)).1).1.1), .o 1 ((((Qo c s_ d names)).1).1.2.1), .i ((((Qo c s_ d names)).1).1.2.2), .o 2 ((((Qo c s_ d names)).1).2.1), .o 3 ((((Qo c s_ d names)).1).2.2)]), (false, [.o 4 (((Qo c s_ d names)).2.1)]), (false, [.b (((Qo c s_ d names)).2.2)])]) := by
 refine Qt (tt := tt) Qb Tryz.func85 (fn := Tryz.f85) rfl (by unfold Jr; kernel_rfl) (Nat.le_of_ble_eq_true rfl) fun w0 F0 hG => ?_
 refine Qa ?_
 refine rk Qb [(4, .p 4 0), (5, .p 5 0), (8, .p 8 0), (9, .e 0), (10, .b false)] [0, 1] [(4, [.h c.1.1, .h c.1.2.1, .i c.1.2.2, .h c.2.1, .h c.2.2]), (5, [.h s_.1, .h s_.2.1, .i s_.2.2]), (8, [.e 2, .e 5, .i 0, .e 2, .e 2])] [] [] (o0) ?_
 refine Qa ?_
 refine rk Qb [(11, .o 1216 (((Z1 s_ d c.2.2 names)).1)), (12, .b (((Z1 s_ d c.2.2 names)).2))] [3] [] [] [(5, .val (.tup [(false, [.o 0 (((Z1 s_ d c.2.2 names)).1)]), (false, [.b (((Z1 s_ d c.2.2 names)).2)])]))] (o1 (Qg (implReevaluate_a s_ d c.2.2 names))) ?_
 refine Qa ?_
 refine Qa ?_
 refine rk Qb [(23, .b (!(((Z1 s_ d c.2.2 names)).2)))] [12] [] [] [] (o0) ?_
 refine ck (!(((Z1 s_ d c.2.2 names)).2)) (fun h1 => ?_) (fun h1 => ?_)
 ·
  refine Qa ?_
  refine rk Qb [] [23] [(8, [.o 1600 ((Qc c).1.1), .o 1601 ((Qc c).1.2.1), .i ((Qc c).1.2.2), .o 1602 ((Qc c).2.1), .o 1603 ((Qc c).2.2)])] [8] [(1, .val (.a [.o 0 ((Qc c).1.1), .o 1 ((Qc c).1.2.1), .i ((Qc c).1.2.2), .o 2 ((Qc c).2.1), .o 3 ((Qc c).2.2)]))] (o1 (Qg (Zx c))) ?_
  refine opn [(false, 9, 0, true, 384000, 3)] ?_
  refine Qq ?_
  exact Ze [] (congrArg (fun z => (.tup [(true, [.o 0 z.1.1.1, .o 1 z.1.1.2.1, .i z.1.1.2.2, .o 2 z.1.2.1, .o 3 z.1.2.2]), (false, [.o 4 z.2.1]), (false, [.b z.2.2])] : AV)) (show Qo c s_ d names = ((Qc c), [], false) from X8 h1 (rfl)).symm)
 ·
  refine Qr ?_
  refine Qa ?_
  refine rd' Qb Js [(9, .o 2240 (K3 c.2.2 (((Z1 s_ d c.2.2 names)).1))), (10, .b true)] [2, 4, 5, 9, 10, 11, 23] [(8, [.o 1728 ((Qm s_).1), .o 1729 ((Qm s_).2.1), .i ((Qm s_).2.2), .o 1856 (Qw d), .o 1216 (((Z1 s_ d c.2.2 names)).1)])] [4, 5, 8] [(1, .val (.a [.o 0 ((Qm s_).1), .o 1 ((Qm s_).2.1), .i ((Qm s_).2.2)])), (3, .val (.o 0 (Qw d))), (9, .val (.o 0 (K3 c.2.2 (((Z1 s_ d c.2.2 names)).1))))] (o2 (Qg (Qa3 s_)) (o2 (Qg (He d)) (o1 (Qg (Qfc c.2.2 (((Z1 s_ d c.2.2 names)).1)))))) ?_
  refine Qq ?_
  exact Ze [] (congrArg (fun z => (.tup [(true, [.o 0 z.1.1.1, .o 1 z.1.1.2.1, .i z.1.1.2.2, .o 2 z.1.2.1, .o 3 z.1.2.2]), (false, [.o 4 z.2.1]), (false, [.b z.2.2])] : AV)) (show Qo c s_ d names = (((Qm s_), (Qw d), ((Z1 s_ d c.2.2 names)).1), (K3 c.2.2 (((Z1 s_ d c.2.2 names)).1)), true) from Q6 h1 (rfl)).symm)
def Yq (c : Z4) (f : Zb) : Z4 × Int × (List Qfo) × Bool := (bif ((!(((Q9 c.1 f)).2.2)) || (!(Xk c))) then ((Qc c), 0, [], false) else ((((Qo c (((Q9 c.1 f)).1) c.2.1 (Q3 c.2.1))).1), ((Q9 c.1 f)).2.1, ((Qo c (((Q9 c.1 f)).1) c.2.1 (Q3 c.2.1))).2.1, ((Qo c (((Q9 c.1 f)).1) c.2.1 (Q3 c.2.1))).2.2))
theorem implAddFile_a (c : Z4) (f : Zb) : ACalls Tryz.prog 78 [.a [.h c.1.1, .h c.1.2.1, .i c.1.2.2, .h c.2.1, .h c.2.2], .a [.i f.1, .i f.2.1, .b f.2.2.1, .i f.2.2.2.1, .h f.2.2.2.2]] (.tup [(true, [.o 0 ((((Yq c f)).1).1.1), .o 1 ((((Yq c f)).1).1.2.1), .i ((((Yq c f)).1).1.2.2), .o 2 ((((Yq c f)).1).2.1), .o 3 ((((Yq c f)).1).2.2)]), (false, [.i (((Yq c f)).2.1)]), (false, [.o 4 (((Yq c f)).2.2.1)]), (false, [.b (((Yq c f)).2.2.2)])]) := by
 refine Qt (tt := tt) Qb Tryz.func78 (fn := Tryz.f78) rfl (by unfold Jr; kernel_rfl) (Nat.le_of_ble_eq_true rfl) fun w0 F0 hG => ?_
 refine Qa ?_
 refine rk Qb [(2, .p 2 0), (3, .p 3 0), (4, .p 4 0), (5, .i 0), (6, .e 0), (7, .b false)] [0, 1] [(2, [.h c.1.1, .h c.1.2.1, .i c.1.2.2, .h c.2.1, .h c.2.2]), (3, [.i f.1, .i f.2.1, .b f.2.2.1, .i f.2.2.2.1, .h f.2.2.2.2]), (4, [.e 2, .e 5, .i 0, .e 2, .e 2])] [] [] (o0) ?_
 refine Qa ?_
 refine rk Qb [(8, .p 8 0), (9, .i (((Q9 c.1 f)).2.1)), (10, .b (((Q9 c.1 f)).2.2))] [3] [(8, [.o 1088 ((((Q9 c.1 f)).1).1), .o 1089 ((((Q9 c.1 f)).1).2.1), .i ((((Q9 c.1 f)).1).2.2)])] [3] [(3, .val (.tup [(true, [.o 0 ((((Q9 c.1 f)).1).1), .o 1 ((((Q9 c.1 f)).1).2.1), .i ((((Q9 c.1 f)).1).2.2)]), (false, [.i (((Q9 c.1 f)).2.1)]), (false, [.b (((Q9 c.1 f)).2.2)])]))] (o1 (Qg (implCreateFile_a c.1 f))) ?_
 refine Qa ?_
 refine Qa ?_
 refine jn [(27, .b ((!(((Q9 c.1 f)).2.2)) || (!(Xk c))))] [] [] [] (!(((Q9 c.1 f)).2.2)) (fun h1 => ?_) (fun h1 => ?_) ?_
 ·
  have h1n : (((Q9 c.1 f)).2.2) = false := Ug h1
  refine rk Qb [(27, .b true)] [] [] [] [(0, .val (.b false)), (1, .val (.b true))] (o2 (Qi (Qh h1n)) (o1 (Qi (show .b (!false) = .b true from rfl)))) ?_
  exact ⟨rfl, Qd (by rw [h1]; first | done | kernel_rfl)⟩
 ·
  have h1n : (((Q9 c.1 f)).2.2) = true := Jn h1
  refine rk Qb [(27, .b (!(Xk c)))] [] [] [] [(0, .val (.b true)), (1, .val (.b false)), (4, .val (.b (Xk c)))] (o2 (Qi (Qh h1n)) (o2 (Qi (show .b (!true) = .b false from rfl)) (o1 (Qg (Wd c))))) ?_
  exact ⟨rfl, Qd (by rw [h1]; first | done | kernel_rfl)⟩
 refine ck ((!(((Q9 c.1 f)).2.2)) || (!(Xk c))) (fun h2 => ?_) (fun h2 => ?_)
 ·
  refine Qa ?_
  refine rk Qb [] [27] [(4, [.o 1856 ((Qc c).1.1), .o 1857 ((Qc c).1.2.1), .i ((Qc c).1.2.2), .o 1858 ((Qc c).2.1), .o 1859 ((Qc c).2.2)])] [4] [(1, .val (.a [.o 0 ((Qc c).1.1), .o 1 ((Qc c).1.2.1), .i ((Qc c).1.2.2), .o 2 ((Qc c).2.1), .o 3 ((Qc c).2.2)]))] (o1 (Qg (Zx c))) ?_
  refine opn [(false, 6, 0, true, 384000, 3)] ?_
  refine Qq ?_
  exact Ze [] (congrArg (fun z => (.tup [(true, [.o 0 z.1.1.1, .o 1 z.1.1.2.1, .i z.1.1.2.2, .o 2 z.1.2.1, .o 3 z.1.2.2]), (false, [.i z.2.1]), (false, [.o 4 z.2.2.1]), (false, [.b z.2.2.2])] : AV)) (show Yq c f = ((Qc c), 0, [], false) from X8 h2 (rfl)).symm)
 ·
  have h2r : ((!(Xk c))) = false := or_r h2
  have h2rn : (Xk c) = true := Jn h2r
  have h2rnc := Qcg h2rn
  refine Qr ?_
  refine Qa ?_
  refine rd' Qb Js [(10, .b (((Qo c (((Q9 c.1 f)).1) c.2.1 (Q3 c.2.1))).2.2)), (11, .p 11 0), (12, .o 2436 (((Qo c (((Q9 c.1 f)).1) c.2.1 (Q3 c.2.1))).2.1))] [2, 8, 10, 27] [(11, [.o 2432 ((((Qo c (((Q9 c.1 f)).1) c.2.1 (Q3 c.2.1))).1).1.1), .o 2433 ((((Qo c (((Q9 c.1 f)).1) c.2.1 (Q3 c.2.1))).1).1.2.1), .i ((((Qo c (((Q9 c.1 f)).1) c.2.1 (Q3 c.2.1))).1).1.2.2), .o 2434 ((((Qo c (((Q9 c.1 f)).1) c.2.1 (Q3 c.2.1))).1).2.1), .o 2435 ((((Qo c (((Q9 c.1 f)).1) c.2.1 (Q3 c.2.1))).1).2.2)])] [2, 8] [(6, .val (.o 0 (Q3 c.2.1))), (7, .val (.tup [(true, [.o 0 ((((Qo c (((Q9 c.1 f)).1) c.2.1 (Q3 c.2.1))).1).1.1), .o 1 ((((Qo c (((Q9 c.1 f)).1) c.2.1 (Q3 c.2.1))).1).1.2.1), .i ((((Qo c (((Q9 c.1 f)).1) c.2.1 (Q3 c.2.1))).1).1.2.2), .o 2 ((((Qo c (((Q9 c.1 f)).1) c.2.1 (Q3 c.2.1))).1).2.1), .o 3 ((((Qo c (((Q9 c.1 f)).1) c.2.1 (Q3 c.2.1))).1).2.2)]), (false, [.o 4 (((Qo c (((Q9 c.1 f)).1) c.2.1 (Q3 c.2.1))).2.1)]), (false, [.b (((Qo c (((Q9 c.1 f)).1) c.2.1 (Q3 c.2.1))).2.2)])]))] (o2 (Qg (Qdc c.2.1)) (o1 (Qg (Qa6 c (((Q9 c.1 f)).1) c.2.1 (Q3 c.2.1))))) ?_
  refine Qa ?_
  refine rk Qb [(5, .i (((Q9 c.1 f)).2.1)), (6, .o 2436 (((Qo c (((Q9 c.1 f)).1) c.2.1 (Q3 c.2.1))).2.1)), (7, .b (((Qo c (((Q9 c.1 f)).1) c.2.1 (Q3 c.2.1))).2.2))] [5, 6, 7, 9, 10, 11, 12] [(4, [.o 2432 ((((Qo c (((Q9 c.1 f)).1) c.2.1 (Q3 c.2.1))).1).1.1), .o 2433 ((((Qo c (((Q9 c.1 f)).1) c.2.1 (Q3 c.2.1))).1).1.2.1), .i ((((Qo c (((Q9 c.1 f)).1) c.2.1 (Q3 c.2.1))).1).1.2.2), .o 2434 ((((Qo c (((Q9 c.1 f)).1) c.2.1 (Q3 c.2.1))).1).2.1), .o 2435 ((((Qo c (((Q9 c.1 f)).1) c.2.1 (Q3 c.2.1))).1).2.2)])] [4, 11] [] (o0) ?_
  refine Qq ?_
  exact Ze [] (congrArg (fun z => (.tup [(true, [.o 0 z.1.1.1, .o 1 z.1.1.2.1, .i z.1.1.2.2, .o 2 z.1.2.1, .o 3 z.1.2.2]), (false, [.i z.2.1]), (false, [.o 4 z.2.2.1]), (false, [.b z.2.2.2])] : AV)) (show Yq c f = ((((Qo c (((Q9 c.1 f)).1) c.2.1 (Q3 c.2.1))).1), ((Q9 c.1 f)).2.1, ((Qo c (((Q9 c.1 f)).1) c.2.1 (Q3 c.2.1))).2.1, ((Qo c (((Q9 c.1 f)).1) c.2.1 (Q3 c.2.1))).2.2) from Q6 h2 (rfl)).symm)
def Yf (c : Z4) (f : Zb) : Z4 × (List Qfo) × Bool := (bif ((!(((Xd c.1 f)).2)) || (!(Xk c))) then ((Qc c), [], false) else ((((Qo c (((Xd c.1 f)).1) c.2.1 (Yi c.2.1 (((Qu c.1 f.1)).1) f))).1), ((Qo c (((Xd c.1 f)).1) c.2.1 (Yi c.2.1 (((Qu c.1 f.1)).1) f))).2.1, ((Qo c (((Xd c.1 f)).1) c.2.1 (Yi c.2.1 (((Qu c.1 f.1)).1) f))).2.2))
theorem implUpdateFile_a (c : Z4) (f : Zb) : ACalls Tryz.prog 81 [.a [.h c.1.1, .h c.1.2.1, .i c.1.2.2, .h c.2.1, .h c.2.2], .a [.i f.1, .i f.2.1, .b f.2.2.1, .i f.2.2.2.1, .h f.2.2.2.2]] (.tup [(true, [.o 0 ((((Yf c f)).1).1.1), .o 1 ((((Yf c f)).1).1.2.1), .i ((((Yf c f)).1).1.2.2), .o 2 ((((Yf c f)).1).2.1), .o 3 ((((Yf c f)).1).2.2)]), (false, [.o 4 (((Yf c f)).2.1)]), (false, [.b (((Yf c f)).2.2)])]) := by
 refine Qt (tt := tt) Qb Tryz.func81 (fn := Tryz.f81) rfl (by unfold Jr; kernel_rfl) (Nat.le_of_ble_eq_true rfl) fun w0 F0 hG => ?_
 refine Qa ?_
 refine rk Qb [(2, .p 2 0), (3, .p 3 0), (4, .p 4 0), (5, .e 0), (6, .b false)] [0, 1] [(2, [.h c.1.1, .h c.1.2.1, .i c.1.2.2, .h c.2.1, .h c.2.2]), (3, [.i f.1, .i f.2.1, .b f.2.2.1, .i f.2.2.2.1, .h f.2.2.2.2]), (4, [.e 2, .e 5, .i 0, .e 2, .e 2])] [] [] (o0) ?_
 refine Qa ?_
 refine rk Qb [(7, .p 7 0), (8, .b (((Xd c.1 f)).2))] [] [(7, [.o 960 ((((Xd c.1 f)).1).1), .o 961 ((((Xd c.1 f)).1).2.1), .i ((((Xd c.1 f)).1).2.2)])] [] [(3, .val (.tup [(true, [.o 0 ((((Xd c.1 f)).1).1), .o 1 ((((Xd c.1 f)).1).2.1), .i ((((Xd c.1 f)).1).2.2)]), (false, [.b (((Xd c.1 f)).2)])]))] (o1 (Qg (implReplaceFile_a c.1 f))) ?_
 refine Qa ?_
 refine Qa ?_
 refine jn [(24, .b ((!(((Xd c.1 f)).2)) || (!(Xk c))))] [8] [] [] (!(((Xd c.1 f)).2)) (fun h1 => ?_) (fun h1 => ?_) ?_
 ·
  have h1n : (((Xd c.1 f)).2) = false := Ug h1
  refine rk Qb [(24, .b true)] [8] [] [] [(0, .val (.b false)), (1, .val (.b true))] (o2 (Qi (Qh h1n)) (o1 (Qi (show .b (!false) = .b true from rfl)))) ?_
  exact ⟨rfl, Qd (by rw [h1]; first | done | kernel_rfl)⟩
 ·
  have h1n : (((Xd c.1 f)).2) = true := Jn h1
  have h1nr := replace_ok h1n; have h1nf := find_attrs h1nr.1 f.1
  refine rk Qb [(24, .b (!(Xk c)))] [8] [] [] [(0, .val (.b true)), (1, .val (.b false)), (4, .val (.b (Xk c)))] (o2 (Qi (Qh h1n)) (o2 (Qi (show .b (!true) = .b false from rfl)) (o1 (Qg (Wd c))))) ?_
  exact ⟨rfl, Qd (by rw [h1]; first | done | kernel_rfl)⟩
 refine ck ((!(((Xd c.1 f)).2)) || (!(Xk c))) (fun h2 => ?_) (fun h2 => ?_)
 ·
  refine Qa ?_
  refine rk Qb [] [24] [(4, [.o 1664 ((Qc c).1.1), .o 1665 ((Qc c).1.2.1), .i ((Qc c).1.2.2), .o 1666 ((Qc c).2.1), .o 1667 ((Qc c).2.2)])] [4] [(1, .val (.a [.o 0 ((Qc c).1.1), .o 1 ((Qc c).1.2.1), .i ((Qc c).1.2.2), .o 2 ((Qc c).2.1), .o 3 ((Qc c).2.2)]))] (o1 (Qg (Zx c))) ?_
  refine opn [(false, 5, 0, true, 384000, 3)] ?_
  refine Qq ?_
  exact Ze [] (congrArg (fun z => (.tup [(true, [.o 0 z.1.1.1, .o 1 z.1.1.2.1, .i z.1.1.2.2, .o 2 z.1.2.1, .o 3 z.1.2.2]), (false, [.o 4 z.2.1]), (false, [.b z.2.2])] : AV)) (show Yf c f = ((Qc c), [], false) from X8 h2 (rfl)).symm)
 ·
  have h2l : ((!(((Xd c.1 f)).2))) = false := or_l h2
  have h2ln : (((Xd c.1 f)).2) = true := Jn h2l
  have h2lnr := replace_ok h2ln; have h2lnf := find_attrs h2lnr.1 f.1
  have h2r : ((!(Xk c))) = false := or_r h2
  have h2rn : (Xk c) = true := Jn h2r
  have h2rnc := Qcg h2rn
  refine Qr ?_
  refine Qa ?_
  refine rk Qb [(9, .p 9 0)] [24] [(9, [.i ((((Qu c.1 f.1)).1).1), .i ((((Qu c.1 f.1)).1).2.1), .b ((((Qu c.1 f.1)).1).2.2.1), .i ((((Qu c.1 f.1)).1).2.2.2.1), .o 2048 ((((Qu c.1 f.1)).1).2.2.2.2)])] [] [(4, .val (.tup [(true, [.i ((((Qu c.1 f.1)).1).1), .i ((((Qu c.1 f.1)).1).2.1), .b ((((Qu c.1 f.1)).1).2.2.1), .i ((((Qu c.1 f.1)).1).2.2.2.1), .o 0 ((((Qu c.1 f.1)).1).2.2.2.2)]), (false, [.b (((Qu c.1 f.1)).2)])]))] (o1 (Qg (Qez c.1 f.1))) ?_
  refine Qa ?_
  refine rd' Qb Js [(5, .o 2820 (((Qo c (((Xd c.1 f)).1) c.2.1 (Yi c.2.1 (((Qu c.1 f.1)).1) f))).2.1)), (6, .b (((Qo c (((Xd c.1 f)).1) c.2.1 (Yi c.2.1 (((Qu c.1 f.1)).1) f))).2.2))] [2, 3, 5, 6, 7, 9] [(4, [.o 2816 ((((Qo c (((Xd c.1 f)).1) c.2.1 (Yi c.2.1 (((Qu c.1 f.1)).1) f))).1).1.1), .o 2817 ((((Qo c (((Xd c.1 f)).1) c.2.1 (Yi c.2.1 (((Qu c.1 f.1)).1) f))).1).1.2.1), .i ((((Qo c (((Xd c.1 f)).1) c.2.1 (Yi c.2.1 (((Qu c.1 f.1)).1) f))).1).1.2.2), .o 2818 ((((Qo c (((Xd c.1 f)).1) c.2.1 (Yi c.2.1 (((Qu c.1 f.1)).1) f))).1).2.1), .o 2819 ((((Qo c (((Xd c.1 f)).1) c.2.1 (Yi c.2.1 (((Qu c.1 f.1)).1) f))).1).2.2)])] [2, 3, 4, 7, 9] [(8, .val (.h (Yi c.2.1 (((Qu c.1 f.1)).1) f))), (9, .val (.tup [(true, [.o 0 ((((Qo c (((Xd c.1 f)).1) c.2.1 (Yi c.2.1 (((Qu c.1 f.1)).1) f))).1).1.1), .o 1 ((((Qo c (((Xd c.1 f)).1) c.2.1 (Yi c.2.1 (((Qu c.1 f.1)).1) f))).1).1.2.1), .i ((((Qo c (((Xd c.1 f)).1) c.2.1 (Yi c.2.1 (((Qu c.1 f.1)).1) f))).1).1.2.2), .o 2 ((((Qo c (((Xd c.1 f)).1) c.2.1 (Yi c.2.1 (((Qu c.1 f.1)).1) f))).1).2.1), .o 3 ((((Qo c (((Xd c.1 f)).1) c.2.1 (Yi c.2.1 (((Qu c.1 f.1)).1) f))).1).2.2)]), (false, [.o 4 (((Qo c (((Xd c.1 f)).1) c.2.1 (Yi c.2.1 (((Qu c.1 f.1)).1) f))).2.1)]), (false, [.b (((Qo c (((Xd c.1 f)).1) c.2.1 (Yi c.2.1 (((Qu c.1 f.1)).1) f))).2.2)])]))] (o2 (Qg (implAffectedDirs_a c.2.1 (((Qu c.1 f.1)).1) f (by omega) (by omega))) (o1 (Qg (Qa6 c (((Xd c.1 f)).1) c.2.1 (Yi c.2.1 (((Qu c.1 f.1)).1) f))))) ?_
  refine Qq ?_
  exact Ze [] (congrArg (fun z => (.tup [(true, [.o 0 z.1.1.1, .o 1 z.1.1.2.1, .i z.1.1.2.2, .o 2 z.1.2.1, .o 3 z.1.2.2]), (false, [.o 4 z.2.1]), (false, [.b z.2.2])] : AV)) (show Yf c f = ((((Qo c (((Xd c.1 f)).1) c.2.1 (Yi c.2.1 (((Qu c.1 f.1)).1) f))).1), ((Qo c (((Xd c.1 f)).1) c.2.1 (Yi c.2.1 (((Qu c.1 f.1)).1) f))).2.1, ((Qo c (((Xd c.1 f)).1) c.2.1 (Yi c.2.1 (((Qu c.1 f.1)).1) f))).2.2) from Q6 h2 (rfl)).symm)
def Yg (c : Z4) (id : Int) : Z4 × (List Qfo) × Bool := (bif ((!(((Xp c.1 id)).2)) || (!(Xk c))) then ((Qc c), [], false) else ((((Qo c (((Xp c.1 id)).1) c.2.1 (Q3 c.2.1))).1), ((Qo c (((Xp c.1 id)).1) c.2.1 (Q3 c.2.1))).2.1, ((Qo c (((Xp c.1 id)).1) c.2.1 (Q3 c.2.1))).2.2))
theorem implRemoveFile_a (c : Z4) (id : Int) : ACalls Tryz.prog 82 [.a [.h c.1.1, .h c.1.2.1, .i c.1.2.2, .h c.2.1, .h c.2.2], .i id] (.tup [(true, [.o 0 ((((Yg c id)).1).1.1), .o 1 ((((Yg c id)).1).1.2.1), .i ((((Yg c id)).1).1.2.2), .o 2 ((((Yg c id)).1).2.1), .o 3 ((((Yg c id)).1).2.2)]), (false, [.o 4 (((Yg c id)).2.1)]), (false, [.b (((Yg c id)).2.2)])]) := by
 refine Qt (tt := tt) Qb Tryz.func82 (fn := Tryz.f82) rfl (by unfold Jr; kernel_rfl) (Nat.le_of_ble_eq_true rfl) fun w0 F0 hG => ?_
 refine Qa ?_
 refine rk Qb [(2, .p 2 0), (4, .p 4 0), (5, .e 0), (6, .b false)] [0] [(2, [.h c.1.1, .h c.1.2.1, .i c.1.2.2, .h c.2.1, .h c.2.2]), (4, [.e 2, .e 5, .i 0, .e 2, .e 2])] [] [] (o0) ?_
 refine Qa ?_
 refine rk Qb [(7, .p 7 0), (8, .b (((Xp c.1 id)).2))] [1] [(7, [.h ((((Xp c.1 id)).1).1), .h ((((Xp c.1 id)).1).2.1), .i ((((Xp c.1 id)).1).2.2)])] [] [(3, .val (.tup [(true, [.h ((((Xp c.1 id)).1).1), .h ((((Xp c.1 id)).1).2.1), .i ((((Xp c.1 id)).1).2.2)]), (false, [.b (((Xp c.1 id)).2)])]))] (o1 (Qg (implDeleteFile_a c.1 id))) ?_
 refine Qa ?_
 refine Qa ?_
 refine jn [(22, .b ((!(((Xp c.1 id)).2)) || (!(Xk c))))] [8] [] [] (!(((Xp c.1 id)).2)) (fun h1 => ?_) (fun h1 => ?_) ?_
 ·
  have h1n : (((Xp c.1 id)).2) = false := Ug h1
  refine rk Qb [(22, .b true)] [8] [] [] [(0, .val (.b false)), (1, .val (.b true))] (o2 (Qi (Qh h1n)) (o1 (Qi (show .b (!false) = .b true from rfl)))) ?_
  exact ⟨rfl, Qd (by rw [h1]; first | done | kernel_rfl)⟩
 ·
  have h1n : (((Xp c.1 id)).2) = true := Jn h1
  refine rk Qb [(22, .b (!(Xk c)))] [8] [] [] [(0, .val (.b true)), (1, .val (.b false)), (4, .val (.b (Xk c)))] (o2 (Qi (Qh h1n)) (o2 (Qi (show .b (!true) = .b false from rfl)) (o1 (Qg (Wd c))))) ?_
  exact ⟨rfl, Qd (by rw [h1]; first | done | kernel_rfl)⟩
 refine ck ((!(((Xp c.1 id)).2)) || (!(Xk c))) (fun h2 => ?_) (fun h2 => ?_)
 ·
  refine Qa ?_
  refine rk Qb [] [22] [(4, [.o 1536 ((Qc c).1.1), .o 1537 ((Qc c).1.2.1), .i ((Qc c).1.2.2), .o 1538 ((Qc c).2.1), .o 1539 ((Qc c).2.2)])] [4] [(1, .val (.a [.o 0 ((Qc c).1.1), .o 1 ((Qc c).1.2.1), .i ((Qc c).1.2.2), .o 2 ((Qc c).2.1), .o 3 ((Qc c).2.2)]))] (o1 (Qg (Zx c))) ?_
  refine opn [(false, 5, 0, true, 384000, 3)] ?_
  refine Qq ?_
  exact Ze [] (congrArg (fun z => (.tup [(true, [.o 0 z.1.1.1, .o 1 z.1.1.2.1, .i z.1.1.2.2, .o 2 z.1.2.1, .o 3 z.1.2.2]), (false, [.o 4 z.2.1]), (false, [.b z.2.2])] : AV)) (show Yg c id = ((Qc c), [], false) from X8 h2 (rfl)).symm)
 ·
  have h2r : ((!(Xk c))) = false := or_r h2
  have h2rn : (Xk c) = true := Jn h2r
  have h2rnc := Qcg h2rn
  refine Qr ?_
  refine Qa ?_
  refine rd' Qb Js [(5, .o 2052 (((Qo c (((Xp c.1 id)).1) c.2.1 (Q3 c.2.1))).2.1)), (6, .b (((Qo c (((Xp c.1 id)).1) c.2.1 (Q3 c.2.1))).2.2))] [2, 5, 6, 7, 22] [(4, [.o 2048 ((((Qo c (((Xp c.1 id)).1) c.2.1 (Q3 c.2.1))).1).1.1), .o 2049 ((((Qo c (((Xp c.1 id)).1) c.2.1 (Q3 c.2.1))).1).1.2.1), .i ((((Qo c (((Xp c.1 id)).1) c.2.1 (Q3 c.2.1))).1).1.2.2), .o 2050 ((((Qo c (((Xp c.1 id)).1) c.2.1 (Q3 c.2.1))).1).2.1), .o 2051 ((((Qo c (((Xp c.1 id)).1) c.2.1 (Q3 c.2.1))).1).2.2)])] [2, 4, 7] [(6, .val (.o 0 (Q3 c.2.1))), (7, .val (.tup [(true, [.o 0 ((((Qo c (((Xp c.1 id)).1) c.2.1 (Q3 c.2.1))).1).1.1), .o 1 ((((Qo c (((Xp c.1 id)).1) c.2.1 (Q3 c.2.1))).1).1.2.1), .i ((((Qo c (((Xp c.1 id)).1) c.2.1 (Q3 c.2.1))).1).1.2.2), .o 2 ((((Qo c (((Xp c.1 id)).1) c.2.1 (Q3 c.2.1))).1).2.1), .o 3 ((((Qo c (((Xp c.1 id)).1) c.2.1 (Q3 c.2.1))).1).2.2)]), (false, [.o 4 (((Qo c (((Xp c.1 id)).1) c.2.1 (Q3 c.2.1))).2.1)]), (false, [.b (((Qo c (((Xp c.1 id)).1) c.2.1 (Q3 c.2.1))).2.2)])]))] (o2 (Qg (Qdc c.2.1)) (o1 (Qg (Qa6 c (((Xp c.1 id)).1) c.2.1 (Q3 c.2.1))))) ?_
  refine Qq ?_
  exact Ze [] (congrArg (fun z => (.tup [(true, [.o 0 z.1.1.1, .o 1 z.1.1.2.1, .i z.1.1.2.2, .o 2 z.1.2.1, .o 3 z.1.2.2]), (false, [.o 4 z.2.1]), (false, [.b z.2.2])] : AV)) (show Yg c id = ((((Qo c (((Xp c.1 id)).1) c.2.1 (Q3 c.2.1))).1), ((Qo c (((Xp c.1 id)).1) c.2.1 (Q3 c.2.1))).2.1, ((Qo c (((Xp c.1 id)).1) c.2.1 (Q3 c.2.1))).2.2) from Q6 h2 (rfl)).symm)
def Yw (c : Z4) (x : Zt) : Z4 × (List Qfo) × Bool := (bif ((!(((Xi c.2.1 x)).2)) || ((!(Xk c)) || (!(J6 (((Xi c.2.1 x)).1))))) then ((Qc c), [], false) else ((((Qo c c.1 (((Xi c.2.1 x)).1) (Qp (((Xi c.2.1 x)).1) [x.1]))).1), ((Qo c c.1 (((Xi c.2.1 x)).1) (Qp (((Xi c.2.1 x)).1) [x.1]))).2.1, ((Qo c c.1 (((Xi c.2.1 x)).1) (Qp (((Xi c.2.1 x)).1) [x.1]))).2.2))
theorem implDefineDir_a (c : Z4) (x : Zt) (hp : List.length c.2.1 < 1073741000) : ACalls Tryz.prog 83 [.a [.h c.1.1, .h c.1.2.1, .i c.1.2.2, .h c.2.1, .h c.2.2], .a [.s x.1, .h x.2]] (.tup [(true, [.o 0 ((((Yw c x)).1).1.1), .o 1 ((((Yw c x)).1).1.2.1), .i ((((Yw c x)).1).1.2.2), .o 2 ((((Yw c x)).1).2.1), .o 3 ((((Yw c x)).1).2.2)]), (false, [.o 4 (((Yw c x)).2.1)]), (false, [.b (((Yw c x)).2.2)])]) := by
 refine Qt (tt := tt) Qb Tryz.func83 (fn := Tryz.f83) rfl (by unfold Jr; kernel_rfl) (Nat.le_of_ble_eq_true rfl) fun w0 F0 hG => ?_
 refine Qa ?_
 refine rk Qb [(2, .p 2 0), (3, .p 3 0), (4, .p 4 0), (5, .e 0), (6, .b false)] [0, 1] [(2, [.h c.1.1, .h c.1.2.1, .i c.1.2.2, .h c.2.1, .h c.2.2]), (3, [.s x.1, .h x.2]), (4, [.e 2, .e 5, .i 0, .e 2, .e 2])] [] [] (o0) ?_
 refine Qa ?_
 refine rk Qb [(7, .h (((Xi c.2.1 x)).1)), (8, .b (((Xi c.2.1 x)).2))] [] [] [] [(3, .val (.tup [(false, [.h (((Xi c.2.1 x)).1)]), (false, [.b (((Xi c.2.1 x)).2)])]))] (o1 (Qg (implSetDir_a c.2.1 x (by first | omega | (simp; omega))))) ?_
 refine Qa ?_
 refine Qa ?_
 refine jn [(27, .b ((!(((Xi c.2.1 x)).2)) || ((!(Xk c)) || (!(J6 (((Xi c.2.1 x)).1))))))] [8] [] [] (!(((Xi c.2.1 x)).2)) (fun h1 => ?_) (fun h1 => ?_) ?_
 ·
  have h1n : (((Xi c.2.1 x)).2) = false := Ug h1
  refine rk Qb [(27, .b true)] [8] [] [] [(0, .val (.b false)), (1, .val (.b true))] (o2 (Qi (Qh h1n)) (o1 (Qi (show .b (!false) = .b true from rfl)))) ?_
  exact ⟨rfl, Qd (by rw [h1]; first | done | kernel_rfl)⟩
 ·
  have h1n : (((Xi c.2.1 x)).2) = true := Jn h1
  refine X9 (!(Xk c)) (fun h2 => ?_) (fun h2 => ?_)
  ·
   have h2n : (Xk c) = false := Ug h2
   refine rk Qb [(27, .b true)] [8] [] [] [(0, .val (.b true)), (1, .val (.b false)), (4, .val (.b false)), (5, .val (.b true))] (o2 (Qi (Qh h1n)) (o2 (Qi (show .b (!true) = .b false from rfl)) (o2 (Qg (cb h2n (Wd c))) (o1 (Qi (show .b (!false) = .b true from rfl)))))) ?_
   exact ⟨rfl, Qd (by rw [h1, h2]; first | done | kernel_rfl)⟩
  ·
   have h2n : (Xk c) = true := Jn h2
   have h2nc := Qcg h2n
   refine rk Qb [(27, .b (!(J6 (((Xi c.2.1 x)).1))))] [8] [] [] [(0, .val (.b true)), (1, .val (.b false)), (4, .val (.b true)), (5, .val (.b false)), (9, .val (.b (J6 (((Xi c.2.1 x)).1))))] (o2 (Qi (Qh h1n)) (o2 (Qi (show .b (!true) = .b false from rfl)) (o2 (Qg (cb h2n (Wd c))) (o2 (Qi (show .b (!true) = .b false from rfl)) (o1 (Qg (implIsStratified_a (((Xi c.2.1 x)).1)))))))) ?_
   exact ⟨rfl, Qd (by rw [h1, h2]; first | done | kernel_rfl)⟩
 refine ck ((!(((Xi c.2.1 x)).2)) || ((!(Xk c)) || (!(J6 (((Xi c.2.1 x)).1))))) (fun h3 => ?_) (fun h3 => ?_)
 ·
  refine Qa ?_
  refine rk Qb [] [27] [(4, [.o 1856 ((Qc c).1.1), .o 1857 ((Qc c).1.2.1), .i ((Qc c).1.2.2), .o 1858 ((Qc c).2.1), .o 1859 ((Qc c).2.2)])] [4] [(1, .val (.a [.o 0 ((Qc c).1.1), .o 1 ((Qc c).1.2.1), .i ((Qc c).1.2.2), .o 2 ((Qc c).2.1), .o 3 ((Qc c).2.2)]))] (o1 (Qg (Zx c))) ?_
  refine opn [(false, 5, 0, true, 384000, 3)] ?_
  refine Qq ?_
  exact Ze [] (congrArg (fun z => (.tup [(true, [.o 0 z.1.1.1, .o 1 z.1.1.2.1, .i z.1.1.2.2, .o 2 z.1.2.1, .o 3 z.1.2.2]), (false, [.o 4 z.2.1]), (false, [.b z.2.2])] : AV)) (show Yw c x = ((Qc c), [], false) from X8 h3 (rfl)).symm)
 ·
  have h3r : (((!(Xk c)) || (!(J6 (((Xi c.2.1 x)).1))))) = false := or_r h3
  have h3rl : ((!(Xk c))) = false := or_l h3r
  have h3rln : (Xk c) = true := Jn h3rl
  have h3rlnc := Qcg h3rln
  have h3rr : ((!(J6 (((Xi c.2.1 x)).1)))) = false := or_r h3r
  have h3rrn : (J6 (((Xi c.2.1 x)).1)) = true := Jn h3rr
  have h3rrnc := strat_len h3rrn
  refine Qr ?_
  refine Qa ?_
  refine rd' Qb Js [(5, .o 2500 (((Qo c c.1 (((Xi c.2.1 x)).1) (Qp (((Xi c.2.1 x)).1) [x.1]))).2.1)), (6, .b (((Qo c c.1 (((Xi c.2.1 x)).1) (Qp (((Xi c.2.1 x)).1) [x.1]))).2.2))] [2, 3, 5, 6, 7, 27] [(4, [.o 2496 ((((Qo c c.1 (((Xi c.2.1 x)).1) (Qp (((Xi c.2.1 x)).1) [x.1]))).1).1.1), .o 2497 ((((Qo c c.1 (((Xi c.2.1 x)).1) (Qp (((Xi c.2.1 x)).1) [x.1]))).1).1.2.1), .i ((((Qo c c.1 (((Xi c.2.1 x)).1) (Qp (((Xi c.2.1 x)).1) [x.1]))).1).1.2.2), .o 2498 ((((Qo c c.1 (((Xi c.2.1 x)).1) (Qp (((Xi c.2.1 x)).1) [x.1]))).1).2.1), .o 2499 ((((Qo c c.1 (((Xi c.2.1 x)).1) (Qp (((Xi c.2.1 x)).1) [x.1]))).1).2.2)])] [2, 3, 4] [(8, .val (.h (Qp (((Xi c.2.1 x)).1) [x.1]))), (9, .val (.tup [(true, [.o 0 ((((Qo c c.1 (((Xi c.2.1 x)).1) (Qp (((Xi c.2.1 x)).1) [x.1]))).1).1.1), .o 1 ((((Qo c c.1 (((Xi c.2.1 x)).1) (Qp (((Xi c.2.1 x)).1) [x.1]))).1).1.2.1), .i ((((Qo c c.1 (((Xi c.2.1 x)).1) (Qp (((Xi c.2.1 x)).1) [x.1]))).1).1.2.2), .o 2 ((((Qo c c.1 (((Xi c.2.1 x)).1) (Qp (((Xi c.2.1 x)).1) [x.1]))).1).2.1), .o 3 ((((Qo c c.1 (((Xi c.2.1 x)).1) (Qp (((Xi c.2.1 x)).1) [x.1]))).1).2.2)]), (false, [.o 4 (((Qo c c.1 (((Xi c.2.1 x)).1) (Qp (((Xi c.2.1 x)).1) [x.1]))).2.1)]), (false, [.b (((Qo c c.1 (((Xi c.2.1 x)).1) (Qp (((Xi c.2.1 x)).1) [x.1]))).2.2)])]))] (o2 (Qg (Ut (((Xi c.2.1 x)).1) [x.1] (by first | omega | (simp; omega)))) (o1 (Qg (Qa6 c c.1 (((Xi c.2.1 x)).1) (Qp (((Xi c.2.1 x)).1) [x.1]))))) ?_
  refine Qq ?_
  exact Ze [] (congrArg (fun z => (.tup [(true, [.o 0 z.1.1.1, .o 1 z.1.1.2.1, .i z.1.1.2.2, .o 2 z.1.2.1, .o 3 z.1.2.2]), (false, [.o 4 z.2.1]), (false, [.b z.2.2])] : AV)) (show Yw c x = ((((Qo c c.1 (((Xi c.2.1 x)).1) (Qp (((Xi c.2.1 x)).1) [x.1]))).1), ((Qo c c.1 (((Xi c.2.1 x)).1) (Qp (((Xi c.2.1 x)).1) [x.1]))).2.1, ((Qo c c.1 (((Xi c.2.1 x)).1) (Qp (((Xi c.2.1 x)).1) [x.1]))).2.2) from Q6 h3 (rfl)).symm)
def We (f : Zb) (user : Int) : Bool := ((Vw user) && (f.2.1 == user))
theorem Qe0 (f : Zb) (user : Int) : ACalls Tryz.prog 80 [.a [.i f.1, .i f.2.1, .b f.2.2.1, .i f.2.2.2.1, .h f.2.2.2.2], .i user] (.b (We f user)) := by
 refine Qt (tt := tt) Qb Tryz.func80 (fn := Tryz.f80) rfl (by unfold Jr; kernel_rfl) (Nat.le_of_ble_eq_true rfl) fun w0 F0 hG => ?_
 refine Qa ?_
 refine rk Qb [(2, .p 2 0), (4, .b false)] [0] [(2, [.i f.1, .i f.2.1, .b f.2.2.1, .i f.2.2.2.1, .h f.2.2.2.2])] [] [] (o0) ?_
 refine Qa ?_
 refine jn [(4, .b ((Vw user) && (f.2.1 == user)))] [1, 2, 4] [] [2] (Vw user) (fun h1 => ?_) (fun h1 => ?_) ?_
 ·
  refine rk Qb [(4, .b (f.2.1 == user))] [1, 2, 4] [] [2] [(1, .val (.b true))] (o1 (Qg (cb h1 (Qay user)))) ?_
  exact ⟨rfl, Qd (by rw [h1]; first | done | kernel_rfl)⟩
 ·
  refine rk Qb [] [1, 2] [] [2] [(1, .val (.b false))] (o1 (Qg (cb h1 (Qay user)))) ?_
  exact ⟨rfl, Qd (by rw [h1]; first | done | kernel_rfl)⟩
 refine Qq ?_
 exact Ze [] (congrArg (fun z => (.b z : AV)) (show We f user = ((Vw user) && (f.2.1 == user)) from rfl).symm)
def Xj (c : Z4) (user : Int) (x : Hx) : Z4 × (List Qfo) × Bool := (bif ((!(Vw user)) || (!(Xk c))) then ((Qc c), [], false) else (bif (x.1 == (1 : Int)) then (bif (x.2.1.2.1 == user) then ((((Yq c x.2.1)).1), ((Yq c x.2.1)).2.2.1, ((Yq c x.2.1)).2.2.2) else ((Qc c), [], false)) else (bif (x.1 == (2 : Int)) then (bif (((Qu c.1 x.2.1.1)).2 && ((We (((Qu c.1 x.2.1.1)).1) user) && (x.2.1.2.1 == user))) then ((((Yf c x.2.1)).1), ((Yf c x.2.1)).2.1, ((Yf c x.2.1)).2.2) else ((Qc c), [], false)) else (bif (x.1 == (3 : Int)) then (bif (((Qu c.1 x.2.2.1)).2 && (We (((Qu c.1 x.2.2.1)).1) user)) then ((((Yg c x.2.2.1)).1), ((Yg c x.2.2.1)).2.1, ((Yg c x.2.2.1)).2.2) else ((Qc c), [], false)) else (bif (x.1 == (4 : Int)) then ((((Yw c x.2.2.2)).1), ((Yw c x.2.2.2)).2.1, ((Yw c x.2.2.2)).2.2) else (bif (x.1 == (5 : Int)) then (bif ((Ye c.2.1 x.2.2.2.1)).2 then ((((Qo c c.1 (((Ye c.2.1 x.2.2.2.1)).1) (Qp c.2.1 [x.2.2.2.1]))).1), ((Qo c c.1 (((Ye c.2.1 x.2.2.2.1)).1) (Qp c.2.1 [x.2.2.2.1]))).2.1, ((Qo c c.1 (((Ye c.2.1 x.2.2.2.1)).1) (Qp c.2.1 [x.2.2.2.1]))).2.2) else ((Qc c), [], false)) else ((Qc c), [], false)))))))
theorem implApplyChange_a (c : Z4) (user : Int) (x : Hx) : ACalls Tryz.prog 48 [.a [.h c.1.1, .h c.1.2.1, .i c.1.2.2, .h c.2.1, .h c.2.2], .i user, .a [.i x.1, .i x.2.1.1, .i x.2.1.2.1, .b x.2.1.2.2.1, .i x.2.1.2.2.2.1, .h x.2.1.2.2.2.2, .i x.2.2.1, .s x.2.2.2.1, .h x.2.2.2.2]] (.tup [(true, [.o 0 ((((Xj c user x)).1).1.1), .o 1 ((((Xj c user x)).1).1.2.1), .i ((((Xj c user x)).1).1.2.2), .o 2 ((((Xj c user x)).1).2.1), .o 3 ((((Xj c user x)).1).2.2)]), (false, [.o 4 (((Xj c user x)).2.1)]), (false, [.b (((Xj c user x)).2.2)])]) := by
 refine Qt (tt := tt) Qb Tryz.func48 (fn := Tryz.f48) rfl (by unfold Jr; kernel_rfl) (Nat.le_of_ble_eq_true rfl) fun w0 F0 hG => ?_
 refine Qa ?_
 refine rk Qb [(3, .p 3 0), (5, .p 5 0), (6, .p 6 0), (7, .e 0), (8, .b false)] [0, 2] [(3, [.h c.1.1, .h c.1.2.1, .i c.1.2.2, .h c.2.1, .h c.2.2]), (5, [.i x.1, .i x.2.1.1, .i x.2.1.2.1, .b x.2.1.2.2.1, .i x.2.1.2.2.2.1, .h x.2.1.2.2.2.2, .i x.2.2.1, .s x.2.2.2.1, .h x.2.2.2.2]), (6, [.e 2, .e 5, .i 0, .e 2, .e 2])] [] [] (o0) ?_
 refine Qa ?_
 refine Qa ?_
 refine jn [(26, .b ((!(Vw user)) || (!(Xk c))))] [] [] [] (!(Vw user)) (fun h1 => ?_) (fun h1 => ?_) ?_
 ·
  have h1n : (Vw user) = false := Ug h1
  refine rk Qb [(26, .b true)] [] [] [] [(1, .val (.b false)), (2, .val (.b true))] (o2 (Qg (cb h1n (Qay user))) (o1 (Qi (show .b (!false) = .b true from rfl)))) ?_
  exact ⟨rfl, Qd (by rw [h1]; first | done | kernel_rfl)⟩
 ·
  have h1n : (Vw user) = true := Jn h1
  refine rk Qb [(26, .b (!(Xk c)))] [] [] [] [(1, .val (.b true)), (2, .val (.b false)), (5, .val (.b (Xk c)))] (o2 (Qg (cb h1n (Qay user))) (o2 (Qi (show .b (!true) = .b false from rfl)) (o1 (Qg (Wd c))))) ?_
  exact ⟨rfl, Qd (by rw [h1]; first | done | kernel_rfl)⟩
 refine ck ((!(Vw user)) || (!(Xk c))) (fun h2 => ?_) (fun h2 => ?_)
 ·
  refine Qa ?_
  refine rk Qb [] [26] [(6, [.o 1792 ((Qc c).1.1), .o 1793 ((Qc c).1.2.1), .i ((Qc c).1.2.2), .o 1794 ((Qc c).2.1), .o 1795 ((Qc c).2.2)])] [6] [(1, .val (.a [.o 0 ((Qc c).1.1), .o 1 ((Qc c).1.2.1), .i ((Qc c).1.2.2), .o 2 ((Qc c).2.1), .o 3 ((Qc c).2.2)]))] (o1 (Qg (Zx c))) ?_
  refine opn [(false, 7, 0, true, 384000, 3)] ?_
  refine Qq ?_
  exact Ze [] (congrArg (fun z => (.tup [(true, [.o 0 z.1.1.1, .o 1 z.1.1.2.1, .i z.1.1.2.2, .o 2 z.1.2.1, .o 3 z.1.2.2]), (false, [.o 4 z.2.1]), (false, [.b z.2.2])] : AV)) (show Xj c user x = ((Qc c), [], false) from X8 h2 (rfl)).symm)
 ·
  have h2r : ((!(Xk c))) = false := or_r h2
  have h2rn : (Xk c) = true := Jn h2r
  have h2rnc := Qcg h2rn
  refine Qr ?_
  refine Qa ?_
  refine Qa ?_
  refine rk Qb [(30, .i x.1)] [26] [] [] [] (o0) ?_
  refine Xf ?_
  refine Qa ?_
  refine rk Qb [(31, .b (x.1 == (1 : Int)))] [] [] [] [] (o0) ?_
  refine ck (x.1 == (1 : Int)) (fun h3 => ?_) (fun h3 => ?_)
  ·
   refine Qa ?_
   refine rk Qb [(37, .b (x.2.1.2.1 == user))] [1, 30, 31] [] [] [] (o0) ?_
   refine ck (x.2.1.2.1 == user) (fun h4 => ?_) (fun h4 => ?_)
   ·
    refine Qa ?_
    refine rk Qb [(9, .p 9 0), (11, .o 2692 (((Yq c x.2.1)).2.2.1)), (12, .b (((Yq c x.2.1)).2.2.2))] [5, 37] [(9, [.o 2688 ((((Yq c x.2.1)).1).1.1), .o 2689 ((((Yq c x.2.1)).1).1.2.1), .i ((((Yq c x.2.1)).1).1.2.2), .o 2690 ((((Yq c x.2.1)).1).2.1), .o 2691 ((((Yq c x.2.1)).1).2.2)])] [5] [(3, .val (.tup [(true, [.o 0 ((((Yq c x.2.1)).1).1.1), .o 1 ((((Yq c x.2.1)).1).1.2.1), .i ((((Yq c x.2.1)).1).1.2.2), .o 2 ((((Yq c x.2.1)).1).2.1), .o 3 ((((Yq c x.2.1)).1).2.2)]), (false, [.i (((Yq c x.2.1)).2.1)]), (false, [.o 4 (((Yq c x.2.1)).2.2.1)]), (false, [.b (((Yq c x.2.1)).2.2.2)])]))] (o1 (Qg (implAddFile_a c x.2.1))) ?_
    refine Qa ?_
    refine rk Qb [(7, .o 2692 (((Yq c x.2.1)).2.2.1)), (8, .b (((Yq c x.2.1)).2.2.2))] [7, 8, 9, 11, 12] [(6, [.o 2688 ((((Yq c x.2.1)).1).1.1), .o 2689 ((((Yq c x.2.1)).1).1.2.1), .i ((((Yq c x.2.1)).1).1.2.2), .o 2690 ((((Yq c x.2.1)).1).2.1), .o 2691 ((((Yq c x.2.1)).1).2.2)])] [6, 9] [] (o0) ?_
    refine Qq ?_
    exact Ze [] (congrArg (fun z => (.tup [(true, [.o 0 z.1.1.1, .o 1 z.1.1.2.1, .i z.1.1.2.2, .o 2 z.1.2.1, .o 3 z.1.2.2]), (false, [.o 4 z.2.1]), (false, [.b z.2.2])] : AV)) (show Xj c user x = ((((Yq c x.2.1)).1), ((Yq c x.2.1)).2.2.1, ((Yq c x.2.1)).2.2.2) from Q6 h2 (X8 h3 (X8 h4 (rfl)))).symm)
   ·
    refine Qr ?_
    refine Qa ?_
    refine rk Qb [] [3, 5, 37] [(6, [.o 9024 ((Qc c).1.1), .o 9025 ((Qc c).1.2.1), .i ((Qc c).1.2.2), .o 9026 ((Qc c).2.1), .o 9027 ((Qc c).2.2)])] [3, 5, 6] [(1, .val (.a [.o 0 ((Qc c).1.1), .o 1 ((Qc c).1.2.1), .i ((Qc c).1.2.2), .o 2 ((Qc c).2.1), .o 3 ((Qc c).2.2)]))] (o1 (Qg (Zx c))) ?_
    refine opn [(false, 7, 0, true, 384000, 3)] ?_
    refine Qq ?_
    exact Ze [] (congrArg (fun z => (.tup [(true, [.o 0 z.1.1.1, .o 1 z.1.1.2.1, .i z.1.1.2.2, .o 2 z.1.2.1, .o 3 z.1.2.2]), (false, [.o 4 z.2.1]), (false, [.b z.2.2])] : AV)) (show Xj c user x = ((Qc c), [], false) from Q6 h2 (X8 h3 (Q6 h4 (rfl)))).symm)
  ·
   have h3d := Zz h3
   refine Qa ?_
   refine rk Qb [(50, .b (x.1 == (2 : Int)))] [31] [] [] [] (o0) ?_
   refine ck (x.1 == (2 : Int)) (fun h5 => ?_) (fun h5 => ?_)
   ·
    refine Qa ?_
    refine rk Qb [(13, .p 13 0), (14, .b (((Qu c.1 x.2.1.1)).2))] [30, 50] [(13, [.i ((((Qu c.1 x.2.1.1)).1).1), .i ((((Qu c.1 x.2.1.1)).1).2.1), .b ((((Qu c.1 x.2.1.1)).1).2.2.1), .i ((((Qu c.1 x.2.1.1)).1).2.2.2.1), .o 3712 ((((Qu c.1 x.2.1.1)).1).2.2.2.2)])] [] [(5, .val (.tup [(true, [.i ((((Qu c.1 x.2.1.1)).1).1), .i ((((Qu c.1 x.2.1.1)).1).2.1), .b ((((Qu c.1 x.2.1.1)).1).2.2.1), .i ((((Qu c.1 x.2.1.1)).1).2.2.2.1), .o 0 ((((Qu c.1 x.2.1.1)).1).2.2.2.2)]), (false, [.b (((Qu c.1 x.2.1.1)).2)])]))] (o1 (Qg (Qez c.1 x.2.1.1))) ?_
    refine Qa ?_
    refine jn [(73, .b (((Qu c.1 x.2.1.1)).2 && ((We (((Qu c.1 x.2.1.1)).1) user) && (x.2.1.2.1 == user))))] [1, 13, 14] [] [13] (((Qu c.1 x.2.1.1)).2) (fun h6 => ?_) (fun h6 => ?_) ?_
    ·
     refine X9 (We (((Qu c.1 x.2.1.1)).1) user) (fun h7 => ?_) (fun h7 => ?_)
     ·
      refine rk Qb [(73, .b (x.2.1.2.1 == user))] [1, 13, 14] [] [13] [(0, .val (.b true)), (4, .val (.b true))] (o2 (Qi (Qh h6)) (o1 (Qg (cb h7 (Qe0 (((Qu c.1 x.2.1.1)).1) user))))) ?_
      exact ⟨rfl, Qd (by rw [h6, h7]; first | done | kernel_rfl)⟩
     ·
      refine rk Qb [(73, .b false)] [1, 13, 14] [] [13] [(0, .val (.b true)), (4, .val (.b false))] (o2 (Qi (Qh h6)) (o1 (Qg (cb h7 (Qe0 (((Qu c.1 x.2.1.1)).1) user))))) ?_
      exact ⟨rfl, Qd (by rw [h6, h7]; first | done | kernel_rfl)⟩
    ·
     refine rk Qb [(73, .b false)] [1, 13, 14] [] [13] [(0, .val (.b false))] (o1 (Qi (Qh h6))) ?_
     exact ⟨rfl, Qd (by rw [h6]; first | done | kernel_rfl)⟩
    refine ck (((Qu c.1 x.2.1.1)).2 && ((We (((Qu c.1 x.2.1.1)).1) user) && (x.2.1.2.1 == user))) (fun h8 => ?_) (fun h8 => ?_)
    ·
     refine Qa ?_
     refine rk Qb [(7, .o 4932 (((Yf c x.2.1)).2.1)), (8, .b (((Yf c x.2.1)).2.2))] [5, 7, 8, 73] [(6, [.o 4928 ((((Yf c x.2.1)).1).1.1), .o 4929 ((((Yf c x.2.1)).1).1.2.1), .i ((((Yf c x.2.1)).1).1.2.2), .o 4930 ((((Yf c x.2.1)).1).2.1), .o 4931 ((((Yf c x.2.1)).1).2.2)])] [5, 6] [(3, .val (.tup [(true, [.o 0 ((((Yf c x.2.1)).1).1.1), .o 1 ((((Yf c x.2.1)).1).1.2.1), .i ((((Yf c x.2.1)).1).1.2.2), .o 2 ((((Yf c x.2.1)).1).2.1), .o 3 ((((Yf c x.2.1)).1).2.2)]), (false, [.o 4 (((Yf c x.2.1)).2.1)]), (false, [.b (((Yf c x.2.1)).2.2)])]))] (o1 (Qg (implUpdateFile_a c x.2.1))) ?_
     refine Qq ?_
     exact Ze [] (congrArg (fun z => (.tup [(true, [.o 0 z.1.1.1, .o 1 z.1.1.2.1, .i z.1.1.2.2, .o 2 z.1.2.1, .o 3 z.1.2.2]), (false, [.o 4 z.2.1]), (false, [.b z.2.2])] : AV)) (show Xj c user x = ((((Yf c x.2.1)).1), ((Yf c x.2.1)).2.1, ((Yf c x.2.1)).2.2) from Q6 h2 (Q6 h3 (X8 h5 (X8 h8 (rfl))))).symm)
    ·
     refine Qr ?_
     refine Qa ?_
     refine rk Qb [] [3, 5, 73] [(6, [.o 9024 ((Qc c).1.1), .o 9025 ((Qc c).1.2.1), .i ((Qc c).1.2.2), .o 9026 ((Qc c).2.1), .o 9027 ((Qc c).2.2)])] [3, 5, 6] [(1, .val (.a [.o 0 ((Qc c).1.1), .o 1 ((Qc c).1.2.1), .i ((Qc c).1.2.2), .o 2 ((Qc c).2.1), .o 3 ((Qc c).2.2)]))] (o1 (Qg (Zx c))) ?_
     refine opn [(false, 7, 0, true, 384000, 3)] ?_
     refine Qq ?_
     exact Ze [] (congrArg (fun z => (.tup [(true, [.o 0 z.1.1.1, .o 1 z.1.1.2.1, .i z.1.1.2.2, .o 2 z.1.2.1, .o 3 z.1.2.2]), (false, [.o 4 z.2.1]), (false, [.b z.2.2])] : AV)) (show Xj c user x = ((Qc c), [], false) from Q6 h2 (Q6 h3 (X8 h5 (Q6 h8 (rfl))))).symm)
   ·
    have h5d := Zz h5
    refine Qa ?_
    refine rk Qb [(81, .b (x.1 == (3 : Int)))] [50] [] [] [] (o0) ?_
    refine ck (x.1 == (3 : Int)) (fun h9 => ?_) (fun h9 => ?_)
    ·
     refine Qa ?_
     refine rk Qb [(15, .p 15 0), (16, .b (((Qu c.1 x.2.2.1)).2))] [30, 81] [(15, [.i ((((Qu c.1 x.2.2.1)).1).1), .i ((((Qu c.1 x.2.2.1)).1).2.1), .b ((((Qu c.1 x.2.2.1)).1).2.2.1), .i ((((Qu c.1 x.2.2.1)).1).2.2.2.1), .o 5632 ((((Qu c.1 x.2.2.1)).1).2.2.2.2)])] [] [(4, .val (.tup [(true, [.i ((((Qu c.1 x.2.2.1)).1).1), .i ((((Qu c.1 x.2.2.1)).1).2.1), .b ((((Qu c.1 x.2.2.1)).1).2.2.1), .i ((((Qu c.1 x.2.2.1)).1).2.2.2.1), .o 0 ((((Qu c.1 x.2.2.1)).1).2.2.2.2)]), (false, [.b (((Qu c.1 x.2.2.1)).2)])]))] (o1 (Qg (Qez c.1 x.2.2.1))) ?_
     refine Qa ?_
     refine jn [(96, .b (((Qu c.1 x.2.2.1)).2 && (We (((Qu c.1 x.2.2.1)).1) user)))] [1, 15, 16] [] [15] (((Qu c.1 x.2.2.1)).2) (fun h10 => ?_) (fun h10 => ?_) ?_
     ·
      refine rk Qb [(96, .b (We (((Qu c.1 x.2.2.1)).1) user))] [1, 15, 16] [] [15] [(0, .val (.b true)), (4, .val (.b (We (((Qu c.1 x.2.2.1)).1) user)))] (o2 (Qi (Qh h10)) (o1 (Qg (Qe0 (((Qu c.1 x.2.2.1)).1) user)))) ?_
      exact ⟨rfl, Qd (by rw [h10]; first | done | kernel_rfl)⟩
     ·
      refine rk Qb [(96, .b false)] [1, 15, 16] [] [15] [(0, .val (.b false))] (o1 (Qi (Qh h10))) ?_
      exact ⟨rfl, Qd (by rw [h10]; first | done | kernel_rfl)⟩
     refine ck (((Qu c.1 x.2.2.1)).2 && (We (((Qu c.1 x.2.2.1)).1) user)) (fun h11 => ?_) (fun h11 => ?_)
     ·
      refine Qa ?_
      refine rk Qb [(7, .o 6404 (((Yg c x.2.2.1)).2.1)), (8, .b (((Yg c x.2.2.1)).2.2))] [5, 7, 8, 96] [(6, [.o 6400 ((((Yg c x.2.2.1)).1).1.1), .o 6401 ((((Yg c x.2.2.1)).1).1.2.1), .i ((((Yg c x.2.2.1)).1).1.2.2), .o 6402 ((((Yg c x.2.2.1)).1).2.1), .o 6403 ((((Yg c x.2.2.1)).1).2.2)])] [5, 6] [(3, .val (.tup [(true, [.o 0 ((((Yg c x.2.2.1)).1).1.1), .o 1 ((((Yg c x.2.2.1)).1).1.2.1), .i ((((Yg c x.2.2.1)).1).1.2.2), .o 2 ((((Yg c x.2.2.1)).1).2.1), .o 3 ((((Yg c x.2.2.1)).1).2.2)]), (false, [.o 4 (((Yg c x.2.2.1)).2.1)]), (false, [.b (((Yg c x.2.2.1)).2.2)])]))] (o1 (Qg (implRemoveFile_a c x.2.2.1))) ?_
      refine Qq ?_
      exact Ze [] (congrArg (fun z => (.tup [(true, [.o 0 z.1.1.1, .o 1 z.1.1.2.1, .i z.1.1.2.2, .o 2 z.1.2.1, .o 3 z.1.2.2]), (false, [.o 4 z.2.1]), (false, [.b z.2.2])] : AV)) (show Xj c user x = ((((Yg c x.2.2.1)).1), ((Yg c x.2.2.1)).2.1, ((Yg c x.2.2.1)).2.2) from Q6 h2 (Q6 h3 (Q6 h5 (X8 h9 (X8 h11 (rfl)))))).symm)
     ·
      refine Qr ?_
      refine Qa ?_
      refine rk Qb [] [3, 5, 96] [(6, [.o 9024 ((Qc c).1.1), .o 9025 ((Qc c).1.2.1), .i ((Qc c).1.2.2), .o 9026 ((Qc c).2.1), .o 9027 ((Qc c).2.2)])] [3, 5, 6] [(1, .val (.a [.o 0 ((Qc c).1.1), .o 1 ((Qc c).1.2.1), .i ((Qc c).1.2.2), .o 2 ((Qc c).2.1), .o 3 ((Qc c).2.2)]))] (o1 (Qg (Zx c))) ?_
      refine opn [(false, 7, 0, true, 384000, 3)] ?_
      refine Qq ?_
      exact Ze [] (congrArg (fun z => (.tup [(true, [.o 0 z.1.1.1, .o 1 z.1.1.2.1, .i z.1.1.2.2, .o 2 z.1.2.1, .o 3 z.1.2.2]), (false, [.o 4 z.2.1]), (false, [.b z.2.2])] : AV)) (show Xj c user x = ((Qc c), [], false) from Q6 h2 (Q6 h3 (Q6 h5 (X8 h9 (Q6 h11 (rfl)))))).symm)
    ·
     have h9d := Zz h9
     refine Qa ?_
     refine rk Qb [(104, .b (x.1 == (4 : Int)))] [1, 81] [] [] [] (o0) ?_
     refine ck (x.1 == (4 : Int)) (fun h12 => ?_) (fun h12 => ?_)
     ·
      have h12d := eq_of_beq h12
      refine Qa ?_
      refine rk Qb [(7, .o 6980 (((Yw c x.2.2.2)).2.1)), (8, .b (((Yw c x.2.2.2)).2.2))] [5, 7, 8, 30, 104] [(6, [.o 6976 ((((Yw c x.2.2.2)).1).1.1), .o 6977 ((((Yw c x.2.2.2)).1).1.2.1), .i ((((Yw c x.2.2.2)).1).1.2.2), .o 6978 ((((Yw c x.2.2.2)).1).2.1), .o 6979 ((((Yw c x.2.2.2)).1).2.2)])] [5, 6] [(3, .val (.tup [(true, [.o 0 ((((Yw c x.2.2.2)).1).1.1), .o 1 ((((Yw c x.2.2.2)).1).1.2.1), .i ((((Yw c x.2.2.2)).1).1.2.2), .o 2 ((((Yw c x.2.2.2)).1).2.1), .o 3 ((((Yw c x.2.2.2)).1).2.2)]), (false, [.o 4 (((Yw c x.2.2.2)).2.1)]), (false, [.b (((Yw c x.2.2.2)).2.2)])]))] (o1 (Qg (implDefineDir_a c x.2.2.2 (by first | omega | (simp; omega))))) ?_
      refine Qq ?_
      exact Ze [] (congrArg (fun z => (.tup [(true, [.o 0 z.1.1.1, .o 1 z.1.1.2.1, .i z.1.1.2.2, .o 2 z.1.2.1, .o 3 z.1.2.2]), (false, [.o 4 z.2.1]), (false, [.b z.2.2])] : AV)) (show Xj c user x = ((((Yw c x.2.2.2)).1), ((Yw c x.2.2.2)).2.1, ((Yw c x.2.2.2)).2.2) from Q6 h2 (Q6 h3 (Q6 h5 (Q6 h9 (X8 h12 (rfl)))))).symm)
     ·
      have h12d := Zz h12
      refine Qa ?_
      refine rk Qb [(113, .b (x.1 == (5 : Int)))] [30, 104] [] [] [] (o0) ?_
      refine ck (x.1 == (5 : Int)) (fun h13 => ?_) (fun h13 => ?_)
      ·
       have h13d := eq_of_beq h13
       refine Qa ?_
       refine rk Qb [(17, .h (((Ye c.2.1 x.2.2.2.1)).1)), (18, .b (((Ye c.2.1 x.2.2.2.1)).2))] [113] [] [] [(5, .val (.tup [(false, [.h (((Ye c.2.1 x.2.2.2.1)).1)]), (false, [.b (((Ye c.2.1 x.2.2.2.1)).2)])]))] (o1 (Qg (implRemoveDir_a c.2.1 x.2.2.2.1))) ?_
       refine Qa ?_
       refine rk Qb [(124, .b (((Ye c.2.1 x.2.2.2.1)).2))] [18] [] [] [] (o0) ?_
       refine ck (((Ye c.2.1 x.2.2.2.1)).2) (fun h14 => ?_) (fun h14 => ?_)
       ·
        refine Qa ?_
        refine rd' Qb Js [(7, .o 8708 (((Qo c c.1 (((Ye c.2.1 x.2.2.2.1)).1) (Qp c.2.1 [x.2.2.2.1]))).2.1)), (8, .b (((Qo c c.1 (((Ye c.2.1 x.2.2.2.1)).1) (Qp c.2.1 [x.2.2.2.1]))).2.2))] [5, 7, 8, 17, 124] [(6, [.o 8704 ((((Qo c c.1 (((Ye c.2.1 x.2.2.2.1)).1) (Qp c.2.1 [x.2.2.2.1]))).1).1.1), .o 8705 ((((Qo c c.1 (((Ye c.2.1 x.2.2.2.1)).1) (Qp c.2.1 [x.2.2.2.1]))).1).1.2.1), .i ((((Qo c c.1 (((Ye c.2.1 x.2.2.2.1)).1) (Qp c.2.1 [x.2.2.2.1]))).1).1.2.2), .o 8706 ((((Qo c c.1 (((Ye c.2.1 x.2.2.2.1)).1) (Qp c.2.1 [x.2.2.2.1]))).1).2.1), .o 8707 ((((Qo c c.1 (((Ye c.2.1 x.2.2.2.1)).1) (Qp c.2.1 [x.2.2.2.1]))).1).2.2)])] [5, 6] [(10, .val (.h (Qp c.2.1 [x.2.2.2.1]))), (11, .val (.tup [(true, [.o 0 ((((Qo c c.1 (((Ye c.2.1 x.2.2.2.1)).1) (Qp c.2.1 [x.2.2.2.1]))).1).1.1), .o 1 ((((Qo c c.1 (((Ye c.2.1 x.2.2.2.1)).1) (Qp c.2.1 [x.2.2.2.1]))).1).1.2.1), .i ((((Qo c c.1 (((Ye c.2.1 x.2.2.2.1)).1) (Qp c.2.1 [x.2.2.2.1]))).1).1.2.2), .o 2 ((((Qo c c.1 (((Ye c.2.1 x.2.2.2.1)).1) (Qp c.2.1 [x.2.2.2.1]))).1).2.1), .o 3 ((((Qo c c.1 (((Ye c.2.1 x.2.2.2.1)).1) (Qp c.2.1 [x.2.2.2.1]))).1).2.2)]), (false, [.o 4 (((Qo c c.1 (((Ye c.2.1 x.2.2.2.1)).1) (Qp c.2.1 [x.2.2.2.1]))).2.1)]), (false, [.b (((Qo c c.1 (((Ye c.2.1 x.2.2.2.1)).1) (Qp c.2.1 [x.2.2.2.1]))).2.2)])]))] (o2 (Qg (Ut c.2.1 [x.2.2.2.1] (by first | omega | (simp; omega)))) (o1 (Qg (Qa6 c c.1 (((Ye c.2.1 x.2.2.2.1)).1) (Qp c.2.1 [x.2.2.2.1]))))) ?_
        refine Qq ?_
        exact Ze [] (congrArg (fun z => (.tup [(true, [.o 0 z.1.1.1, .o 1 z.1.1.2.1, .i z.1.1.2.2, .o 2 z.1.2.1, .o 3 z.1.2.2]), (false, [.o 4 z.2.1]), (false, [.b z.2.2])] : AV)) (show Xj c user x = ((((Qo c c.1 (((Ye c.2.1 x.2.2.2.1)).1) (Qp c.2.1 [x.2.2.2.1]))).1), ((Qo c c.1 (((Ye c.2.1 x.2.2.2.1)).1) (Qp c.2.1 [x.2.2.2.1]))).2.1, ((Qo c c.1 (((Ye c.2.1 x.2.2.2.1)).1) (Qp c.2.1 [x.2.2.2.1]))).2.2) from Q6 h2 (Q6 h3 (Q6 h5 (Q6 h9 (Q6 h12 (X8 h13 (X8 h14 (rfl)))))))).symm)
       ·
        refine Qr ?_
        refine Qa ?_
        refine rk Qb [] [3, 5, 17, 124] [(6, [.o 9024 ((Qc c).1.1), .o 9025 ((Qc c).1.2.1), .i ((Qc c).1.2.2), .o 9026 ((Qc c).2.1), .o 9027 ((Qc c).2.2)])] [3, 5, 6] [(1, .val (.a [.o 0 ((Qc c).1.1), .o 1 ((Qc c).1.2.1), .i ((Qc c).1.2.2), .o 2 ((Qc c).2.1), .o 3 ((Qc c).2.2)]))] (o1 (Qg (Zx c))) ?_
        refine opn [(false, 7, 0, true, 384000, 3)] ?_
        refine Qq ?_
        exact Ze [] (congrArg (fun z => (.tup [(true, [.o 0 z.1.1.1, .o 1 z.1.1.2.1, .i z.1.1.2.2, .o 2 z.1.2.1, .o 3 z.1.2.2]), (false, [.o 4 z.2.1]), (false, [.b z.2.2])] : AV)) (show Xj c user x = ((Qc c), [], false) from Q6 h2 (Q6 h3 (Q6 h5 (Q6 h9 (Q6 h12 (X8 h13 (Q6 h14 (rfl)))))))).symm)
      ·
       refine Qr ?_
       refine Qa ?_
       refine rk Qb [] [3, 5, 113] [(6, [.o 9024 ((Qc c).1.1), .o 9025 ((Qc c).1.2.1), .i ((Qc c).1.2.2), .o 9026 ((Qc c).2.1), .o 9027 ((Qc c).2.2)])] [3, 5, 6] [(1, .val (.a [.o 0 ((Qc c).1.1), .o 1 ((Qc c).1.2.1), .i ((Qc c).1.2.2), .o 2 ((Qc c).2.1), .o 3 ((Qc c).2.2)]))] (o1 (Qg (Zx c))) ?_
       refine opn [(false, 7, 0, true, 384000, 3)] ?_
       refine Qq ?_
       exact Ze [] (congrArg (fun z => (.tup [(true, [.o 0 z.1.1.1, .o 1 z.1.1.2.1, .i z.1.1.2.2, .o 2 z.1.2.1, .o 3 z.1.2.2]), (false, [.o 4 z.2.1]), (false, [.b z.2.2])] : AV)) (show Xj c user x = ((Qc c), [], false) from Q6 h2 (Q6 h3 (Q6 h5 (Q6 h9 (Q6 h12 (Q6 h13 (rfl))))))).symm)
end Go.Proofs.YtamghcfmhfknmaaGreat
namespace Go.Proofs.YtamghcfmhfknmaaGreat
open Go.RowKit
open GoD (rd own)
theorem inR_u8 (a : UInt8) : InR .u8 (a.toNat : Int) := by
  have h : a.toNat < 256 := a.toNat_lt
  constructor <;> simp [IntKind.min, IntKind.max, IntKind.bits, IntKind.signed] <;> omega
instance instGoEU8 : GoE UInt8 where
  enc a := [.int .u8 (a.toNat : Int)]
  enc_len _ := rfl
  n_pos := Nat.zero_lt_one
  wide _ := True
  wide_size _ := trivial
  vc_wide _ := trivial
  rd_vc {w cs a} h _ := by rw [show cs = _ from h]; exact .cons (.int (inR_u8 a)) .nil
  vc_rd h := by
    cases h with
    | cons h1 h2 => cases h2; cases h1; rfl
  own_oc h _ := by obtain ⟨rfl, h⟩ := h; rw [h]; exact OC.cons (L1 := []) (L2 := []) (.int (inR_u8 _)) .nil
  oc_own h _ := by
    cases h with
    | cons h1 h2 => cases h2; cases h1; exact ⟨rfl, rfl⟩
open GoE (enc wide)
def Qd3 (k0 : Nat) (a0 : UInt8) (s0 : Int) : Rd (Nat × Int) (Int) (Int) := (bif decide (((k0 : Nat) : Int) < (4000 : Int)) then (.next (andI .i64 (IntKind.i64.wrap (IntKind.i64.wrap (IntKind.i64.wrap (s0 * 131) + IntKind.i64.wrap (UInt8.toNat a0 : Int)) + 7)) 1073741823)) else (.brk s0))
def Qd4 (_ : Nat) (s0 : Int) : Int := s0
def Qc6 (code : (List UInt8)) : Nat × Int := (Out.on (Xv Qd3 Qd4 code 0 (IntKind.i64.wrap (94701 + (code.length : Int)))) (fun y0 => (0, y0)))
set_option maxRecDepth 30000 in
theorem specl01New_a (code : (List UInt8)) : ANew Tryz.prog 27 [.h code] [.h code, .i (((Qc6 code).1 : Nat) : Int), .i ((Qc6 code).2)] := by
 refine anew_of Tryz.func27 (fn := Tryz.f27) rfl (by unfold Jr; kernel_rfl) (Nat.le_of_ble_eq_true rfl) rfl fun w0 F0 hG => ?_
 refine Qa ?_
 refine rk Qb [] [] [] [] [] (o0) ?_
 refine Qa ?_
 refine rk Qb [(3, .i (IntKind.i64.wrap (94701 + (code.length : Int))))] [] [] [] [(1, .val (.i (code.length : Int)))] (o1 (Qi (Xs code))) ?_
 refine Qa ?_
 refine Qa ?_
 refine rk Qb [(4, .i 0)] [] [] [] [] (o0) ?_
 refine wdT 0 0 .sh code (fun hw1 => ?_)
 have hl2 : List.length code ≤ 1073741824 := Qx (hw1)
 refine blk (fun (k0 : Nat) (s0 : Int) => [(3, .i s0), (4, .i ((k0 : Nat) : Int))]) [3, 4] (fun k0 s0 => []) [] (fun (y0 : Int) => [(3, .i y0)]) [3, 4] (fun y0 => []) [] (fun (k0 : Nat) (s0 : Int) => (Xv Qd3 Qd4 code 0 (IntKind.i64.wrap (94701 + (code.length : Int)))) = Xv Qd3 Qd4 (List.drop k0 code) k0 s0) (fun (y0 : Int) => (Xv Qd3 Qd4 code 0 (IntKind.i64.wrap (94701 + (code.length : Int)))) = .brk y0) code.length (IntKind.i64.wrap (94701 + (code.length : Int))) (Qd (by kernel_rfl)) rfl (fun k0 s0 hk0 hI0 => ?_) (fun k0 s0 hk0 hI0 => ?_) (fun y0 hD0 => ?_)
 ·
  obtain ⟨a0, hx0⟩ := Yl (l := code) (i := k0) hk0
  refine Qa ?_
  refine Qa ?_
  refine rk Qb [(15, .b (decide (((k0 : Nat) : Int) < (4000 : Int))))] [] [] [] [(2, .val (.i (code.length : Int))), (3, .val (.b true))] (o2 (Qi (Xs code)) (o1 (Qi (Qh (decide_eq_true (p := ((k0 : Nat) : Int) < (code.length : Int)) (by omega)))))) ?_
  refine ck (decide (((k0 : Nat) : Int) < (4000 : Int))) (fun h3 => ?_) (fun h3 => ?_)
  ·
   have h3d := of_decide_eq_true h3
   refine Qr ?_
   refine Qa ?_
   refine Xf ?_
   refine rk Qb [(3, .i (andI .i64 (IntKind.i64.wrap (IntKind.i64.wrap (IntKind.i64.wrap (s0 * 131) + IntKind.i64.wrap (UInt8.toNat a0 : Int)) + 7)) 1073741823))] [3, 15] [] [] [(4, .row [.int .u8 (UInt8.toNat a0 : Int)])] (o1 (Qy (X4 (i := ((k0 : Nat) : Int)) (by omega) rfl hx0))) ?_
   refine rk Qb [(4, .i ((k0 + 1 : Nat) : Int))] [4] [] [] [(1, .val (.i ((k0 + 1 : Nat) : Int)))] (o1 (Qi (Km (Q8 k0 (by omega))))) ?_
   exact Exists.intro (andI .i64 (IntKind.i64.wrap (IntKind.i64.wrap (IntKind.i64.wrap (s0 * 131) + IntKind.i64.wrap (UInt8.toNat a0 : Int)) + 7)) 1073741823) (And.intro (Qd (by kernel_rfl)) (Xe hx0 (X8 h3 (rfl)) hI0))
  ·
   refine Xt ?_
   exact Exists.intro s0 (And.intro (Qd (by kernel_rfl)) (forL_brk hx0 (Q6 h3 (rfl)) hI0))
 ·
  refine Qa ?_
  refine Qa ?_
  refine rk Qb [(15, .b false)] [] [] [] [(2, .val (.i (code.length : Int))), (3, .val (.b false))] (o2 (Qi (Xs code)) (o1 (Qi (Qh (decide_eq_false (p := ((k0 : Nat) : Int) < (code.length : Int)) (by omega)))))) ?_
  refine ckF ?_
  refine Xt ?_
  exact Exists.intro s0 (And.intro (Qd (by kernel_rfl)) (Ym hk0 (rfl) hI0))
 ·
  refine Qa ?_
  refine rk Qb [(2, .p 31 0)] [0, 3] [(31, [.h code, .i 0, .i y0])] [] [] (o0) ?_
  refine Qq ?_
  exact nret [] 2 31 (congrArg (fun z => ([.h code, .i ((z.1 : Nat) : Int), .i z.2] : List C)) (show Qc6 code = (0, y0) from Hk hD0 (rfl)).symm)
def Jg (code : (List UInt8)) (ci : Nat) (ch : Int) : Int × Nat × Int := (bif decide (((ci : Nat) : Int) < (code.length : Int)) then (andI .i64 (IntKind.i64.wrap (andI .i64 (xorI .i64 (shrI .i64 (IntKind.i64.wrap (IntKind.i64.wrap (ch * 6364136223846793005) + 1442695040888963407)) 33) (shrI .i64 (IntKind.i64.wrap (IntKind.i64.wrap (ch * 6364136223846793005) + 1442695040888963407)) 45)) 255 + IntKind.i64.wrap (UInt8.toNat (nth code ci) : Int))) 255, ci + 1, IntKind.i64.wrap (IntKind.i64.wrap (ch * 6364136223846793005) + 1442695040888963407)) else (andI .i64 (xorI .i64 (shrI .i64 (IntKind.i64.wrap (IntKind.i64.wrap (ch * 6364136223846793005) + 1442695040888963407)) 33) (shrI .i64 (IntKind.i64.wrap (IntKind.i64.wrap (ch * 6364136223846793005) + 1442695040888963407)) 45)) 255, ci, IntKind.i64.wrap (IntKind.i64.wrap (ch * 6364136223846793005) + 1442695040888963407)))
theorem Qcy (code : (List UInt8)) (ci : Nat) (ch : Int) : AGive Tryz.prog 70 [.h code, .i ((ci : Nat) : Int), .i ch] [] (.i (((Jg code ci ch)).1)) [.h code, .i ((((Jg code ci ch)).2.1 : Nat) : Int), .i (((Jg code ci ch)).2.2)] := by
 refine agive_of (tt := tt) Qb Tryz.func70 (fn := Tryz.f70) rfl (by unfold Jr; kernel_rfl) (Nat.le_of_ble_eq_true rfl) (Nat.le_of_ble_eq_true rfl) rfl rfl fun w0 F0 hG => ?_
 refine Qa ?_
 refine rk Qb [(2, .i 0)] [] [] [] [] (o0) ?_
 refine Qa ?_
 refine rk Qb [] [] [(60000, [.h code, .i ((ci : Nat) : Int), .i (IntKind.i64.wrap (IntKind.i64.wrap (ch * 6364136223846793005) + 1442695040888963407))])] [60000] [] (o0) ?_
 refine Qa ?_
 refine rd' Qb Js [(3, .i (andI .i64 (xorI .i64 (shrI .i64 (IntKind.i64.wrap (IntKind.i64.wrap (ch * 6364136223846793005) + 1442695040888963407)) 33) (shrI .i64 (IntKind.i64.wrap (IntKind.i64.wrap (ch * 6364136223846793005) + 1442695040888963407)) 45)) 255))] [] [] [] [] (o0) ?_
 refine Qa ?_
 refine Qa ?_
 refine rd' Qb Js [(34, .b (decide (((ci : Nat) : Int) < (code.length : Int))))] [] [] [] [(8, .val (.i (code.length : Int)))] (o1 (Qi (Xs code))) ?_
 refine ck (decide (((ci : Nat) : Int) < (code.length : Int))) (fun h1 => ?_) (fun h1 => ?_)
 ·
  have h1d := of_decide_eq_true h1
  refine Qa ?_
  refine wdB 60000 0 .sh code (fun hw3 => ?_)
  have hl4 : List.length code ≤ 1073741824 := Qx (hw3)
  have hx2 : code[ci]? = some (nth code ci) := Yj (by omega)
  refine rd' Qb Js [(3, .i (andI .i64 (IntKind.i64.wrap (andI .i64 (xorI .i64 (shrI .i64 (IntKind.i64.wrap (IntKind.i64.wrap (ch * 6364136223846793005) + 1442695040888963407)) 33) (shrI .i64 (IntKind.i64.wrap (IntKind.i64.wrap (ch * 6364136223846793005) + 1442695040888963407)) 45)) 255 + IntKind.i64.wrap (UInt8.toNat (nth code ci) : Int))) 255))] [3, 34] [] [] [(9, .row [.int .u8 (UInt8.toNat (nth code ci) : Int)])] (o1 (Qy (X4 (i := ((ci : Nat) : Int)) (by omega) rfl hx2))) ?_
  refine rk Qb [] [] [(60000, [.h code, .i ((ci + 1 : Nat) : Int), .i (IntKind.i64.wrap (IntKind.i64.wrap (ch * 6364136223846793005) + 1442695040888963407))])] [60000] [(5, .val (.i ((ci + 1 : Nat) : Int)))] (o1 (Qi (Km (Q8 ci (by omega))))) ?_
  refine Qa ?_
  refine rk Qb [(2, .i (andI .i64 (IntKind.i64.wrap (andI .i64 (xorI .i64 (shrI .i64 (IntKind.i64.wrap (IntKind.i64.wrap (ch * 6364136223846793005) + 1442695040888963407)) 33) (shrI .i64 (IntKind.i64.wrap (IntKind.i64.wrap (ch * 6364136223846793005) + 1442695040888963407)) 45)) 255 + IntKind.i64.wrap (UInt8.toNat (nth code ci) : Int))) 255))] [2, 3] [] [] [] (o0) ?_
  refine Qq ?_
  have hE5 : Jg code ci ch = (andI .i64 (IntKind.i64.wrap (andI .i64 (xorI .i64 (shrI .i64 (IntKind.i64.wrap (IntKind.i64.wrap (ch * 6364136223846793005) + 1442695040888963407)) 33) (shrI .i64 (IntKind.i64.wrap (IntKind.i64.wrap (ch * 6364136223846793005) + 1442695040888963407)) 45)) 255 + IntKind.i64.wrap (UInt8.toNat (nth code ci) : Int))) 255, ci + 1, IntKind.i64.wrap (IntKind.i64.wrap (ch * 6364136223846793005) + 1442695040888963407)) := X8 h1 (rfl)
  exact gret [] (congrArg (fun z => (.i z.1 : AV)) hE5.symm) (congrArg (fun z => ([.h code, .i ((z.2.1 : Nat) : Int), .i z.2.2] : List C)) hE5.symm)
 ·
  refine Qr ?_
  refine Qa ?_
  refine rk Qb [(2, .i (andI .i64 (xorI .i64 (shrI .i64 (IntKind.i64.wrap (IntKind.i64.wrap (ch * 6364136223846793005) + 1442695040888963407)) 33) (shrI .i64 (IntKind.i64.wrap (IntKind.i64.wrap (ch * 6364136223846793005) + 1442695040888963407)) 45)) 255))] [2, 3, 34] [] [] [] (o0) ?_
  refine Qq ?_
  have hE6 : Jg code ci ch = (andI .i64 (xorI .i64 (shrI .i64 (IntKind.i64.wrap (IntKind.i64.wrap (ch * 6364136223846793005) + 1442695040888963407)) 33) (shrI .i64 (IntKind.i64.wrap (IntKind.i64.wrap (ch * 6364136223846793005) + 1442695040888963407)) 45)) 255, ci, IntKind.i64.wrap (IntKind.i64.wrap (ch * 6364136223846793005) + 1442695040888963407)) := Q6 h1 (rfl)
  exact gret [] (congrArg (fun z => (.i z.1 : AV)) hE6.symm) (congrArg (fun z => ([.h code, .i ((z.2.1 : Nat) : Int), .i z.2.2] : List C)) hE6.symm)
end Go.Proofs.YtamghcfmhfknmaaGreat
namespace Go.Proofs.YtamghcfmhfknmaaGreat
open Go.RowKit
theorem and255 (a : Int) : 0 ≤ andI .i64 a 255 ∧ andI .i64 a 255 ≤ 255 := by
  have h : (BitVec.ofInt 64 a &&& BitVec.ofInt 64 255).toNat ≤ 255 := by
    rw [BitVec.toNat_and]
    exact Nat.le_trans Nat.and_le_right (by decide)
  have e : andI .i64 a 255 = IntKind.i64.wrap (BitVec.ofInt 64 a &&& BitVec.ofInt 64 255).toNat := rfl
  rw [e, IntWalk.i64_in _ (by omega)]
  omega
theorem Vf (code : List UInt8) (ci : Nat) (ch : Int) : 0 ≤ (Jg code ci ch).1 ∧ (Jg code ci ch).1 ≤ 255 := by
  unfold Jg
  cases decide (((ci : Nat) : Int) < (code.length : Int)) <;> exact and255 _
open GoE (enc wide)
def Kk (code : (List UInt8)) (ci : Nat) (ch : Int) (n : Int) : Int × Nat × Int := (bif decide (n ≤ (0 : Int)) then (0, ci, ch) else (bif decide (n ≤ (256 : Int)) then (lt (α := Int × Nat × Int) (Jg code ci ch) (fun x4 => (Int.tmod x4.1 n, x4.2.1, x4.2.2))) else (lt (α := Int × Nat × Int) (Jg code ci ch) (fun x6 => (lt (α := Int × Nat × Int) (Jg code x6.2.1 x6.2.2) (fun x7 => (lt (α := Int × Nat × Int) (Jg code x7.2.1 x7.2.2) (fun x8 => (lt (α := Int × Nat × Int) (Jg code x8.2.1 x8.2.2) (fun x9 => (Int.tmod ((((x6.1 * 16777216) + (x7.1 * 65536)) + (x8.1 * 256)) + x9.1) n, x9.2.1, x9.2.2)))))))))))
theorem specl01Below_a (code : (List UInt8)) (ci : Nat) (ch : Int) (n : Int) : AGive Tryz.prog 41 [.h code, .i ((ci : Nat) : Int), .i ch] [.i n] (.i (((Kk code ci ch n)).1)) [.h code, .i ((((Kk code ci ch n)).2.1 : Nat) : Int), .i (((Kk code ci ch n)).2.2)] := by
 refine agive_of (tt := tt) Qb Tryz.func41 (fn := Tryz.f41) rfl (by unfold Jr; kernel_rfl) (Nat.le_of_ble_eq_true rfl) (Nat.le_of_ble_eq_true rfl) rfl rfl fun w0 F0 hG => ?_
 refine Qa ?_
 refine rk Qb [(4, .i 0)] [] [] [] [] (o0) ?_
 refine Qa ?_
 refine Qa ?_
 refine rk Qb [(10, .b (decide (n ≤ (0 : Int))))] [] [] [] [] (o0) ?_
 refine ck (decide (n ≤ (0 : Int))) (fun h1 => ?_) (fun h1 => ?_)
 ·
  refine Qa ?_
  refine rk Qb [] [10] [] [] [] (o0) ?_
  refine Qq ?_
  have hE2 : Kk code ci ch n = (0, ci, ch) := X8 h1 (rfl)
  exact gret [] (congrArg (fun z => (.i z.1 : AV)) hE2.symm) (congrArg (fun z => ([.h code, .i ((z.2.1 : Nat) : Int), .i z.2.2] : List C)) hE2.symm)
 ·
  have h1d := of_decide_eq_false h1
  refine Qr ?_
  refine Qa ?_
  refine Qa ?_
  refine rk Qb [(12, .b (decide (n ≤ (256 : Int))))] [10] [] [] [] (o0) ?_
  refine ck (decide (n ≤ (256 : Int))) (fun h3 => ?_) (fun h3 => ?_)
  ·
   have h3d := of_decide_eq_true h3
   refine Qa ?_
   obtain ⟨x4, hx4⟩ : ∃ z : Int × Nat × Int, Jg code ci ch = z := ⟨_, rfl⟩
   have hbx4 := hx4 ▸ Vf code ci ch
   refine rk Qb [(4, .i (Int.tmod x4.1 n))] [4, 12] [(60000, [.h code, .i ((x4.2.1 : Nat) : Int), .i x4.2.2])] [60000] [(1, .give none (.i x4.1) [.h code, .i ((x4.2.1 : Nat) : Int), .i x4.2.2])] (o2 (ob_give (hx4 ▸ Qcy code ci ch)) (o2 (ob_nz (n := n) (by omega)) (o1 (ob_inr (k := .i64) (n := Int.tmod x4.1 n) (inr_rem0 (by omega)))))) ?_
   refine Qq ?_
   have hE5 : Kk code ci ch n = (Int.tmod x4.1 n, x4.2.1, x4.2.2) := Q6 h1 (X8 h3 (lt_b hx4 (rfl)))
   exact gret [] (congrArg (fun z => (.i z.1 : AV)) hE5.symm) (congrArg (fun z => ([.h code, .i ((z.2.1 : Nat) : Int), .i z.2.2] : List C)) hE5.symm)
  ·
   have h3d := of_decide_eq_false h3
   refine Qr ?_
   refine Qa ?_
   obtain ⟨x6, hx6⟩ : ∃ z : Int × Nat × Int, Jg code ci ch = z := ⟨_, rfl⟩
   have hbx6 := hx6 ▸ Vf code ci ch
   refine rk Qb [(5, .i x6.1)] [12] [(60000, [.h code, .i ((x6.2.1 : Nat) : Int), .i x6.2.2])] [60000] [(1, .give none (.i x6.1) [.h code, .i ((x6.2.1 : Nat) : Int), .i x6.2.2])] (o1 (ob_give (hx6 ▸ Qcy code ci ch))) ?_
   refine Qa ?_
   obtain ⟨x7, hx7⟩ : ∃ z : Int × Nat × Int, Jg code x6.2.1 x6.2.2 = z := ⟨_, rfl⟩
   have hbx7 := hx7 ▸ Vf code x6.2.1 x6.2.2
   refine rk Qb [(6, .i x7.1)] [] [(60000, [.h code, .i ((x7.2.1 : Nat) : Int), .i x7.2.2])] [60000] [(1, .give none (.i x7.1) [.h code, .i ((x7.2.1 : Nat) : Int), .i x7.2.2])] (o1 (ob_give (hx7 ▸ Qcy code x6.2.1 x6.2.2))) ?_
   refine Qa ?_
   obtain ⟨x8, hx8⟩ : ∃ z : Int × Nat × Int, Jg code x7.2.1 x7.2.2 = z := ⟨_, rfl⟩
   have hbx8 := hx8 ▸ Vf code x7.2.1 x7.2.2
   refine rk Qb [(7, .i x8.1)] [] [(60000, [.h code, .i ((x8.2.1 : Nat) : Int), .i x8.2.2])] [60000] [(1, .give none (.i x8.1) [.h code, .i ((x8.2.1 : Nat) : Int), .i x8.2.2])] (o1 (ob_give (hx8 ▸ Qcy code x7.2.1 x7.2.2))) ?_
   refine Qa ?_
   obtain ⟨x9, hx9⟩ : ∃ z : Int × Nat × Int, Jg code x8.2.1 x8.2.2 = z := ⟨_, rfl⟩
   have hbx9 := hx9 ▸ Vf code x8.2.1 x8.2.2
   refine rk Qb [(8, .i x9.1)] [] [(60000, [.h code, .i ((x9.2.1 : Nat) : Int), .i x9.2.2])] [60000] [(1, .give none (.i x9.1) [.h code, .i ((x9.2.1 : Nat) : Int), .i x9.2.2])] (o1 (ob_give (hx9 ▸ Qcy code x8.2.1 x8.2.2))) ?_
   refine Qa ?_
   refine rk Qb [(4, .i (Int.tmod ((((x6.1 * 16777216) + (x7.1 * 65536)) + (x8.1 * 256)) + x9.1) n))] [1, 4, 5, 6, 7, 8] [] [] [(1, .val (.i (x6.1 * 16777216))), (3, .val (.i (x7.1 * 65536))), (4, .val (.i ((x6.1 * 16777216) + (x7.1 * 65536)))), (6, .val (.i (x8.1 * 256))), (7, .val (.i (((x6.1 * 16777216) + (x7.1 * 65536)) + (x8.1 * 256)))), (9, .val (.i ((((x6.1 * 16777216) + (x7.1 * 65536)) + (x8.1 * 256)) + x9.1)))] (o2 (Qi (Km (IntWalk.i64_in (x6.1 * 16777216) (by omega)))) (o2 (Qi (Km (IntWalk.i64_in (x7.1 * 65536) (by omega)))) (o2 (Qi (Km (IntWalk.i64_in ((x6.1 * 16777216) + (x7.1 * 65536)) (by omega)))) (o2 (Qi (Km (IntWalk.i64_in (x8.1 * 256) (by omega)))) (o2 (Qi (Km (IntWalk.i64_in (((x6.1 * 16777216) + (x7.1 * 65536)) + (x8.1 * 256)) (by omega)))) (o2 (Qi (Km (IntWalk.i64_in ((((x6.1 * 16777216) + (x7.1 * 65536)) + (x8.1 * 256)) + x9.1) (by omega)))) (o2 (ob_nz (n := n) (by omega)) (o1 (ob_inr (k := .i64) (n := Int.tmod ((((x6.1 * 16777216) + (x7.1 * 65536)) + (x8.1 * 256)) + x9.1) n) (inr_rem0 (by omega))))))))))) ?_
   refine Qq ?_
   have hE10 : Kk code ci ch n = (Int.tmod ((((x6.1 * 16777216) + (x7.1 * 65536)) + (x8.1 * 256)) + x9.1) n, x9.2.1, x9.2.2) := Q6 h1 (Q6 h3 (lt_b hx6 (lt_b hx7 (lt_b hx8 (lt_b hx9 (rfl))))))
   exact gret [] (congrArg (fun z => (.i z.1 : AV)) hE10.symm) (congrArg (fun z => ([.h code, .i ((z.2.1 : Nat) : Int), .i z.2.2] : List C)) hE10.symm)
end Go.Proofs.YtamghcfmhfknmaaGreat
namespace Go.Proofs.YtamghcfmhfknmaaGreat
open Go.RowKit
theorem specl01Below_bd (code : List UInt8) (ci : Nat) (ch n : Int) : 0 ≤ (Kk code ci ch n).1 ∧ (0 < n → (Kk code ci ch n).1 < n) ∧ (n ≤ 0 → (Kk code ci ch n).1 = 0) := by
  unfold Kk lt
  by_cases h0 : n ≤ 0
  · rw [decide_eq_true h0]
    exact ⟨Int.le_refl _, fun h => by omega, fun _ => rfl⟩
  · rw [decide_eq_false h0]
    have hn : 0 < n := by omega
    cases decide (n ≤ (256 : Int)) with
    | true =>
      have := Vf code ci ch
      exact ⟨Int.tmod_nonneg _ this.1, fun _ => Int.tmod_lt_of_pos _ hn, fun h => by omega⟩
    | false =>
      simp only [cond_false]
      generalize hx6 : Jg code ci ch = x6
      generalize hx7 : Jg code x6.2.1 x6.2.2 = x7
      generalize hx8 : Jg code x7.2.1 x7.2.2 = x8
      generalize hx9 : Jg code x8.2.1 x8.2.2 = x9
      have h6 := hx6 ▸ Vf code ci ch
      have h7 := hx7 ▸ Vf code x6.2.1 x6.2.2
      have h8 := hx8 ▸ Vf code x7.2.1 x7.2.2
      have h9 := hx9 ▸ Vf code x8.2.1 x8.2.2
      exact ⟨Int.tmod_nonneg _ (by omega), fun _ => Int.tmod_lt_of_pos _ hn, fun h => by omega⟩
open GoE (enc wide)
def Um (code : (List UInt8)) (_ : Nat) (s0 : (List Int) × Nat × Int) : Rd ((List Int)) ((List Int) × Nat × Int) ((List Int)) := (lt (α := Int × Nat × Int) (Kk code s0.2.1 s0.2.2 10000) (fun x2 => (.next (s0.1 ++ [x2.1], x2.2.1, x2.2.2))))
def Ht (_ : Nat) (s0 : (List Int) × Nat × Int) : (List Int) := s0.1
def Xh (code : (List UInt8)) : (List Int) := (lt (α := Nat × Int) (Qc6 code) (fun x1 => (Out.on (Hu (Um code) Ht (Int.toNat (12 : Int)) 0 ([], x1.1, x1.2)) (fun y0 => y0))))
theorem specDrawPlaces_a (code : (List UInt8)) : ACalls Tryz.prog 15 [.h code] (.o 0 (Xh code)) := by
 refine Qt (tt := tt) Qb Tryz.func15 (fn := Tryz.f15) rfl (by unfold Jr; kernel_rfl) (Nat.le_of_ble_eq_true rfl) fun w0 F0 hG => ?_
 refine Qa ?_
 refine rk Qb [(2, .e 0)] [] [] [] [] (o0) ?_
 refine Qa ?_
 obtain ⟨x1, hx1⟩ : ∃ z : Nat × Int, Qc6 code = z := ⟨_, rfl⟩
 refine rk Qb [(3, .p 7 0)] [0] [(7, [.h code, .i ((x1.1 : Nat) : Int), .i x1.2])] [] [(1, .new [.h code, .i ((x1.1 : Nat) : Int), .i x1.2])] (o1 (ob_new (hx1 ▸ specl01New_a code))) ?_
 refine Qa ?_
 refine rk Qb [(4, .one (.slc (.own true 512) 1 []))] [] [] [] [] (o0) ?_
 refine Qa ?_
 refine Qa ?_
 refine rk Qb [(5, .i 0)] [] [] [] [] (o0) ?_
 refine blk (fun (k0 : Nat) (s0 : (List Int) × Nat × Int) => [(4, .o 147202 s0.1), (5, .i ((k0 : Nat) : Int))]) [4, 5] (fun k0 s0 => [(7, [.h code, .i ((s0.2.1 : Nat) : Int), .i s0.2.2])]) [7] (fun (y0 : (List Int)) => [(4, .o 147352 y0)]) [3, 4, 5] (fun y0 => []) [7] (fun (k0 : Nat) (s0 : (List Int) × Nat × Int) => (Hu (Um code) Ht (Int.toNat (12 : Int)) 0 ([], x1.1, x1.2)) = Hu (Um code) Ht ((Int.toNat (12 : Int)) - k0) k0 s0 ∧ List.length s0.1 ≤ k0) (fun (y0 : (List Int)) => (Hu (Um code) Ht (Int.toNat (12 : Int)) 0 ([], x1.1, x1.2)) = .brk y0) (Int.toNat (12 : Int)) ([], x1.1, x1.2) (Yt [(512, 147202)] (by kernel_rfl)) ⟨rfl, (by simp)⟩ (fun k0 s0 hk0 hI0 => ?_) (fun k0 s0 hk0 hI0 => ?_) (fun y0 hD0 => ?_)
 ·
  have hA0_0 := hI0.2
  refine Qa ?_
  refine Qa ?_
  refine rk Qb [(10, .b true)] [] [] [] [(1, .val (.b true))] (o1 (Qi (Qh (decide_eq_true (p := ((k0 : Nat) : Int) < (12 : Int)) (by omega))))) ?_
  refine ckT ?_
  refine Qr ?_
  refine Qa ?_
  refine Xf ?_
  obtain ⟨x2, hx2⟩ : ∃ z : Int × Nat × Int, Kk code s0.2.1 s0.2.2 10000 = z := ⟨_, rfl⟩
  have hbx2 := hx2 ▸ specl01Below_bd code s0.2.1 s0.2.2 10000
  refine wdT 4 0 (.own true 147202) s0.1 (fun hw3 => ?_)
  have hl4 : List.length s0.1 ≤ 1073741824 := Qx (hw3)
  refine rk Qb [(4, .one (.slc (.own true 1088) 1 ((eL s0.1) ++ [[.i x2.1]])))] [4, 10] [(7, [.h code, .i ((x2.2.1 : Nat) : Int), .i x2.2.2])] [7] [(2, .give none (.i x2.1) [.h code, .i ((x2.2.1 : Nat) : Int), .i x2.2.2])] (o2 (ob_give (hx2 ▸ specl01Below_a code s0.2.1 s0.2.2 10000)) (o1 (V9 (Wi (Xm s0.1) (Xm [x2.1]) (by first | omega | (simp only [List.length_cons, List.length_nil]; omega) | (simp; omega) | simp))))) ?_
  refine eqn [(4, .o 1088 (s0.1 ++ [x2.1]))] [4] [] [] (by rw [show ((eL s0.1) ++ [[.i x2.1]]) = (eL (s0.1 ++ [x2.1])) from Hj (rfl) (rfl)]; first | done | kernel_rfl) ?_
  refine rk Qb [(5, .i ((k0 + 1 : Nat) : Int))] [5] [] [] [(1, .val (.i ((k0 + 1 : Nat) : Int)))] (o1 (Qi (Km (Q8 k0 (by omega))))) ?_
  exact Exists.intro (s0.1 ++ [x2.1], x2.2.1, x2.2.2) (And.intro (Yt [(1088, 147202)] (by kernel_rfl)) ⟨Vh hk0 (lt_b hx2 (rfl)) hI0.1, by first | omega | (simp; omega) | simp⟩)
 ·
  have hA0_0 := hI0.2
  refine Qa ?_
  refine Qa ?_
  refine rk Qb [(10, .b false)] [] [] [] [(1, .val (.b false))] (o1 (Qi (Qh (decide_eq_false (p := ((k0 : Nat) : Int) < (12 : Int)) (by omega))))) ?_
  refine ckF ?_
  refine Xt ?_
  exact Exists.intro s0.1 (And.intro (Yt [(147202, 147352)] (by kernel_rfl)) (Qbu hk0 (rfl) hI0.1))
 ·
  refine Qa ?_
  refine rk Qb [(2, .o 147352 y0)] [2, 4] [] [] [] (o0) ?_
  refine Qq ?_
  exact Ze [] (congrArg (fun z => (.o 0 z : AV)) (show Xh code = y0 from lt_b hx1 (Hk hD0 (rfl))).symm)
end Go.Proofs.YtamghcfmhfknmaaGreat
namespace Go.Proofs.YtamghcfmhfknmaaGreat
open Go.RowKit
theorem places_go (code : List UInt8) : ∀ (n k : Nat) (s : List Int × Nat × Int), s.1.length = k → (∀ x, x ∈ s.1 → 0 ≤ x ∧ x < 10000) → ∃ t, Hu (Um code) Ht n k s = .brk t ∧ t.length = k + n ∧ ∀ x, x ∈ t → 0 ≤ x ∧ x < 10000
  | 0, k, s, h, hb => ⟨s.1, rfl, h, hb⟩
  | n + 1, k, s, h, hb => by
    simp only [Hu, Um, lt]
    have hd := specl01Below_bd code s.2.1 s.2.2 10000
    obtain ⟨t, h1, h2, h3⟩ := places_go code n (k + 1) (s.1 ++ [(Kk code s.2.1 s.2.2 10000).1], (Kk code s.2.1 s.2.2 10000).2.1, (Kk code s.2.1 s.2.2 10000).2.2) (by simp [h]) (fun x hx => by
      rcases List.mem_append.1 hx with hx | hx
      · exact hb x hx
      · obtain rfl := List.mem_singleton.1 hx
        exact ⟨hd.1, hd.2.1 (by decide)⟩)
    exact ⟨t, h1, by omega, h3⟩
theorem places_ok (code : List UInt8) : (Xh code).length = 12 ∧ ∀ x, x ∈ Xh code → 0 ≤ x ∧ x < 10000 := by
  unfold Xh lt
  obtain ⟨t, h1, h2, h3⟩ := places_go code (Int.toNat (12 : Int)) 0 ([], (Qc6 code).1, (Qc6 code).2) rfl (fun x hx => by simp at hx)
  simp only [h1, Out.on]
  exact ⟨by simpa using h2, h3⟩
theorem places_len (code : List UInt8) : (Xh code).length = 12 := (places_ok code).1
theorem places_bd (code : List UInt8) : ∀ x, x ∈ Xh code → 0 ≤ x ∧ x < 10000 := (places_ok code).2
theorem place_mod (code : List UInt8) (i : Nat) (hi : i < 12) {m : Int} (hm : 0 < m) : (0 ≤ nth (Xh code) i ∧ nth (Xh code) i < 10000) ∧ 0 ≤ Int.tmod (nth (Xh code) i) m ∧ Int.tmod (nth (Xh code) i) m < m := by
  have h := places_bd code _ (List.mem_of_getElem? (Yj (l := Xh code) (i := i) (by rw [places_len]; exact hi)))
  exact ⟨h, Int.tmod_nonneg _ h.1, Int.tmod_lt_of_pos _ hm⟩
open GoE (enc wide)
def Qch (f : Zb) : Int := IntKind.i64.wrap (1 + (f.2.2.2.2.length : Int))
theorem implFileCost_a (f : Zb) : ACalls Tryz.prog 145 [.a [.i f.1, .i f.2.1, .b f.2.2.1, .i f.2.2.2.1, .h f.2.2.2.2]] (.i (Qch f)) := by
 refine Qt (tt := tt) Qb Tryz.func145 (fn := Tryz.f145) rfl (by unfold Jr; kernel_rfl) (Nat.le_of_ble_eq_true rfl) fun w0 F0 hG => ?_
 refine Qa ?_
 refine rk Qb [(1, .p 1 0), (2, .i 0)] [0] [(1, [.i f.1, .i f.2.1, .b f.2.2.1, .i f.2.2.2.1, .h f.2.2.2.2])] [] [] (o0) ?_
 refine Qa ?_
 refine rk Qb [(2, .i (IntKind.i64.wrap (1 + (f.2.2.2.2.length : Int))))] [1, 2] [] [1] [(2, .val (.i (f.2.2.2.2.length : Int)))] (o1 (Qi (Xs f.2.2.2.2))) ?_
 refine Qq ?_
 exact Ze [] (congrArg (fun z => (.i z : AV)) (show Qch f = IntKind.i64.wrap (1 + (f.2.2.2.2.length : Int)) from rfl).symm)
def Qby (user : Int) (_ : Nat) (a0 : Zb) (s0 : Int) : Rd (Int) (Int) (Int) := (bif (a0.2.1 == user) then (.next (IntKind.i64.wrap (s0 + (Qch a0)))) else (.next s0))
def Qbz (_ : Nat) (s0 : Int) : Int := s0
def Qbi (s_ : Zp) (user : Int) : Int := (Out.on (Xv (Qby user) Qbz s_.2.1 0 0) (fun y0 => y0))
theorem implQuotaUsed_a (s_ : Zp) (user : Int) : ACalls Tryz.prog 87 [.a [.h s_.1, .h s_.2.1, .i s_.2.2], .i user] (.i (Qbi s_ user)) := by
 refine Qt (tt := tt) Qb Tryz.func87 (fn := Tryz.f87) rfl (by unfold Jr; kernel_rfl) (Nat.le_of_ble_eq_true rfl) fun w0 F0 hG => ?_
 refine Qa ?_
 refine rk Qb [(2, .p 2 0), (4, .i 0)] [0] [(2, [.h s_.1, .h s_.2.1, .i s_.2.2])] [] [] (o0) ?_
 refine Qa ?_
 refine rk Qb [(5, .i 0)] [] [] [] [] (o0) ?_
 refine Qa ?_
 refine Qa ?_
 refine rk Qb [(9, .h s_.2.1), (10, .i (s_.2.1.length : Int)), (11, .i 0)] [2] [] [2] [(2, .val (.i (s_.2.1.length : Int)))] (o1 (Qi (Xs s_.2.1))) ?_
 refine wdT 9 0 .sh s_.2.1 (fun hw1 => ?_)
 have hl2 : List.length s_.2.1 ≤ 1073741824 := Qx (hw1)
 refine blk (fun (k0 : Nat) (s0 : Int) => [(5, .i s0), (11, .i ((k0 : Nat) : Int))]) [5, 11] (fun k0 s0 => []) [] (fun (y0 : Int) => [(5, .i y0)]) [1, 5, 9, 10, 11] (fun y0 => []) [] (fun (k0 : Nat) (s0 : Int) => (Xv (Qby user) Qbz s_.2.1 0 0) = Xv (Qby user) Qbz (List.drop k0 s_.2.1) k0 s0) (fun (y0 : Int) => (Xv (Qby user) Qbz s_.2.1 0 0) = .brk y0) s_.2.1.length 0 (Qd (by kernel_rfl)) rfl (fun k0 s0 hk0 hI0 => ?_) (fun k0 s0 hk0 hI0 => ?_) (fun y0 hD0 => ?_)
 ·
  obtain ⟨a0, hx0⟩ := Yl (l := s_.2.1) (i := k0) hk0
  refine Qa ?_
  refine rk Qb [(12, .b true)] [] [] [] [(0, .val (.b true))] (o1 (Qi (Qh (decide_eq_true (p := ((k0 : Nat) : Int) < (s_.2.1.length : Int)) (by omega))))) ?_
  refine Qa ?_
  refine ckT ?_
  refine Qr ?_
  refine Qa ?_
  refine Xf ?_
  refine Qa ?_
  refine rk Qb [(7, .p 7 0)] [12] [(7, [.i a0.1, .i a0.2.1, .b a0.2.2.1, .i a0.2.2.2.1, .h a0.2.2.2.2])] [] [(0, .row [.i a0.1, .i a0.2.1, .b a0.2.2.1, .i a0.2.2.2.1, .h a0.2.2.2.2])] (o1 (Qy (X4 (i := ((k0 : Nat) : Int)) (by omega) rfl hx0))) ?_
  refine Qa ?_
  refine rk Qb [(18, .b (a0.2.1 == user))] [] [] [] [] (o0) ?_
  refine ck (a0.2.1 == user) (fun h3 => ?_) (fun h3 => ?_)
  ·
   have h3d := eq_of_beq h3
   refine rk Qb [(5, .i (IntKind.i64.wrap (s0 + (Qch a0))))] [5, 7, 18] [] [7] [(2, .val (.i (Qch a0)))] (o1 (Qg (implFileCost_a a0))) ?_
   refine rk Qb [(11, .i ((k0 + 1 : Nat) : Int))] [11] [] [] [(0, .val (.i ((k0 + 1 : Nat) : Int)))] (o1 (Qi (Km (Q8 k0 (by omega))))) ?_
   exact Exists.intro (IntKind.i64.wrap (s0 + (Qch a0))) (And.intro (Qd (by kernel_rfl)) (Xe hx0 (X8 h3 (rfl)) hI0))
  ·
   have h3d := Zz h3
   refine Qr ?_
   refine rk Qb [(11, .i ((k0 + 1 : Nat) : Int))] [7, 11, 18] [] [7] [(0, .val (.i ((k0 + 1 : Nat) : Int)))] (o1 (Qi (Km (Q8 k0 (by omega))))) ?_
   exact Exists.intro s0 (And.intro (Qd (by kernel_rfl)) (Xe hx0 (Q6 h3 (rfl)) hI0))
 ·
  refine Qa ?_
  refine rk Qb [(12, .b false)] [] [] [] [(0, .val (.b false))] (o1 (Qi (Qh (decide_eq_false (p := ((k0 : Nat) : Int) < (s_.2.1.length : Int)) (by omega))))) ?_
  refine Qa ?_
  refine ckF ?_
  refine Xt ?_
  exact Exists.intro s0 (And.intro (Qd (by kernel_rfl)) (Ym hk0 (rfl) hI0))
 ·
  refine Qa ?_
  refine rk Qb [(4, .i y0)] [4, 5] [] [] [] (o0) ?_
  refine Qq ?_
  exact Ze [] (congrArg (fun z => (.i z : AV)) (show Qbi s_ user = y0 from Hk hD0 (rfl)).symm)
def Qca (quota : (List Int)) (user : Int) : Int := (bif (!(Xy user 0 ((quota.length : Int) - 1))) then 0 else (nth quota (Int.toNat user)))
theorem implquotaOf_a (quota : (List Int)) (user : Int) : ACalls Tryz.prog 88 [.h quota, .i user] (.i (Qca quota user)) := by
 refine Qt (tt := tt) Qb Tryz.func88 (fn := Tryz.f88) rfl (by unfold Jr; kernel_rfl) (Nat.le_of_ble_eq_true rfl) fun w0 F0 hG => ?_
 refine Qa ?_
 refine rk Qb [(4, .i 0)] [] [] [] [] (o0) ?_
 refine Qa ?_
 refine Qa ?_
 refine wdT 0 0 .sh quota (fun hw1 => ?_)
 have hl2 : List.length quota ≤ 1073741824 := Qx (hw1)
 refine rk Qb [(10, .b (!(Xy user 0 ((quota.length : Int) - 1))))] [] [] [] [(2, .val (.i (quota.length : Int))), (3, .val (.i ((quota.length : Int) - 1))), (4, .val (.b (Xy user 0 ((quota.length : Int) - 1))))] (o2 (Qi (Xs quota)) (o2 (Qi (Km (IntWalk.i64_in ((quota.length : Int) - 1) (by omega)))) (o1 (Qg (Jx user 0 ((quota.length : Int) - 1)))))) ?_
 refine ck (!(Xy user 0 ((quota.length : Int) - 1))) (fun h3 => ?_) (fun h3 => ?_)
 ·
  refine Qa ?_
  refine rk Qb [] [10] [] [] [] (o0) ?_
  refine Qq ?_
  exact Ze [] (congrArg (fun z => (.i z : AV)) (show Qca quota user = 0 from X8 h3 (rfl)).symm)
 ·
  have h3n : (Xy user 0 ((quota.length : Int) - 1)) = true := Jn h3
  have h3nw := within_iff.1 h3n
  refine Qr ?_
  refine Qa ?_
  have hx4 : quota[(Int.toNat user)]? = some (nth quota (Int.toNat user)) := Yj (by omega)
  refine rk Qb [(4, .i (nth quota (Int.toNat user)))] [0, 1, 4, 10] [] [] [(2, .row [.i (nth quota (Int.toNat user))])] (o1 (Qy (X4 (i := user) (by omega) rfl hx4))) ?_
  refine Qq ?_
  exact Ze [] (congrArg (fun z => (.i z : AV)) (show Qca quota user = (nth quota (Int.toNat user)) from Q6 h3 (rfl)).symm)
def W9 (s_ : Zp) (quota : (List Int)) (k0 : Nat) (_ : Unit) : Rd (Bool) (Unit) (Unit) := (bif decide ((Qbi s_ ((k0 : Nat) : Int)) > (Qca quota ((k0 : Nat) : Int))) then (.ret false) else (.next ()))
def Ua (_ : Nat) (_ : Unit) : Unit := ()
def V6 (s_ : Zp) (quota : (List Int)) : Bool := (Out.on (Hu (W9 s_ quota) Ua (Int.toNat (3 : Int)) 0 ()) (fun _ => true))
theorem implIsWithinQuota_a (s_ : Zp) (quota : (List Int)) : ACalls Tryz.prog 49 [.a [.h s_.1, .h s_.2.1, .i s_.2.2], .h quota] (.b (V6 s_ quota)) := by
 refine Qt (tt := tt) Qb Tryz.func49 (fn := Tryz.f49) rfl (by unfold Jr; kernel_rfl) (Nat.le_of_ble_eq_true rfl) fun w0 F0 hG => ?_
 refine Qa ?_
 refine rk Qb [(2, .p 2 0), (4, .b false)] [0] [(2, [.h s_.1, .h s_.2.1, .i s_.2.2])] [] [] (o0) ?_
 refine Qa ?_
 refine Qa ?_
 refine rk Qb [(6, .i 0)] [] [] [] [] (o0) ?_
 refine blk (fun (k0 : Nat) (s0 : Unit) => [(6, .i ((k0 : Nat) : Int))]) [6] (fun k0 s0 => []) [] (fun (y0 : Unit) => []) [1, 2, 6] (fun y0 => []) [2] (fun (k0 : Nat) (s0 : Unit) => (Hu (W9 s_ quota) Ua (Int.toNat (3 : Int)) 0 ()) = Hu (W9 s_ quota) Ua ((Int.toNat (3 : Int)) - k0) k0 s0) (fun (y0 : Unit) => (Hu (W9 s_ quota) Ua (Int.toNat (3 : Int)) 0 ()) = .brk y0) (Int.toNat (3 : Int)) () (Qd (by kernel_rfl)) rfl (fun k0 s0 hk0 hI0 => ?_) (fun k0 s0 hk0 hI0 => ?_) (fun y0 hD0 => ?_)
 ·
  refine Qa ?_
  refine rk Qb [(7, .b true)] [] [] [] [(0, .val (.b true))] (o1 (Qi (Qh (decide_eq_true (p := ((k0 : Nat) : Int) < (3 : Int)) (by omega))))) ?_
  refine Qa ?_
  refine ckT ?_
  refine Qr ?_
  refine Qa ?_
  refine Xf ?_
  refine Qa ?_
  refine rk Qb [(5, .i ((k0 : Nat) : Int))] [7] [] [] [] (o0) ?_
  refine Qa ?_
  refine rk Qb [(15, .b (decide ((Qbi s_ ((k0 : Nat) : Int)) > (Qca quota ((k0 : Nat) : Int)))))] [5] [] [] [(2, .val (.i (Qbi s_ ((k0 : Nat) : Int)))), (5, .val (.i (Qca quota ((k0 : Nat) : Int))))] (o2 (Qg (implQuotaUsed_a s_ ((k0 : Nat) : Int))) (o1 (Qg (implquotaOf_a quota ((k0 : Nat) : Int))))) ?_
  refine ck (decide ((Qbi s_ ((k0 : Nat) : Int)) > (Qca quota ((k0 : Nat) : Int)))) (fun h1 => ?_) (fun h1 => ?_)
  ·
   refine Qa ?_
   refine rk Qb [] [15] [] [] [] (o0) ?_
   refine Qq ?_
   have hr2 : (Hu (W9 s_ quota) Ua (Int.toNat (3 : Int)) 0 ()) = .ret false := forN_ret hk0 (X8 h1 (rfl)) hI0
   exact Ze [] (congrArg (fun z => (.b z : AV)) (show V6 s_ quota = false from on_r hr2).symm)
  ·
   have h1d := of_decide_eq_false h1
   refine Qr ?_
   refine rk Qb [(6, .i ((k0 + 1 : Nat) : Int))] [6, 15] [] [] [(0, .val (.i ((k0 + 1 : Nat) : Int)))] (o1 (Qi (Km (Q8 k0 (by omega))))) ?_
   exact Exists.intro () (And.intro (Qd (by kernel_rfl)) (Vh hk0 (Q6 h1 (rfl)) hI0))
 ·
  refine Qa ?_
  refine rk Qb [(7, .b false)] [] [] [] [(0, .val (.b false))] (o1 (Qi (Qh (decide_eq_false (p := ((k0 : Nat) : Int) < (3 : Int)) (by omega))))) ?_
  refine Qa ?_
  refine ckF ?_
  refine Xt ?_
  exact Exists.intro () (And.intro (Qd (by kernel_rfl)) (Qbu hk0 (rfl) hI0))
 ·
  refine Qa ?_
  refine rk Qb [(4, .b true)] [4] [] [] [] (o0) ?_
  refine Qq ?_
  exact Ze [] (congrArg (fun z => (.b z : AV)) (show V6 s_ quota = true from Hk hD0 (rfl)).symm)
def Vu (c : Z4) (user : Int) (_ : Nat) (a0 : Hx) (s0 : Z4) : Rd (Z4 × (List Qfo) × Bool) (Z4) (Z4) := (bif (!(((Xj s0 user a0)).2.2)) then (.ret ((Qc c), [], false)) else (.next (((Xj s0 user a0)).1)))
def Vv (_ : Nat) (s0 : Z4) : Z4 := s0
def Qe (c : Z4) (user : Int) (changes : (List Hx)) (quota : (List Int)) : Z4 × (List Qfo) × Bool := (bif ((!(Xk c)) || decide ((changes.length : Int) > (6 : Int))) then ((Qc c), [], false) else (Out.on (Xv (Vu c user) Vv changes 0 (Qc c)) (fun y0 => (bif (!(V6 y0.1 quota)) then ((Qc c), [], false) else (y0, (K3 c.2.2 y0.2.2), true)))))
theorem Qc0 (c : Z4) (user : Int) (changes : (List Hx)) (quota : (List Int)) : ACalls Tryz.prog 19 [.a [.h c.1.1, .h c.1.2.1, .i c.1.2.2, .h c.2.1, .h c.2.2], .i user, .h changes, .h quota] (.tup [(true, [.o 0 ((((Qe c user changes quota)).1).1.1), .o 1 ((((Qe c user changes quota)).1).1.2.1), .i ((((Qe c user changes quota)).1).1.2.2), .o 2 ((((Qe c user changes quota)).1).2.1), .o 3 ((((Qe c user changes quota)).1).2.2)]), (false, [.o 4 (((Qe c user changes quota)).2.1)]), (false, [.b (((Qe c user changes quota)).2.2)])]) := by
 refine Qt (tt := tt) Qb Tryz.func19 (fn := Tryz.f19) rfl (by unfold Jr; kernel_rfl) (Nat.le_of_ble_eq_true rfl) fun w0 F0 hG => ?_
 refine Qa ?_
 refine rk Qb [(4, .p 4 0), (8, .p 8 0), (9, .e 0), (10, .b false)] [0] [(4, [.h c.1.1, .h c.1.2.1, .i c.1.2.2, .h c.2.1, .h c.2.2]), (8, [.e 2, .e 5, .i 0, .e 2, .e 2])] [] [] (o0) ?_
 refine Qa ?_
 refine Qa ?_
 refine jn [(24, .b ((!(Xk c)) || decide ((changes.length : Int) > (6 : Int))))] [] [] [] (!(Xk c)) (fun h1 => ?_) (fun h1 => ?_) ?_
 ·
  have h1n : (Xk c) = false := Ug h1
  refine rk Qb [(24, .b true)] [] [] [] [(1, .val (.b false)), (2, .val (.b true))] (o2 (Qg (cb h1n (Wd c))) (o1 (Qi (show .b (!false) = .b true from rfl)))) ?_
  exact ⟨rfl, Qd (by rw [h1]; first | done | kernel_rfl)⟩
 ·
  have h1n : (Xk c) = true := Jn h1
  have h1nc := Qcg h1n
  refine rk Qb [(24, .b (decide ((changes.length : Int) > (6 : Int))))] [] [] [] [(1, .val (.b true)), (2, .val (.b false)), (5, .val (.i (changes.length : Int)))] (o2 (Qg (cb h1n (Wd c))) (o2 (Qi (show .b (!true) = .b false from rfl)) (o1 (Qi (Xs changes))))) ?_
  exact ⟨rfl, Qd (by rw [h1]; first | done | kernel_rfl)⟩
 refine ck ((!(Xk c)) || decide ((changes.length : Int) > (6 : Int))) (fun h2 => ?_) (fun h2 => ?_)
 ·
  refine Qa ?_
  refine rk Qb [] [24] [(8, [.o 1664 ((Qc c).1.1), .o 1665 ((Qc c).1.2.1), .i ((Qc c).1.2.2), .o 1666 ((Qc c).2.1), .o 1667 ((Qc c).2.2)])] [8] [(1, .val (.a [.o 0 ((Qc c).1.1), .o 1 ((Qc c).1.2.1), .i ((Qc c).1.2.2), .o 2 ((Qc c).2.1), .o 3 ((Qc c).2.2)]))] (o1 (Qg (Zx c))) ?_
  refine opn [(false, 9, 0, true, 384000, 3)] ?_
  refine Qq ?_
  exact Ze [] (congrArg (fun z => (.tup [(true, [.o 0 z.1.1.1, .o 1 z.1.1.2.1, .i z.1.1.2.2, .o 2 z.1.2.1, .o 3 z.1.2.2]), (false, [.o 4 z.2.1]), (false, [.b z.2.2])] : AV)) (show Qe c user changes quota = ((Qc c), [], false) from X8 h2 (rfl)).symm)
 ·
  have h2l : ((!(Xk c))) = false := or_l h2
  have h2ln : (Xk c) = true := Jn h2l
  have h2lnc := Qcg h2ln
  have h2r : (decide ((changes.length : Int) > (6 : Int))) = false := or_r h2
  have h2rd := of_decide_eq_false h2r
  refine Qr ?_
  refine Qa ?_
  refine rk Qb [(11, .p 11 0)] [24] [(11, [.o 1792 ((Qc c).1.1), .o 1793 ((Qc c).1.2.1), .i ((Qc c).1.2.2), .o 1794 ((Qc c).2.1), .o 1795 ((Qc c).2.2)])] [] [(1, .val (.a [.o 0 ((Qc c).1.1), .o 1 ((Qc c).1.2.1), .i ((Qc c).1.2.2), .o 2 ((Qc c).2.1), .o 3 ((Qc c).2.2)]))] (o1 (Qg (Zx c))) ?_
  refine Qa ?_
  refine Qa ?_
  refine rk Qb [(29, .h changes), (30, .i (changes.length : Int)), (31, .i 0)] [2] [] [] [(1, .val (.i (changes.length : Int)))] (o1 (Qi (Xs changes))) ?_
  refine wdT 29 0 .sh changes (fun hw3 => ?_)
  have hl4 : List.length changes ≤ 1073741824 := Qx (hw3)
  refine blk (fun (k0 : Nat) (s0 : Z4) => [(31, .i ((k0 : Nat) : Int))]) [31] (fun k0 s0 => [(11, [.o 147220 s0.1.1, .o 147221 s0.1.2.1, .i s0.1.2.2, .o 147223 s0.2.1, .o 147224 s0.2.2])]) [11] (fun (y0 : Z4) => []) [1, 29, 30, 31] (fun y0 => [(11, [.o 147370 y0.1.1, .o 147371 y0.1.2.1, .i y0.1.2.2, .o 147373 y0.2.1, .o 147374 y0.2.2])]) [11] (fun (k0 : Nat) (s0 : Z4) => (Xv (Vu c user) Vv changes 0 (Qc c)) = Xv (Vu c user) Vv (List.drop k0 changes) k0 s0) (fun (y0 : Z4) => (Xv (Vu c user) Vv changes 0 (Qc c)) = .brk y0) changes.length (Qc c) (Yt [(1792, 147220), (1793, 147221), (1794, 147223), (1795, 147224)] (by kernel_rfl)) rfl (fun k0 s0 hk0 hI0 => ?_) (fun k0 s0 hk0 hI0 => ?_) (fun y0 hD0 => ?_)
  ·
   obtain ⟨a0, hx0⟩ := Yl (l := changes) (i := k0) hk0
   refine Qa ?_
   refine rk Qb [(32, .b true)] [] [] [] [(0, .val (.b true))] (o1 (Qi (Qh (decide_eq_true (p := ((k0 : Nat) : Int) < (changes.length : Int)) (by omega))))) ?_
   refine Qa ?_
   refine ckT ?_
   refine Qr ?_
   refine Qa ?_
   refine Xf ?_
   refine Qa ?_
   refine rk Qb [(13, .p 13 0)] [32] [(13, [.i a0.1, .i a0.2.1.1, .i a0.2.1.2.1, .b a0.2.1.2.2.1, .i a0.2.1.2.2.2.1, .h a0.2.1.2.2.2.2, .i a0.2.2.1, .s a0.2.2.2.1, .h a0.2.2.2.2])] [] [(0, .row [.i a0.1, .i a0.2.1.1, .i a0.2.1.2.1, .b a0.2.1.2.2.1, .i a0.2.1.2.2.2.1, .h a0.2.1.2.2.2.2, .i a0.2.2.1, .s a0.2.2.2.1, .h a0.2.2.2.2])] (o1 (Qy (X4 (i := ((k0 : Nat) : Int)) (by omega) rfl hx0))) ?_
   refine Qa ?_
   refine rk Qb [(14, .p 14 0), (16, .b (((Xj s0 user a0)).2.2))] [13] [(14, [.o 2496 ((((Xj s0 user a0)).1).1.1), .o 2497 ((((Xj s0 user a0)).1).1.2.1), .i ((((Xj s0 user a0)).1).1.2.2), .o 2498 ((((Xj s0 user a0)).1).2.1), .o 2499 ((((Xj s0 user a0)).1).2.2)])] [13] [(3, .val (.tup [(true, [.o 0 ((((Xj s0 user a0)).1).1.1), .o 1 ((((Xj s0 user a0)).1).1.2.1), .i ((((Xj s0 user a0)).1).1.2.2), .o 2 ((((Xj s0 user a0)).1).2.1), .o 3 ((((Xj s0 user a0)).1).2.2)]), (false, [.o 4 (((Xj s0 user a0)).2.1)]), (false, [.b (((Xj s0 user a0)).2.2)])]))] (o1 (Qg (implApplyChange_a s0 user a0))) ?_
   refine Qa ?_
   refine Qa ?_
   refine rk Qb [(44, .b (!(((Xj s0 user a0)).2.2)))] [16] [] [] [] (o0) ?_
   refine ck (!(((Xj s0 user a0)).2.2)) (fun h5 => ?_) (fun h5 => ?_)
   ·
    refine Qa ?_
    refine rk Qb [] [44] [(8, [.o 2944 ((Qc c).1.1), .o 2945 ((Qc c).1.2.1), .i ((Qc c).1.2.2), .o 2946 ((Qc c).2.1), .o 2947 ((Qc c).2.2)])] [8] [(1, .val (.a [.o 0 ((Qc c).1.1), .o 1 ((Qc c).1.2.1), .i ((Qc c).1.2.2), .o 2 ((Qc c).2.1), .o 3 ((Qc c).2.2)]))] (o1 (Qg (Zx c))) ?_
    refine opn [(false, 9, 0, true, 384000, 3)] ?_
    refine Qq ?_
    have hr6 : (Xv (Vu c user) Vv changes 0 (Qc c)) = .ret ((Qc c), [], false) := Jy hx0 (X8 h5 (rfl)) hI0
    exact Ze [] (congrArg (fun z => (.tup [(true, [.o 0 z.1.1.1, .o 1 z.1.1.2.1, .i z.1.1.2.2, .o 2 z.1.2.1, .o 3 z.1.2.2]), (false, [.o 4 z.2.1]), (false, [.b z.2.2])] : AV)) (show Qe c user changes quota = ((Qc c), [], false) from Q6 h2 (on_r hr6)).symm)
   ·
    refine Qr ?_
    refine rk Qb [] [14, 44] [(11, [.o 2496 ((((Xj s0 user a0)).1).1.1), .o 2497 ((((Xj s0 user a0)).1).1.2.1), .i ((((Xj s0 user a0)).1).1.2.2), .o 2498 ((((Xj s0 user a0)).1).2.1), .o 2499 ((((Xj s0 user a0)).1).2.2)])] [11, 14] [] (o0) ?_
    refine rk Qb [(31, .i ((k0 + 1 : Nat) : Int))] [31] [] [] [(0, .val (.i ((k0 + 1 : Nat) : Int)))] (o1 (Qi (Km (Q8 k0 (by omega))))) ?_
    exact Exists.intro (((Xj s0 user a0)).1) (And.intro (Yt [(2496, 147220), (2497, 147221), (2498, 147223), (2499, 147224)] (by kernel_rfl)) (Xe hx0 (Q6 h5 (rfl)) hI0))
  ·
   refine Qa ?_
   refine rk Qb [(32, .b false)] [] [] [] [(0, .val (.b false))] (o1 (Qi (Qh (decide_eq_false (p := ((k0 : Nat) : Int) < (changes.length : Int)) (by omega))))) ?_
   refine Qa ?_
   refine ckF ?_
   refine Xt ?_
   exact Exists.intro s0 (And.intro (Yt [(147220, 147370), (147221, 147371), (147223, 147373), (147224, 147374)] (by kernel_rfl)) (Ym hk0 (rfl) hI0))
  ·
   refine Qa ?_
   refine Qa ?_
   refine rk Qb [(53, .b (!(V6 y0.1 quota)))] [3] [] [] [(3, .val (.b (V6 y0.1 quota)))] (o1 (Qg (implIsWithinQuota_a y0.1 quota))) ?_
   refine ck (!(V6 y0.1 quota)) (fun h7 => ?_) (fun h7 => ?_)
   ·
    refine Qa ?_
    refine rk Qb [] [53] [(8, [.o 3520 ((Qc c).1.1), .o 3521 ((Qc c).1.2.1), .i ((Qc c).1.2.2), .o 3522 ((Qc c).2.1), .o 3523 ((Qc c).2.2)])] [8] [(1, .val (.a [.o 0 ((Qc c).1.1), .o 1 ((Qc c).1.2.1), .i ((Qc c).1.2.2), .o 2 ((Qc c).2.1), .o 3 ((Qc c).2.2)]))] (o1 (Qg (Zx c))) ?_
    refine opn [(false, 9, 0, true, 384000, 3)] ?_
    refine Qq ?_
    exact Ze [] (congrArg (fun z => (.tup [(true, [.o 0 z.1.1.1, .o 1 z.1.1.2.1, .i z.1.1.2.2, .o 2 z.1.2.1, .o 3 z.1.2.2]), (false, [.o 4 z.2.1]), (false, [.b z.2.2])] : AV)) (show Qe c user changes quota = ((Qc c), [], false) from Q6 h2 (Hk hD0 (X8 h7 (rfl)))).symm)
   ·
    refine Qr ?_
    refine Qa ?_
    refine rd' Qb Js [(9, .o 3904 (K3 c.2.2 y0.2.2)), (10, .b true)] [4, 9, 10, 11, 53] [(8, [.o 147370 y0.1.1, .o 147371 y0.1.2.1, .i y0.1.2.2, .o 147373 y0.2.1, .o 147374 y0.2.2])] [4, 8, 11] [(5, .val (.o 0 (K3 c.2.2 y0.2.2)))] (o1 (Qg (Qfc c.2.2 y0.2.2))) ?_
    refine Qq ?_
    exact Ze [] (congrArg (fun z => (.tup [(true, [.o 0 z.1.1.1, .o 1 z.1.1.2.1, .i z.1.1.2.2, .o 2 z.1.2.1, .o 3 z.1.2.2]), (false, [.o 4 z.2.1]), (false, [.b z.2.2])] : AV)) (show Qe c user changes quota = (y0, (K3 c.2.2 y0.2.2), true) from Q6 h2 (Hk hD0 (Q6 h7 (rfl)))).symm)
def Qdg (_ : Nat) (a0 : Zb) (s0 : (List Int)) : Rd ((List Int)) ((List Int)) ((List Int)) := (.next (s0 ++ [a0.1]))
def Qdh (_ : Nat) (s0 : (List Int)) : (List Int) := s0
def Z6 (s_ : Zp) : (List Int) := (Out.on (Xv Qdg Qdh s_.2.1 0 []) (fun y0 => y0))
theorem Qd5 (s_ : Zp) : ACalls Tryz.prog 20 [.a [.h s_.1, .h s_.2.1, .i s_.2.2]] (.o 0 (Z6 s_)) := by
 refine Qt (tt := tt) Qb Tryz.func20 (fn := Tryz.f20) rfl (by unfold Jr; kernel_rfl) (Nat.le_of_ble_eq_true rfl) fun w0 F0 hG => ?_
 refine Qa ?_
 refine rk Qb [(1, .p 1 0), (2, .e 0)] [0] [(1, [.h s_.1, .h s_.2.1, .i s_.2.2])] [] [] (o0) ?_
 refine Qa ?_
 refine rk Qb [(3, .one (.slc (.own true 384) 1 []))] [] [] [] [] (o0) ?_
 refine Qa ?_
 refine Qa ?_
 refine rk Qb [(8, .h s_.2.1), (9, .i (s_.2.1.length : Int)), (10, .i 0)] [1] [] [1] [(2, .val (.i (s_.2.1.length : Int)))] (o1 (Qi (Xs s_.2.1))) ?_
 refine wdT 8 0 .sh s_.2.1 (fun hw1 => ?_)
 have hl2 : List.length s_.2.1 ≤ 1073741824 := Qx (hw1)
 refine blk (fun (k0 : Nat) (s0 : (List Int)) => [(3, .o 147201 s0), (10, .i ((k0 : Nat) : Int))]) [3, 10] (fun k0 s0 => []) [] (fun (y0 : (List Int)) => [(3, .o 147351 y0)]) [3, 8, 9, 10] (fun y0 => []) [] (fun (k0 : Nat) (s0 : (List Int)) => (Xv Qdg Qdh s_.2.1 0 []) = Xv Qdg Qdh (List.drop k0 s_.2.1) k0 s0 ∧ List.length s0 ≤ k0) (fun (y0 : (List Int)) => (Xv Qdg Qdh s_.2.1 0 []) = .brk y0) s_.2.1.length [] (Yt [(384, 147201)] (by kernel_rfl)) ⟨rfl, (by simp)⟩ (fun k0 s0 hk0 hI0 => ?_) (fun k0 s0 hk0 hI0 => ?_) (fun y0 hD0 => ?_)
 ·
  have hA0_0 := hI0.2
  obtain ⟨a0, hx0⟩ := Yl (l := s_.2.1) (i := k0) hk0
  refine Qa ?_
  refine rk Qb [(11, .b true)] [] [] [] [(0, .val (.b true))] (o1 (Qi (Qh (decide_eq_true (p := ((k0 : Nat) : Int) < (s_.2.1.length : Int)) (by omega))))) ?_
  refine Qa ?_
  refine ckT ?_
  refine Qr ?_
  refine Qa ?_
  refine Xf ?_
  refine Qa ?_
  refine rk Qb [(5, .p 5 0)] [11] [(5, [.i a0.1, .i a0.2.1, .b a0.2.2.1, .i a0.2.2.2.1, .h a0.2.2.2.2])] [] [(0, .row [.i a0.1, .i a0.2.1, .b a0.2.2.1, .i a0.2.2.2.1, .h a0.2.2.2.2])] (o1 (Qy (X4 (i := ((k0 : Nat) : Int)) (by omega) rfl hx0))) ?_
  refine wdT 3 0 (.own true 147201) s0 (fun hw3 => ?_)
  have hl4 : List.length s0 ≤ 1073741824 := Qx (hw3)
  refine rk Qb [(3, .one (.slc (.own true 1152) 1 ((eL s0) ++ [[.i a0.1]])))] [3, 5] [] [5] [] (o1 (V9 (Wi (Xm s0) (Xm [a0.1]) (by first | omega | (simp only [List.length_cons, List.length_nil]; omega) | (simp; omega) | simp)))) ?_
  refine eqn [(3, .o 1152 (s0 ++ [a0.1]))] [3] [] [] (by rw [show ((eL s0) ++ [[.i a0.1]]) = (eL (s0 ++ [a0.1])) from Hj (rfl) (rfl)]; first | done | kernel_rfl) ?_
  refine rk Qb [(10, .i ((k0 + 1 : Nat) : Int))] [10] [] [] [(0, .val (.i ((k0 + 1 : Nat) : Int)))] (o1 (Qi (Km (Q8 k0 (by omega))))) ?_
  exact Exists.intro (s0 ++ [a0.1]) (And.intro (Yt [(1152, 147201)] (by kernel_rfl)) ⟨Xe hx0 (rfl) hI0.1, by first | omega | (simp; omega) | simp⟩)
 ·
  have hA0_0 := hI0.2
  refine Qa ?_
  refine rk Qb [(11, .b false)] [] [] [] [(0, .val (.b false))] (o1 (Qi (Qh (decide_eq_false (p := ((k0 : Nat) : Int) < (s_.2.1.length : Int)) (by omega))))) ?_
  refine Qa ?_
  refine ckF ?_
  refine Xt ?_
  exact Exists.intro s0 (And.intro (Yt [(147201, 147351)] (by kernel_rfl)) (Ym hk0 (rfl) hI0.1))
 ·
  refine Qa ?_
  refine rk Qb [(2, .o 147351 y0)] [2, 3] [] [] [] (o0) ?_
  refine Qq ?_
  exact Ze [] (congrArg (fun z => (.o 0 z : AV)) (show Z6 s_ = y0 from Hk hD0 (rfl)).symm)
def Qdi (_ : Nat) (a0 : Zb) (s0 : (List Zb)) : Rd (Zp) ((List Zb)) ((List Zb)) := (.next (s0 ++ [(Z0 a0)]))
def Qdj (_ : Nat) (s0 : (List Zb)) : (List Zb) := s0
def Wx (s_ : Zp) : Zp := (Out.on (Xv Qdi Qdj s_.2.1 0 []) (fun y0 => (s_.1, y0, s_.2.2)))
theorem specl05Copy_a (s_ : Zp) : ACalls Tryz.prog 43 [.a [.h s_.1, .h s_.2.1, .i s_.2.2]] (.a [.o 0 ((Wx s_).1), .o 1 ((Wx s_).2.1), .i ((Wx s_).2.2)]) := by
 refine Qt (tt := tt) Qb Tryz.func43 (fn := Tryz.f43) rfl (by unfold Jr; kernel_rfl) (Nat.le_of_ble_eq_true rfl) fun w0 F0 hG => ?_
 refine Qa ?_
 refine rk Qb [(1, .p 1 0), (2, .p 2 0)] [0] [(1, [.h s_.1, .h s_.2.1, .i s_.2.2]), (2, [.e 2, .e 5, .i 0])] [] [] (o0) ?_
 refine Qa ?_
 refine wdB 1 0 .sh s_.1 (fun hw1 => ?_)
 have hl2 : List.length s_.1 ≤ 1073741824 := Qx (hw1)
 refine rd' Qb Js [(3, .p 3 0)] [] [(3, [.o 512 s_.1, .e 5, .i s_.2.2])] [] [(3, .flat)] (o2 (V9 (n := (([] : List (List PV)).length + ((eL s_.1) : List (List PV)).length)) (Wi (rfl) (Xm s_.1) (by first | omega | (simp only [List.length_cons, List.length_nil]; omega) | (simp; omega) | simp))) (o1 (Qeb (Qdu s_.1)))) ?_
 refine Qa ?_
 refine Qa ?_
 refine rk Qb [(4, .i 0)] [] [] [] [] (o0) ?_
 refine wdB 1 1 .sh s_.2.1 (fun hw3 => ?_)
 have hl4 : List.length s_.2.1 ≤ 1073741824 := Qx (hw3)
 refine blk (fun (k0 : Nat) (s0 : (List Zb)) => [(4, .i ((k0 : Nat) : Int))]) [4] (fun k0 s0 => [(3, [.o 512 s_.1, .o 147211 s0, .i s_.2.2])]) [3] (fun (y0 : (List Zb)) => []) [1, 4] (fun y0 => [(3, [.o 512 s_.1, .o 147361 y0, .i s_.2.2])]) [1, 3] (fun (k0 : Nat) (s0 : (List Zb)) => (Xv Qdi Qdj s_.2.1 0 []) = Xv Qdi Qdj (List.drop k0 s_.2.1) k0 s0 ∧ List.length s0 ≤ k0) (fun (y0 : (List Zb)) => (Xv Qdi Qdj s_.2.1 0 []) = .brk y0) s_.2.1.length [] (weak_gf [(true, 3, 1, true, 320008, 5)] [] [] [(320008, 147211)] (by kernel_rfl)) ⟨rfl, (by simp)⟩ (fun k0 s0 hk0 hI0 => ?_) (fun k0 s0 hk0 hI0 => ?_) (fun y0 hD0 => ?_)
 ·
  have hA0_0 := hI0.2
  obtain ⟨a0, hx0⟩ := Yl (l := s_.2.1) (i := k0) hk0
  refine Qa ?_
  refine Qa ?_
  refine rk Qb [(16, .b true)] [] [] [] [(3, .val (.i (s_.2.1.length : Int))), (4, .val (.b true))] (o2 (Qi (Xs s_.2.1)) (o1 (Qi (Qh (decide_eq_true (p := ((k0 : Nat) : Int) < (s_.2.1.length : Int)) (by omega)))))) ?_
  refine ckT ?_
  refine Qr ?_
  refine Qa ?_
  refine Xf ?_
  refine wdB 3 1 (.own true 147211) s0 (fun hw5 => ?_)
  have hl6 : List.length s0 ≤ 1073741824 := Qx (hw5)
  refine rd' Qb Js [] [16] [(3, [.o 512 s_.1, .slc (.own true 1792) 5 ((eL s0) ++ [[.i ((Z0 a0).1), .i ((Z0 a0).2.1), .b ((Z0 a0).2.2.1), .i ((Z0 a0).2.2.2.1), .h ((Z0 a0).2.2.2.2)]]), .i s_.2.2])] [3] [(5, .row [.i a0.1, .i a0.2.1, .b a0.2.2.1, .i a0.2.2.2.1, .h a0.2.2.2.2]), (7, .val (.a [.i ((Z0 a0).1), .i ((Z0 a0).2.1), .b ((Z0 a0).2.2.1), .i ((Z0 a0).2.2.2.1), .o 0 ((Z0 a0).2.2.2.2)]))] (o2 (Qy (X4 (i := ((k0 : Nat) : Int)) (by omega) rfl hx0)) (o2 (Qg (specl04Copy_a a0)) (o1 (V9 (Wi (Xm s0) (Xm [(Z0 a0)]) (by first | omega | (simp only [List.length_cons, List.length_nil]; omega) | (simp; omega) | simp)))))) ?_
  refine eqn [] [] [(3, [.o 512 s_.1, .o 1792 (s0 ++ [(Z0 a0)]), .i s_.2.2])] [3] (by rw [show ((eL s0) ++ [[.i ((Z0 a0).1), .i ((Z0 a0).2.1), .b ((Z0 a0).2.2.1), .i ((Z0 a0).2.2.2.1), .h ((Z0 a0).2.2.2.2)]]) = (eL (s0 ++ [(Z0 a0)])) from Hj (rfl) (rfl)]; first | done | kernel_rfl) ?_
  refine rk Qb [(4, .i ((k0 + 1 : Nat) : Int))] [4] [] [] [(1, .val (.i ((k0 + 1 : Nat) : Int)))] (o1 (Qi (Km (Q8 k0 (by omega))))) ?_
  exact Exists.intro (s0 ++ [(Z0 a0)]) (And.intro (Yt [(1792, 147211)] (by kernel_rfl)) ⟨Xe hx0 (rfl) hI0.1, by first | omega | (simp; omega) | simp⟩)
 ·
  have hA0_0 := hI0.2
  refine Qa ?_
  refine Qa ?_
  refine rk Qb [(16, .b false)] [] [] [] [(3, .val (.i (s_.2.1.length : Int))), (4, .val (.b false))] (o2 (Qi (Xs s_.2.1)) (o1 (Qi (Qh (decide_eq_false (p := ((k0 : Nat) : Int) < (s_.2.1.length : Int)) (by omega)))))) ?_
  refine ckF ?_
  refine Xt ?_
  exact Exists.intro s0 (And.intro (Yt [(147211, 147361)] (by kernel_rfl)) (Ym hk0 (rfl) hI0.1))
 ·
  refine Qa ?_
  refine rk Qb [] [3] [(2, [.o 512 s_.1, .o 147361 y0, .i s_.2.2])] [2, 3] [] (o0) ?_
  refine Qq ?_
  exact Ze [] (congrArg (fun z => (.a [.o 0 z.1, .o 1 z.2.1, .i z.2.2] : AV)) (show Wx s_ = (s_.1, y0, s_.2.2) from Hk hD0 (rfl)).symm)
def Qdk (_ : Nat) (a0 : Zt) (s0 : (List Zt)) : Rd ((List Zt)) ((List Zt)) ((List Zt)) := (.next (s0 ++ [a0]))
def Qdl (_ : Nat) (s0 : (List Zt)) : (List Zt) := s0
def Qc7 (d : (List Zt)) : (List Zt) := (Out.on (Xv Qdk Qdl d 0 []) (fun y0 => y0))
theorem specl11Copy_a (d : (List Zt)) : ACalls Tryz.prog 44 [.h d] (.o 0 (Qc7 d)) := by
 refine Qt (tt := tt) Qb Tryz.func44 (fn := Tryz.f44) rfl (by unfold Jr; kernel_rfl) (Nat.le_of_ble_eq_true rfl) fun w0 F0 hG => ?_
 refine Qa ?_
 refine rk Qb [(2, .e 0)] [] [] [] [] (o0) ?_
 refine Qa ?_
 refine rk Qb [(3, .one (.slc (.own true 320) 2 []))] [] [] [] [] (o0) ?_
 refine Qa ?_
 refine Qa ?_
 refine rk Qb [(4, .i 0)] [] [] [] [] (o0) ?_
 refine wdT 0 0 .sh d (fun hw1 => ?_)
 have hl2 : List.length d ≤ 1073741824 := Qx (hw1)
 refine blk (fun (k0 : Nat) (s0 : (List Zt)) => [(3, .o 147202 s0), (4, .i ((k0 : Nat) : Int))]) [3, 4] (fun k0 s0 => []) [] (fun (y0 : (List Zt)) => [(3, .o 147352 y0)]) [0, 3, 4] (fun y0 => []) [] (fun (k0 : Nat) (s0 : (List Zt)) => (Xv Qdk Qdl d 0 []) = Xv Qdk Qdl (List.drop k0 d) k0 s0 ∧ List.length s0 ≤ k0) (fun (y0 : (List Zt)) => (Xv Qdk Qdl d 0 []) = .brk y0) d.length [] (Yt [(320, 147202)] (by kernel_rfl)) ⟨rfl, (by simp)⟩ (fun k0 s0 hk0 hI0 => ?_) (fun k0 s0 hk0 hI0 => ?_) (fun y0 hD0 => ?_)
 ·
  have hA0_0 := hI0.2
  obtain ⟨a0, hx0⟩ := Yl (l := d) (i := k0) hk0
  refine Qa ?_
  refine Qa ?_
  refine rk Qb [(9, .b true)] [] [] [] [(2, .val (.i (d.length : Int))), (3, .val (.b true))] (o2 (Qi (Xs d)) (o1 (Qi (Qh (decide_eq_true (p := ((k0 : Nat) : Int) < (d.length : Int)) (by omega)))))) ?_
  refine ckT ?_
  refine Qr ?_
  refine Qa ?_
  refine Xf ?_
  have hl3 : List.length a0.2 ≤ 1073741824 := Qx (wide_snd (wide_get hx0 (hw1)))
  refine wdT 3 0 (.own true 147202) s0 (fun hw4 => ?_)
  have hl5 : List.length s0 ≤ 1073741824 := Qx (hw4)
  refine rd' Qb Js [(3, .one (.slc (.own true 1728) 2 ((eL s0) ++ [[.s a0.1, .slc 7 ([] ++ (eL a0.2))]])))] [3, 9] [] [] [(3, .row [.s a0.1, .h a0.2]), (9, .row [.s a0.1, .h a0.2]), (12, .flat)] (o2 (Qy (X4 (i := ((k0 : Nat) : Int)) (by omega) rfl hx0)) (o2 (Qy (X4 (i := ((k0 : Nat) : Int)) (by omega) rfl hx0)) (o2 (V9 (n := (([] : List (List PV)).length + ((eL a0.2) : List (List PV)).length)) (Wi (rfl) (Xm a0.2) (by first | omega | (simp only [List.length_cons, List.length_nil]; omega) | (simp; omega) | simp))) (o2 (Qeb (Qdu a0.2)) (o1 (V9 (n := (((eL s0) : List (List PV)).length + ([[.s a0.1, .slc 7 ([] ++ (eL a0.2))]] : List (List PV)).length)) (Wi (Xm s0) (rfl) (by first | omega | (simp only [List.length_cons, List.length_nil]; omega) | (simp; omega) | simp)))))))) ?_
  refine eqn [(3, .o 1728 (s0 ++ [a0]))] [3] [] [] (by rw [show ((eL s0) ++ [[.s a0.1, .slc 7 ([] ++ (eL a0.2))]]) = (eL (s0 ++ [a0])) from Hj (rfl) (rfl)]; first | done | kernel_rfl) ?_
  refine rk Qb [(4, .i ((k0 + 1 : Nat) : Int))] [4] [] [] [(1, .val (.i ((k0 + 1 : Nat) : Int)))] (o1 (Qi (Km (Q8 k0 (by omega))))) ?_
  exact Exists.intro (s0 ++ [a0]) (And.intro (Yt [(1728, 147202)] (by kernel_rfl)) ⟨Xe hx0 (rfl) hI0.1, by first | omega | (simp; omega) | simp⟩)
 ·
  have hA0_0 := hI0.2
  refine Qa ?_
  refine Qa ?_
  refine rk Qb [(9, .b false)] [] [] [] [(2, .val (.i (d.length : Int))), (3, .val (.b false))] (o2 (Qi (Xs d)) (o1 (Qi (Qh (decide_eq_false (p := ((k0 : Nat) : Int) < (d.length : Int)) (by omega)))))) ?_
  refine ckF ?_
  refine Xt ?_
  exact Exists.intro s0 (And.intro (Yt [(147202, 147352)] (by kernel_rfl)) (Ym hk0 (rfl) hI0.1))
 ·
  refine Qa ?_
  refine rk Qb [(2, .o 147352 y0)] [2, 3] [] [] [] (o0) ?_
  refine Qq ?_
  exact Ze [] (congrArg (fun z => (.o 0 z : AV)) (show Qc7 d = y0 from Hk hD0 (rfl)).symm)
def Qj (s_ : Zp) (d : (List Zt)) : Z4 × Bool := (bif (!(((Ve s_ d)).2)) then ((([], [], 0), [], []), false) else (((Wx s_), (Qc7 d), ((Ve s_ d)).1), true))
theorem specNewCatalog_a (s_ : Zp) (d : (List Zt)) : ACalls Tryz.prog 16 [.a [.h s_.1, .h s_.2.1, .i s_.2.2], .h d] (.tup [(true, [.o 0 ((((Qj s_ d)).1).1.1), .o 1 ((((Qj s_ d)).1).1.2.1), .i ((((Qj s_ d)).1).1.2.2), .o 2 ((((Qj s_ d)).1).2.1), .o 3 ((((Qj s_ d)).1).2.2)]), (false, [.b (((Qj s_ d)).2)])]) := by
 refine Qt (tt := tt) Qb Tryz.func16 (fn := Tryz.f16) rfl (by unfold Jr; kernel_rfl) (Nat.le_of_ble_eq_true rfl) fun w0 F0 hG => ?_
 refine Qa ?_
 refine rk Qb [(2, .p 2 0), (4, .p 4 0), (5, .b false)] [0] [(2, [.h s_.1, .h s_.2.1, .i s_.2.2]), (4, [.e 2, .e 5, .i 0, .e 2, .e 2])] [] [] (o0) ?_
 refine Qa ?_
 refine rk Qb [(6, .o 704 (((Ve s_ d)).1)), (7, .b (((Ve s_ d)).2))] [] [] [] [(2, .val (.tup [(false, [.o 0 (((Ve s_ d)).1)]), (false, [.b (((Ve s_ d)).2)])]))] (o1 (Qg (specEvaluate_a s_ d))) ?_
 refine Qa ?_
 refine Qa ?_
 refine rk Qb [(15, .b (!(((Ve s_ d)).2)))] [7] [] [] [] (o0) ?_
 refine ck (!(((Ve s_ d)).2)) (fun h1 => ?_) (fun h1 => ?_)
 ·
  refine Qa ?_
  refine rk Qb [] [15] [] [] [] (o0) ?_
  refine opn [(true, 4, 0, true, 384000, 2), (true, 4, 1, true, 384001, 5), (true, 4, 3, true, 384002, 2), (true, 4, 4, true, 384003, 2)] ?_
  refine Qq ?_
  exact Ze [] (congrArg (fun z => (.tup [(true, [.o 0 z.1.1.1, .o 1 z.1.1.2.1, .i z.1.1.2.2, .o 2 z.1.2.1, .o 3 z.1.2.2]), (false, [.b z.2])] : AV)) (show Qj s_ d = ((([], [], 0), [], []), false) from X8 h1 (rfl)).symm)
 ·
  refine Qr ?_
  refine Qa ?_
  refine rk Qb [(5, .b true)] [1, 2, 5, 6, 15] [(4, [.o 1152 ((Wx s_).1), .o 1153 ((Wx s_).2.1), .i ((Wx s_).2.2), .o 1280 (Qc7 d), .o 704 (((Ve s_ d)).1)])] [2, 4] [(1, .val (.a [.o 0 ((Wx s_).1), .o 1 ((Wx s_).2.1), .i ((Wx s_).2.2)])), (3, .val (.o 0 (Qc7 d)))] (o2 (Qg (specl05Copy_a s_)) (o1 (Qg (specl11Copy_a d)))) ?_
  refine Qq ?_
  exact Ze [] (congrArg (fun z => (.tup [(true, [.o 0 z.1.1.1, .o 1 z.1.1.2.1, .i z.1.1.2.2, .o 2 z.1.2.1, .o 3 z.1.2.2]), (false, [.b z.2])] : AV)) (show Qj s_ d = (((Wx s_), (Qc7 d), ((Ve s_ d)).1), true) from Q6 h1 (rfl)).symm)
def Qn (s_ : (List Kc)) : Zp := (s_, [], 1)
theorem specNewStore_a (s_ : (List Kc)) : ACalls Tryz.prog 17 [.h s_] (.a [.o 0 ((Qn s_).1), .o 1 ((Qn s_).2.1), .i ((Qn s_).2.2)]) := by
 refine Qt (tt := tt) Qb Tryz.func17 (fn := Tryz.f17) rfl (by unfold Jr; kernel_rfl) (Nat.le_of_ble_eq_true rfl) fun w0 F0 hG => ?_
 refine Qa ?_
 refine rk Qb [(2, .p 2 0)] [] [(2, [.e 2, .e 5, .i 0])] [] [] (o0) ?_
 refine Qa ?_
 refine wdT 0 0 .sh s_ (fun hw1 => ?_)
 have hl2 : List.length s_ ≤ 1073741824 := Qx (hw1)
 refine rk Qb [] [0] [(2, [.o 320 s_, .e 5, .i 1])] [2] [(2, .flat)] (o2 (V9 (n := (([] : List (List PV)).length + ((eL s_) : List (List PV)).length)) (Wi (rfl) (Xm s_) (by first | omega | (simp only [List.length_cons, List.length_nil]; omega) | (simp; omega) | simp))) (o1 (Qeb (Qdu s_)))) ?_
 refine opn [(true, 2, 1, true, 384000, 5)] ?_
 refine Qq ?_
 exact Ze [] (congrArg (fun z => (.a [.o 0 z.1, .o 1 z.2.1, .i z.2.2] : AV)) (show Qn s_ = (s_, [], 1) from rfl).symm)
def Qci : (List Kc) := [((⟨#[97]⟩, 1) : Kc), ((⟨#[98]⟩, 1) : Kc), ((⟨#[110]⟩, 2) : Kc), ((⟨#[116]⟩, 2) : Kc)]
theorem specl03Usual_a : ACalls Tryz.prog 45 [] (.o 0 Qci) := by
 refine Qt (tt := tt) Qb Tryz.func45 (fn := Tryz.f45) rfl (by unfold Jr; kernel_rfl) (Nat.le_of_ble_eq_true rfl) fun w0 F0 hG => ?_
 refine Qa ?_
 refine rk Qb [(0, .e 0)] [] [] [] [] (o0) ?_
 refine Qa ?_
 refine rk Qb [(0, .o 320 [((⟨#[97]⟩, 1) : Kc), ((⟨#[98]⟩, 1) : Kc), ((⟨#[110]⟩, 2) : Kc), ((⟨#[116]⟩, 2) : Kc)])] [0] [] [] [] (o0) ?_
 refine Qq ?_
 exact Ze [] (congrArg (fun z => (.o 0 z : AV)) (show Qci = [((⟨#[97]⟩, 1) : Kc), ((⟨#[98]⟩, 1) : Kc), ((⟨#[110]⟩, 2) : Kc), ((⟨#[116]⟩, 2) : Kc)] from rfl).symm)
def Qf : (List Kc) := Qci
theorem specDefaultSchema_a : ACalls Tryz.prog 18 [] (.o 0 Qf) := by
 refine Qt (tt := tt) Qb Tryz.func18 (fn := Tryz.f18) rfl (by unfold Jr; kernel_rfl) (Nat.le_of_ble_eq_true rfl) fun w0 F0 hG => ?_
 refine Qa ?_
 refine rk Qb [(0, .e 0)] [] [] [] [] (o0) ?_
 refine Qa ?_
 refine rk Qb [(0, .o 64 Qci)] [0] [] [] [(0, .val (.o 0 Qci))] (o1 (Qg (specl03Usual_a))) ?_
 refine Qq ?_
 exact Ze [] (congrArg (fun z => (.o 0 z : AV)) (show Qf = Qci from rfl).symm)
open GoE (enc wide)
def lawsbig (code : (List UInt8)) : Bool := decide ((code.length : Int) > (1048576 : Int))
theorem lawsbig_a (code : (List UInt8)) : ACalls Tryz.prog 6 [.h code] (.b (lawsbig code)) := by
 refine Qt (tt := tt) Qb Tryz.func6 (fn := Tryz.f6) rfl (by unfold Jr; kernel_rfl) (Nat.le_of_ble_eq_true rfl) fun w0 F0 hG => ?_
 refine Qa ?_
 refine rk Qb [(2, .b false)] [] [] [] [] (o0) ?_
 refine Qa ?_
 refine rk Qb [(2, .b (decide ((code.length : Int) > (1048576 : Int))))] [0, 2] [] [] [(1, .val (.i (code.length : Int)))] (o1 (Qi (Xs code))) ?_
 refine Qq ?_
 exact Ze [] (congrArg (fun z => (.b z : AV)) (show lawsbig code = decide ((code.length : Int) > (1048576 : Int)) from rfl).symm)
def Wf (_ : Nat) (s0 : (List Hx)) : Rd (Bool) ((List Hx)) ((List Hx)) := (.next (s0 ++ [((1, (0, 0, false, 0, []), 0, (⟨#[]⟩, [])) : Hx)]))
def Wg (_ : Nat) (s0 : (List Hx)) : (List Hx) := s0
def Ha (code : (List UInt8)) : Bool := (bif (lawsbig code) then true else (Out.on (Hu Wf Wg (Int.toNat (1 + Int.tmod (nth (Xh code) 0) 5)) 0 []) (fun y0 => (((((Qe (((Qj (Qn Qf) [])).1) 0 y0 [3, 0, 0])).2.2) == (decide ((1 + Int.tmod (nth (Xh code) 0) 5) ≤ (3 : Int)))) && (bif ((Qe (((Qj (Qn Qf) [])).1) 0 y0 [3, 0, 0])).2.2 then ((true == (decide ((1 + Int.tmod (nth (Xh code) 0) 5) ≤ (3 : Int)))) && ((((Z6 ((((Qe (((Qj (Qn Qf) [])).1) 0 y0 [3, 0, 0])).1).1.1, (((Qe (((Qj (Qn Qf) [])).1) 0 y0 [3, 0, 0])).1).1.2.1, (((Qe (((Qj (Qn Qf) [])).1) 0 y0 [3, 0, 0])).1).1.2.2)).length : Int) == (1 + Int.tmod (nth (Xh code) 0) 5)) && (!(((Qe (((Qj (Qn Qf) [])).1) 1 y0 [3, 3, 3])).2.2)))) else ((false == (decide ((1 + Int.tmod (nth (Xh code) 0) 5) ≤ (3 : Int)))) && ((((Z6 ((((Qe (((Qj (Qn Qf) [])).1) 0 y0 [3, 0, 0])).1).1.1, (((Qe (((Qj (Qn Qf) [])).1) 0 y0 [3, 0, 0])).1).1.2.1, (((Qe (((Qj (Qn Qf) [])).1) 0 y0 [3, 0, 0])).1).1.2.2)).length : Int) == (0 : Int)) && (!(((Qe (((Qj (Qn Qf) [])).1) 1 y0 [3, 3, 3])).2.2)))))))))
theorem lawsFnQuotaRejects_a (code : (List UInt8)) : ACalls Tryz.prog 4 [.h code] (.b (Ha code)) := by
 refine Qt (tt := tt) Qb Tryz.func4 (fn := Tryz.f4) rfl (by unfold Jr; kernel_rfl) (Nat.le_of_ble_eq_true rfl) fun w0 F0 hG => ?_
 have hpl := places_len code
 have hp0 := (place_mod code 0 (by decide) (m := 5) (by decide)).2
 refine Qa ?_
 refine rk Qb [(2, .b false)] [] [] [] [] (o0) ?_
 refine Qa ?_
 refine Qa ?_
 refine rk Qb [(16, .b (lawsbig code))] [] [] [] [(1, .val (.b (lawsbig code)))] (o1 (Qg (lawsbig_a code))) ?_
 refine ck (lawsbig code) (fun h1 => ?_) (fun h1 => ?_)
 ·
  refine Qa ?_
  refine rk Qb [(2, .b true)] [2, 16] [] [] [] (o0) ?_
  refine Qq ?_
  exact Ze [] (congrArg (fun z => (.b z : AV)) (show Ha code = true from X8 h1 (rfl)).symm)
 ·
  refine Qr ?_
  refine Qa ?_
  refine rk Qb [(3, .o 1152 (Xh code))] [0, 16] [] [] [(1, .val (.o 0 (Xh code)))] (o1 (Qg (specDrawPlaces_a code))) ?_
  refine Qa ?_
  refine wdT 3 0 (.own true 1152) (Xh code) (fun hw3 => ?_)
  have hl4 : List.length (Xh code) ≤ 1073741824 := Qx (hw3)
  have hx2 : (Xh code)[0]? = some (nth (Xh code) 0) := Yj (by omega)
  have hx2b := places_bd code _ (List.mem_of_getElem? hx2)
  refine rk Qb [(4, .i (1 + Int.tmod (nth (Xh code) 0) 5))] [3] [] [] [(1, .rowE [.i (nth (Xh code) 0)]), (4, .val (.i (1 + Int.tmod (nth (Xh code) 0) 5)))] (o2 (Qy (X4 (i := 0) (by omega) rfl hx2)) (o2 (ob_nz (n := 5) (by omega)) (o2 (ob_inr (k := .i64) (n := Int.tmod (nth (Xh code) 0) 5) (inr_rem0 (by omega))) (o1 (Qi (Km (IntWalk.i64_in (1 + Int.tmod (nth (Xh code) 0) 5) (by omega)))))))) ?_
  refine Qa ?_
  refine rk Qb [(5, .p 5 0)] [] [(5, [.o 1728 ((((Qj (Qn Qf) [])).1).1.1), .o 1729 ((((Qj (Qn Qf) [])).1).1.2.1), .i ((((Qj (Qn Qf) [])).1).1.2.2), .o 1730 ((((Qj (Qn Qf) [])).1).2.1), .o 1731 ((((Qj (Qn Qf) [])).1).2.2)])] [] [(0, .val (.o 0 Qf)), (1, .val (.a [.o 0 ((Qn Qf).1), .o 1 ((Qn Qf).2.1), .i ((Qn Qf).2.2)])), (2, .val (.tup [(true, [.o 0 ((((Qj (Qn Qf) [])).1).1.1), .o 1 ((((Qj (Qn Qf) [])).1).1.2.1), .i ((((Qj (Qn Qf) [])).1).1.2.2), .o 2 ((((Qj (Qn Qf) [])).1).2.1), .o 3 ((((Qj (Qn Qf) [])).1).2.2)]), (false, [.b (((Qj (Qn Qf) [])).2)])]))] (o2 (Qg (specDefaultSchema_a)) (o2 (Qg (specNewStore_a Qf)) (o1 (Qg (acalls_args (.cons (ArgLe.rfl _) ( .cons (ArgLe.nil 2) (.nil))) (specNewCatalog_a (Qn Qf) [])))))) ?_
  refine Qa ?_
  refine rk Qb [(7, .one (.slc (.own true 1920) 9 []))] [] [] [] [] (o0) ?_
  refine Qa ?_
  refine Qa ?_
  refine rk Qb [(8, .i 0)] [] [] [] [] (o0) ?_
  refine blk (fun (k0 : Nat) (s0 : (List Hx)) => [(7, .o 147203 s0), (8, .i ((k0 : Nat) : Int))]) [7, 8] (fun k0 s0 => []) [] (fun (y0 : (List Hx)) => [(7, .o 147353 y0)]) [7, 8] (fun y0 => []) [] (fun (k0 : Nat) (s0 : (List Hx)) => (Hu Wf Wg (Int.toNat (1 + Int.tmod (nth (Xh code) 0) 5)) 0 []) = Hu Wf Wg ((Int.toNat (1 + Int.tmod (nth (Xh code) 0) 5)) - k0) k0 s0 ∧ List.length s0 ≤ k0) (fun (y0 : (List Hx)) => (Hu Wf Wg (Int.toNat (1 + Int.tmod (nth (Xh code) 0) 5)) 0 []) = .brk y0) (Int.toNat (1 + Int.tmod (nth (Xh code) 0) 5)) [] (Yt [(1920, 147203)] (by kernel_rfl)) ⟨rfl, (by simp)⟩ (fun k0 s0 hk0 hI0 => ?_) (fun k0 s0 hk0 hI0 => ?_) (fun y0 hD0 => ?_)
  ·
   have hA0_0 := hI0.2
   refine Qa ?_
   refine Qa ?_
   refine rk Qb [(33, .b true)] [] [] [] [(2, .val (.b true))] (o1 (Qi (Qh (decide_eq_true (p := ((k0 : Nat) : Int) < (1 + Int.tmod (nth (Xh code) 0) 5)) (by omega))))) ?_
   refine ckT ?_
   refine Qr ?_
   refine Qa ?_
   refine Xf ?_
   refine wdT 7 0 (.own true 147203) s0 (fun hw5 => ?_)
   have hl6 : List.length s0 ≤ 1073741824 := Qx (hw5)
   refine rk Qb [(7, .one (.slc (.own true 2496) 9 ((eL s0) ++ [[.i 1, .i 0, .i 0, .b false, .i 0, .slc 4 [], .i 0, .s ⟨#[]⟩, .slc 7 []]])))] [7, 33] [] [] [] (o1 (V9 (Wi (Xm s0) (Xm [((1, (0, 0, false, 0, []), 0, (⟨#[]⟩, [])) : Hx)]) (by first | omega | (simp only [List.length_cons, List.length_nil]; omega) | (simp; omega) | simp)))) ?_
   refine eqn [(7, .o 2496 (s0 ++ [((1, (0, 0, false, 0, []), 0, (⟨#[]⟩, [])) : Hx)]))] [7] [] [] (by rw [show ((eL s0) ++ [[.i 1, .i 0, .i 0, .b false, .i 0, .slc 4 [], .i 0, .s ⟨#[]⟩, .slc 7 []]]) = (eL (s0 ++ [((1, (0, 0, false, 0, []), 0, (⟨#[]⟩, [])) : Hx)])) from Hj (rfl) (rfl)]; first | done | kernel_rfl) ?_
   refine rk Qb [(8, .i ((k0 + 1 : Nat) : Int))] [8] [] [] [(1, .val (.i ((k0 + 1 : Nat) : Int)))] (o1 (Qi (Km (Q8 k0 (by omega))))) ?_
   exact Exists.intro (s0 ++ [((1, (0, 0, false, 0, []), 0, (⟨#[]⟩, [])) : Hx)]) (And.intro (Yt [(2496, 147203)] (by kernel_rfl)) ⟨Vh hk0 (rfl) hI0.1, by first | omega | (simp; omega) | simp⟩)
  ·
   have hA0_0 := hI0.2
   refine Qa ?_
   refine Qa ?_
   refine rk Qb [(33, .b false)] [] [] [] [(2, .val (.b false))] (o1 (Qi (Qh (decide_eq_false (p := ((k0 : Nat) : Int) < (1 + Int.tmod (nth (Xh code) 0) 5)) (by omega))))) ?_
   refine ckF ?_
   refine Xt ?_
   exact Exists.intro s0 (And.intro (Yt [(147203, 147353)] (by kernel_rfl)) (Qbu hk0 (rfl) hI0.1))
  ·
   refine Qa ?_
   refine rk Qb [(9, .p 9 0), (11, .b (((Qe (((Qj (Qn Qf) [])).1) 0 y0 [3, 0, 0])).2.2))] [] [(9, [.o 2816 ((((Qe (((Qj (Qn Qf) [])).1) 0 y0 [3, 0, 0])).1).1.1), .o 2817 ((((Qe (((Qj (Qn Qf) [])).1) 0 y0 [3, 0, 0])).1).1.2.1), .i ((((Qe (((Qj (Qn Qf) [])).1) 0 y0 [3, 0, 0])).1).1.2.2), .o 2818 ((((Qe (((Qj (Qn Qf) [])).1) 0 y0 [3, 0, 0])).1).2.1), .o 2819 ((((Qe (((Qj (Qn Qf) [])).1) 0 y0 [3, 0, 0])).1).2.2)])] [] [(3, .val (.tup [(true, [.o 0 ((((Qe (((Qj (Qn Qf) [])).1) 0 y0 [3, 0, 0])).1).1.1), .o 1 ((((Qe (((Qj (Qn Qf) [])).1) 0 y0 [3, 0, 0])).1).1.2.1), .i ((((Qe (((Qj (Qn Qf) [])).1) 0 y0 [3, 0, 0])).1).1.2.2), .o 2 ((((Qe (((Qj (Qn Qf) [])).1) 0 y0 [3, 0, 0])).1).2.1), .o 3 ((((Qe (((Qj (Qn Qf) [])).1) 0 y0 [3, 0, 0])).1).2.2)]), (false, [.o 4 (((Qe (((Qj (Qn Qf) [])).1) 0 y0 [3, 0, 0])).2.1)]), (false, [.b (((Qe (((Qj (Qn Qf) [])).1) 0 y0 [3, 0, 0])).2.2)])]))] (o1 (Qg (Qc0 (((Qj (Qn Qf) [])).1) 0 y0 [3, 0, 0]))) ?_
   refine Qa ?_
   refine rk Qb [(14, .b (((Qe (((Qj (Qn Qf) [])).1) 1 y0 [3, 3, 3])).2.2))] [5, 7] [] [5] [(3, .val (.tup [(true, [.o 0 ((((Qe (((Qj (Qn Qf) [])).1) 1 y0 [3, 3, 3])).1).1.1), .o 1 ((((Qe (((Qj (Qn Qf) [])).1) 1 y0 [3, 3, 3])).1).1.2.1), .i ((((Qe (((Qj (Qn Qf) [])).1) 1 y0 [3, 3, 3])).1).1.2.2), .o 2 ((((Qe (((Qj (Qn Qf) [])).1) 1 y0 [3, 3, 3])).1).2.1), .o 3 ((((Qe (((Qj (Qn Qf) [])).1) 1 y0 [3, 3, 3])).1).2.2)]), (false, [.o 4 (((Qe (((Qj (Qn Qf) [])).1) 1 y0 [3, 3, 3])).2.1)]), (false, [.b (((Qe (((Qj (Qn Qf) [])).1) 1 y0 [3, 3, 3])).2.2)])]))] (o1 (Qg (Qc0 (((Qj (Qn Qf) [])).1) 1 y0 [3, 3, 3]))) ?_
   refine Qa ?_
   refine jn [(2, .b (((((Qe (((Qj (Qn Qf) [])).1) 0 y0 [3, 0, 0])).2.2) == (decide ((1 + Int.tmod (nth (Xh code) 0) 5) ≤ (3 : Int)))) && (bif ((Qe (((Qj (Qn Qf) [])).1) 0 y0 [3, 0, 0])).2.2 then ((true == (decide ((1 + Int.tmod (nth (Xh code) 0) 5) ≤ (3 : Int)))) && ((((Z6 ((((Qe (((Qj (Qn Qf) [])).1) 0 y0 [3, 0, 0])).1).1.1, (((Qe (((Qj (Qn Qf) [])).1) 0 y0 [3, 0, 0])).1).1.2.1, (((Qe (((Qj (Qn Qf) [])).1) 0 y0 [3, 0, 0])).1).1.2.2)).length : Int) == (1 + Int.tmod (nth (Xh code) 0) 5)) && (!(((Qe (((Qj (Qn Qf) [])).1) 1 y0 [3, 3, 3])).2.2)))) else ((false == (decide ((1 + Int.tmod (nth (Xh code) 0) 5) ≤ (3 : Int)))) && ((((Z6 ((((Qe (((Qj (Qn Qf) [])).1) 0 y0 [3, 0, 0])).1).1.1, (((Qe (((Qj (Qn Qf) [])).1) 0 y0 [3, 0, 0])).1).1.2.1, (((Qe (((Qj (Qn Qf) [])).1) 0 y0 [3, 0, 0])).1).1.2.2)).length : Int) == (0 : Int)) && (!(((Qe (((Qj (Qn Qf) [])).1) 1 y0 [3, 3, 3])).2.2)))))))] [2, 4, 9, 11, 14] [] [9] ((((Qe (((Qj (Qn Qf) [])).1) 0 y0 [3, 0, 0])).2.2) == (decide ((1 + Int.tmod (nth (Xh code) 0) 5) ≤ (3 : Int)))) (fun h7 => ?_) (fun h7 => ?_) ?_
   ·
    refine X9 (((Qe (((Qj (Qn Qf) [])).1) 0 y0 [3, 0, 0])).2.2) (fun h8 => ?_) (fun h8 => ?_)
    ·
     refine X9 (true == (decide ((1 + Int.tmod (nth (Xh code) 0) 5) ≤ (3 : Int)))) (fun h9 => ?_) (fun h9 => ?_)
     ·
      refine X9 (((Z6 ((((Qe (((Qj (Qn Qf) [])).1) 0 y0 [3, 0, 0])).1).1.1, (((Qe (((Qj (Qn Qf) [])).1) 0 y0 [3, 0, 0])).1).1.2.1, (((Qe (((Qj (Qn Qf) [])).1) 0 y0 [3, 0, 0])).1).1.2.2)).length : Int) == (1 + Int.tmod (nth (Xh code) 0) 5)) (fun h10 => ?_) (fun h10 => ?_)
      ·
       refine rk Qb [(2, .b (!(((Qe (((Qj (Qn Qf) [])).1) 1 y0 [3, 3, 3])).2.2)))] [2, 4, 9, 11, 14] [] [9] [(0, .val (.b true)), (3, .val (.b true)), (5, .val (.b true)), (9, .val (.o 0 (Z6 ((((Qe (((Qj (Qn Qf) [])).1) 0 y0 [3, 0, 0])).1).1.1, (((Qe (((Qj (Qn Qf) [])).1) 0 y0 [3, 0, 0])).1).1.2.1, (((Qe (((Qj (Qn Qf) [])).1) 0 y0 [3, 0, 0])).1).1.2.2)))), (10, .val (.i ((Z6 ((((Qe (((Qj (Qn Qf) [])).1) 0 y0 [3, 0, 0])).1).1.1, (((Qe (((Qj (Qn Qf) [])).1) 0 y0 [3, 0, 0])).1).1.2.1, (((Qe (((Qj (Qn Qf) [])).1) 0 y0 [3, 0, 0])).1).1.2.2)).length : Int))), (12, .val (.b true))] (o2 (Qi (Qh h8)) (o2 (Qi (Qh h9)) (o2 (Qi (Qh h8)) (o2 (Qg (Qd5 ((((Qe (((Qj (Qn Qf) [])).1) 0 y0 [3, 0, 0])).1).1.1, (((Qe (((Qj (Qn Qf) [])).1) 0 y0 [3, 0, 0])).1).1.2.1, (((Qe (((Qj (Qn Qf) [])).1) 0 y0 [3, 0, 0])).1).1.2.2))) (o2 (Qi (Xs (Z6 ((((Qe (((Qj (Qn Qf) [])).1) 0 y0 [3, 0, 0])).1).1.1, (((Qe (((Qj (Qn Qf) [])).1) 0 y0 [3, 0, 0])).1).1.2.1, (((Qe (((Qj (Qn Qf) [])).1) 0 y0 [3, 0, 0])).1).1.2.2)))) (o1 (Qi (Qh h10)))))))) ?_
       exact ⟨rfl, Qd (by rw [h7, h8, h9, h10]; first | done | kernel_rfl)⟩
      ·
       refine rk Qb [] [4, 9, 11, 14] [] [9] [(0, .val (.b true)), (3, .val (.b true)), (5, .val (.b true)), (9, .val (.o 0 (Z6 ((((Qe (((Qj (Qn Qf) [])).1) 0 y0 [3, 0, 0])).1).1.1, (((Qe (((Qj (Qn Qf) [])).1) 0 y0 [3, 0, 0])).1).1.2.1, (((Qe (((Qj (Qn Qf) [])).1) 0 y0 [3, 0, 0])).1).1.2.2)))), (10, .val (.i ((Z6 ((((Qe (((Qj (Qn Qf) [])).1) 0 y0 [3, 0, 0])).1).1.1, (((Qe (((Qj (Qn Qf) [])).1) 0 y0 [3, 0, 0])).1).1.2.1, (((Qe (((Qj (Qn Qf) [])).1) 0 y0 [3, 0, 0])).1).1.2.2)).length : Int))), (12, .val (.b false)), (15, .val (.b true)), (16, .val (.b false))] (o2 (Qi (Qh h8)) (o2 (Qi (Qh h9)) (o2 (Qi (Qh h8)) (o2 (Qg (Qd5 ((((Qe (((Qj (Qn Qf) [])).1) 0 y0 [3, 0, 0])).1).1.1, (((Qe (((Qj (Qn Qf) [])).1) 0 y0 [3, 0, 0])).1).1.2.1, (((Qe (((Qj (Qn Qf) [])).1) 0 y0 [3, 0, 0])).1).1.2.2))) (o2 (Qi (Xs (Z6 ((((Qe (((Qj (Qn Qf) [])).1) 0 y0 [3, 0, 0])).1).1.1, (((Qe (((Qj (Qn Qf) [])).1) 0 y0 [3, 0, 0])).1).1.2.1, (((Qe (((Qj (Qn Qf) [])).1) 0 y0 [3, 0, 0])).1).1.2.2)))) (o2 (Qi (Qh h10)) (o2 (Qi (Qh h8)) (o1 (Qi (show .b (!true) = .b false from rfl)))))))))) ?_
       exact ⟨rfl, Qd (by rw [h7, h8, h9, h10]; first | done | kernel_rfl)⟩
     ·
      refine rk Qb [] [4, 9, 11, 14] [] [9] [(0, .val (.b true)), (3, .val (.b false))] (o2 (Qi (Qh h8)) (o1 (Qi (Qh h9)))) ?_
      exact ⟨rfl, Qd (by rw [h7, h8, h9]; first | done | kernel_rfl)⟩
    ·
     refine X9 (false == (decide ((1 + Int.tmod (nth (Xh code) 0) 5) ≤ (3 : Int)))) (fun h11 => ?_) (fun h11 => ?_)
     ·
      refine X9 (((Z6 ((((Qe (((Qj (Qn Qf) [])).1) 0 y0 [3, 0, 0])).1).1.1, (((Qe (((Qj (Qn Qf) [])).1) 0 y0 [3, 0, 0])).1).1.2.1, (((Qe (((Qj (Qn Qf) [])).1) 0 y0 [3, 0, 0])).1).1.2.2)).length : Int) == (0 : Int)) (fun h12 => ?_) (fun h12 => ?_)
      ·
       refine rk Qb [(2, .b (!(((Qe (((Qj (Qn Qf) [])).1) 1 y0 [3, 3, 3])).2.2)))] [2, 4, 9, 11, 14] [] [9] [(0, .val (.b false)), (3, .val (.b true)), (5, .val (.b false)), (15, .val (.b false)), (16, .val (.b true)), (20, .val (.o 0 (Z6 ((((Qe (((Qj (Qn Qf) [])).1) 0 y0 [3, 0, 0])).1).1.1, (((Qe (((Qj (Qn Qf) [])).1) 0 y0 [3, 0, 0])).1).1.2.1, (((Qe (((Qj (Qn Qf) [])).1) 0 y0 [3, 0, 0])).1).1.2.2)))), (21, .val (.i ((Z6 ((((Qe (((Qj (Qn Qf) [])).1) 0 y0 [3, 0, 0])).1).1.1, (((Qe (((Qj (Qn Qf) [])).1) 0 y0 [3, 0, 0])).1).1.2.1, (((Qe (((Qj (Qn Qf) [])).1) 0 y0 [3, 0, 0])).1).1.2.2)).length : Int))), (22, .val (.b true))] (o2 (Qi (Qh h8)) (o2 (Qi (Qh h11)) (o2 (Qi (Qh h8)) (o2 (Qi (Qh h8)) (o2 (Qi (show .b (!false) = .b true from rfl)) (o2 (Qg (Qd5 ((((Qe (((Qj (Qn Qf) [])).1) 0 y0 [3, 0, 0])).1).1.1, (((Qe (((Qj (Qn Qf) [])).1) 0 y0 [3, 0, 0])).1).1.2.1, (((Qe (((Qj (Qn Qf) [])).1) 0 y0 [3, 0, 0])).1).1.2.2))) (o2 (Qi (Xs (Z6 ((((Qe (((Qj (Qn Qf) [])).1) 0 y0 [3, 0, 0])).1).1.1, (((Qe (((Qj (Qn Qf) [])).1) 0 y0 [3, 0, 0])).1).1.2.1, (((Qe (((Qj (Qn Qf) [])).1) 0 y0 [3, 0, 0])).1).1.2.2)))) (o1 (Qi (Qh h12)))))))))) ?_
       exact ⟨rfl, Qd (by rw [h7, h8, h11, h12]; first | done | kernel_rfl)⟩
      ·
       refine rk Qb [] [4, 9, 11, 14] [] [9] [(0, .val (.b false)), (3, .val (.b true)), (5, .val (.b false)), (15, .val (.b false)), (16, .val (.b true)), (20, .val (.o 0 (Z6 ((((Qe (((Qj (Qn Qf) [])).1) 0 y0 [3, 0, 0])).1).1.1, (((Qe (((Qj (Qn Qf) [])).1) 0 y0 [3, 0, 0])).1).1.2.1, (((Qe (((Qj (Qn Qf) [])).1) 0 y0 [3, 0, 0])).1).1.2.2)))), (21, .val (.i ((Z6 ((((Qe (((Qj (Qn Qf) [])).1) 0 y0 [3, 0, 0])).1).1.1, (((Qe (((Qj (Qn Qf) [])).1) 0 y0 [3, 0, 0])).1).1.2.1, (((Qe (((Qj (Qn Qf) [])).1) 0 y0 [3, 0, 0])).1).1.2.2)).length : Int))), (22, .val (.b false))] (o2 (Qi (Qh h8)) (o2 (Qi (Qh h11)) (o2 (Qi (Qh h8)) (o2 (Qi (Qh h8)) (o2 (Qi (show .b (!false) = .b true from rfl)) (o2 (Qg (Qd5 ((((Qe (((Qj (Qn Qf) [])).1) 0 y0 [3, 0, 0])).1).1.1, (((Qe (((Qj (Qn Qf) [])).1) 0 y0 [3, 0, 0])).1).1.2.1, (((Qe (((Qj (Qn Qf) [])).1) 0 y0 [3, 0, 0])).1).1.2.2))) (o2 (Qi (Xs (Z6 ((((Qe (((Qj (Qn Qf) [])).1) 0 y0 [3, 0, 0])).1).1.1, (((Qe (((Qj (Qn Qf) [])).1) 0 y0 [3, 0, 0])).1).1.2.1, (((Qe (((Qj (Qn Qf) [])).1) 0 y0 [3, 0, 0])).1).1.2.2)))) (o1 (Qi (Qh h12)))))))))) ?_
       exact ⟨rfl, Qd (by rw [h7, h8, h11, h12]; first | done | kernel_rfl)⟩
     ·
      refine rk Qb [] [4, 9, 11, 14] [] [9] [(0, .val (.b false)), (3, .val (.b false))] (o2 (Qi (Qh h8)) (o1 (Qi (Qh h11)))) ?_
      exact ⟨rfl, Qd (by rw [h7, h8, h11]; first | done | kernel_rfl)⟩
   ·
    refine rk Qb [] [4, 9, 11, 14] [] [9] [(3, .val (.b false))] (o1 (Qi (Qh h7))) ?_
    exact ⟨rfl, Qd (by rw [h7]; first | done | kernel_rfl)⟩
   refine Qq ?_
   exact Ze [] (congrArg (fun z => (.b z : AV)) (show Ha code = (((((Qe (((Qj (Qn Qf) [])).1) 0 y0 [3, 0, 0])).2.2) == (decide ((1 + Int.tmod (nth (Xh code) 0) 5) ≤ (3 : Int)))) && (bif ((Qe (((Qj (Qn Qf) [])).1) 0 y0 [3, 0, 0])).2.2 then ((true == (decide ((1 + Int.tmod (nth (Xh code) 0) 5) ≤ (3 : Int)))) && ((((Z6 ((((Qe (((Qj (Qn Qf) [])).1) 0 y0 [3, 0, 0])).1).1.1, (((Qe (((Qj (Qn Qf) [])).1) 0 y0 [3, 0, 0])).1).1.2.1, (((Qe (((Qj (Qn Qf) [])).1) 0 y0 [3, 0, 0])).1).1.2.2)).length : Int) == (1 + Int.tmod (nth (Xh code) 0) 5)) && (!(((Qe (((Qj (Qn Qf) [])).1) 1 y0 [3, 3, 3])).2.2)))) else ((false == (decide ((1 + Int.tmod (nth (Xh code) 0) 5) ≤ (3 : Int)))) && ((((Z6 ((((Qe (((Qj (Qn Qf) [])).1) 0 y0 [3, 0, 0])).1).1.1, (((Qe (((Qj (Qn Qf) [])).1) 0 y0 [3, 0, 0])).1).1.2.1, (((Qe (((Qj (Qn Qf) [])).1) 0 y0 [3, 0, 0])).1).1.2.2)).length : Int) == (0 : Int)) && (!(((Qe (((Qj (Qn Qf) [])).1) 1 y0 [3, 3, 3])).2.2)))))) from Q6 h1 (Hk hD0 (rfl))).symm)
end Go.Proofs.YtamghcfmhfknmaaGreat
namespace Go.Proofs.YtamghcfmhfknmaaGreat
open Go.RowKit
def qrC : Z4 := (Qj (Qn Qf) []).1
def qrAll (n : Int) : Bool := (Out.on (Hu Wf Wg (Int.toNat n) 0 []) (fun y0 => (((((Qe qrC 0 y0 [3, 0, 0])).2.2) == (decide (n ≤ (3 : Int)))) && (bif ((Qe qrC 0 y0 [3, 0, 0])).2.2 then ((true == (decide (n ≤ (3 : Int)))) && ((((Z6 ((((Qe qrC 0 y0 [3, 0, 0])).1).1.1, (((Qe qrC 0 y0 [3, 0, 0])).1).1.2.1, (((Qe qrC 0 y0 [3, 0, 0])).1).1.2.2)).length : Int) == n) && (!(((Qe qrC 1 y0 [3, 3, 3])).2.2)))) else ((false == (decide (n ≤ (3 : Int)))) && ((((Z6 ((((Qe qrC 0 y0 [3, 0, 0])).1).1.1, (((Qe qrC 0 y0 [3, 0, 0])).1).1.2.1, (((Qe qrC 0 y0 [3, 0, 0])).1).1.2.2)).length : Int) == (0 : Int)) && (!(((Qe qrC 1 y0 [3, 3, 3])).2.2))))))))
theorem qr1 : qrAll 1 = true := by kernel_rfl
theorem qr2 : qrAll 2 = true := by kernel_rfl
theorem qr3 : qrAll 3 = true := by kernel_rfl
theorem qr4 : qrAll 4 = true := by kernel_rfl
theorem qr5 : qrAll 5 = true := by kernel_rfl
theorem Qfv (code : List UInt8) : Ha code = true := by
  unfold Ha
  cases lawsbig code with
  | true => rfl
  | false =>
    obtain ⟨h0, h1⟩ := (place_mod code 0 (by decide) (m := 5) (by decide)).2
    show qrAll (1 + Int.tmod (nth (Xh code) 0) 5) = true
    generalize Int.tmod (nth (Xh code) 0) 5 = t at h0 h1
    have ht : t = 0 ∨ t = 1 ∨ t = 2 ∨ t = 3 ∨ t = 4 := by omega
    rcases ht with rfl | rfl | rfl | rfl | rfl
    · exact qr1
    · exact qr2
    · exact qr3
    · exact qr4
    · exact qr5
end Go.Proofs.YtamghcfmhfknmaaGreat
namespace Go.Proofs.YtamghcfmhfknmaaGreat
open Go.RowKit
open GoD (rd own)
theorem bigQuotaRejects (w : World) (v : Value) (a : List UInt8) (h : rd w [v] a) (hbig : ¬ a.length ≤ 1048576) : Calls Tryz.prog 4 #[v] w (Ret w (.bool true)) := by
  obtain ⟨oa, cap, rfl⟩ := slice_of_rd h
  have hln := len_of_rd h
  clear h
  have hbi : 1048576 < (a.length : Int) := by omega
  go_enter Tryz.func4, Tryz.ntmps4
  go_wp2_with (first | (go_at_call 6; go_in))
  go_ret
  exact ⟨rfl, by go_grown⟩
theorem lawQuotaRejects (w : World) (v : Value) (a : List UInt8) (h : rd w [v] a) : Calls Tryz.prog 4 #[v] w (Ret w (.bool true)) := by
  by_cases hbig : a.length ≤ 1048576
  · haveI : Good Tryz.prog w := Good.none (by kernel_rfl) w
    have hc := (lawsFnQuotaRejects_a a).run (.cons (arg_sli h ⟨by omega, fun _ _ => trivial⟩) .nil)
    rw [Qfv] at hc
    exact hc.mono fun _ _ h => ret_bool h
  · exact bigQuotaRejects w v a h hbig
end Go.Proofs.YtamghcfmhfknmaaGreat
