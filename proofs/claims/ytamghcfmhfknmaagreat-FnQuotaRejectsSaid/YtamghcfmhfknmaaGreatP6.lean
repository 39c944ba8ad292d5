/- Texts of this proof, put together by a program: Eva, Evb, Eua, Eub, Enp, Wk, Vf, Tw, Clr, Inr, Ins, Df, Cga. -/
import Derived.Test.YtamghcfmhfknmaaGreatP5
import Derived.KernelRfl
import Derived.Laws.Externs
import Derived.Lib.AppendZerosOnto
import Derived.Deep.RegionLaw
set_option linter.unusedVariables false
set_option linter.unusedSimpArgs false
namespace Go.Proofs.YtamghcfmhfknmaaGreat
open Go.RowKit
open GoE (enc wide)
def Qa0 (_ : Nat) (a0 : Zt) (s0 : (List ByteArray)) : Rd ((List ByteArray)) ((List ByteArray)) ((List ByteArray)) := (.next (s0 ++ [a0.1]))
def Qa1 (_ : Nat) (s0 : (List ByteArray)) : (List ByteArray) := s0
def Q3 (d : (List Zt)) : (List ByteArray) := (Out.on (Xv Qa0 Qa1 d 0 []) (fun y0 => y0))
theorem Qdc (d : (List Zt)) : ACalls Tryz.prog 122 [.h d] (.o 0 (Q3 d)) := by
 refine Qt (tt := tt) Qb Tryz.func122 (fn := Tryz.f122) rfl (by unfold Jr; kernel_rfl) (Nat.le_of_ble_eq_true rfl) fun w0 F0 hG => ?_
 refine Qa ?_
 refine rk Qb [(2, .e 0)] [] [] [] [] (o0) ?_
 refine Qa ?_
 refine rk Qb [(3, .one (.slc (.own true 384) 1 []))] [] [] [] [] (o0) ?_
 refine Qa ?_
 refine Qa ?_
 refine rk Qb [(7, .h d), (8, .i (d.length : Int)), (9, .i 0)] [0] [] [] [(1, .val (.i (d.length : Int)))] (o1 (Qi (Xs d))) ?_
 refine wdT 7 0 .sh d (fun hw1 => ?_)
 have hl2 : List.length d ≤ 1073741824 := Qx (hw1)
 refine blk (fun (k0 : Nat) (s0 : (List ByteArray)) => [(3, .o 147201 s0), (9, .i ((k0 : Nat) : Int))]) [3, 9] (fun k0 s0 => []) [] (fun (y0 : (List ByteArray)) => [(3, .o 147351 y0)]) [3, 7, 8, 9] (fun y0 => []) [] (fun (k0 : Nat) (s0 : (List ByteArray)) => (Xv Qa0 Qa1 d 0 []) = Xv Qa0 Qa1 (List.drop k0 d) k0 s0 ∧ List.length s0 ≤ k0) (fun (y0 : (List ByteArray)) => (Xv Qa0 Qa1 d 0 []) = .brk y0) d.length [] (Yt [(384, 147201)] (by kernel_rfl)) ⟨rfl, (by simp)⟩ (fun k0 s0 hk0 hI0 => ?_) (fun k0 s0 hk0 hI0 => ?_) (fun y0 hD0 => ?_)
 ·
  have hA0_0 := hI0.2
  obtain ⟨a0, hx0⟩ := Yl (l := d) (i := k0) hk0
  refine Qa ?_
  refine rk Qb [(10, .b true)] [] [] [] [(0, .val (.b true))] (o1 (Qi (Qh (decide_eq_true (p := ((k0 : Nat) : Int) < (d.length : Int)) (by omega))))) ?_
  refine Qa ?_
  refine ckT ?_
  refine Qr ?_
  refine Qa ?_
  refine Xf ?_
  refine Qa ?_
  refine rk Qb [(5, .p 5 0)] [10] [(5, [.s a0.1, .h a0.2])] [] [(0, .row [.s a0.1, .h a0.2])] (o1 (Qy (X4 (i := ((k0 : Nat) : Int)) (by omega) rfl hx0))) ?_
  refine wdT 3 0 (.own true 147201) s0 (fun hw3 => ?_)
  have hl4 : List.length s0 ≤ 1073741824 := Qx (hw3)
  refine rk Qb [(3, .one (.slc (.own true 1088) 1 ((eL s0) ++ [[.s a0.1]])))] [3, 5] [] [5] [] (o1 (V9 (Wi (Xm s0) (Xm [a0.1]) (by first | omega | (simp only [List.length_cons, List.length_nil]; omega) | (simp; omega) | simp)))) ?_
  refine eqn [(3, .o 1088 (s0 ++ [a0.1]))] [3] [] [] (by rw [show ((eL s0) ++ [[.s a0.1]]) = (eL (s0 ++ [a0.1])) from Hj (rfl) (rfl)]; first | done | kernel_rfl) ?_
  refine rk Qb [(9, .i ((k0 + 1 : Nat) : Int))] [9] [] [] [(0, .val (.i ((k0 + 1 : Nat) : Int)))] (o1 (Qi (Km (Q8 k0 (by omega))))) ?_
  exact Exists.intro (s0 ++ [a0.1]) (And.intro (Yt [(1088, 147201)] (by kernel_rfl)) ⟨Xe hx0 (rfl) hI0.1, by first | omega | (simp; omega) | simp⟩)
 ·
  have hA0_0 := hI0.2
  refine Qa ?_
  refine rk Qb [(10, .b false)] [] [] [] [(0, .val (.b false))] (o1 (Qi (Qh (decide_eq_false (p := ((k0 : Nat) : Int) < (d.length : Int)) (by omega))))) ?_
  refine Qa ?_
  refine ckF ?_
  refine Xt ?_
  exact Exists.intro s0 (And.intro (Yt [(147201, 147351)] (by kernel_rfl)) (Ym hk0 (rfl) hI0.1))
 ·
  refine Qa ?_
  refine rk Qb [(2, .o 147351 y0)] [2, 3] [] [] [] (o0) ?_
  refine Qq ?_
  exact Ze [] (congrArg (fun z => (.o 0 z : AV)) (show Q3 d = y0 from Hk hD0 (rfl)).symm)
def Kj (v : ByteArray) (k0 : Nat) (a0 : ByteArray) (_ : Unit) : Rd (Int) (Unit) (Unit) := (bif (v.toList == a0.toList) then (.ret ((k0 : Nat) : Int)) else (.next ()))
def Vd (_ : Nat) (_ : Unit) : Unit := ()
def Kv (s_ : (List ByteArray)) (v : ByteArray) : Int := (Out.on (Xv (Kj v) Vd s_ 0 ()) (fun _ => -1))
theorem slicesIndex_string_a (s_ : (List ByteArray)) (v : ByteArray) : ACalls Tryz.prog 190 [.h s_, .s v] (.i (Kv s_ v)) := by
 refine Qt (tt := tt) Qb Tryz.func190 (fn := Tryz.f190) rfl (by unfold Jr; kernel_rfl) (Nat.le_of_ble_eq_true rfl) fun w0 F0 hG => ?_
 refine Qa ?_
 refine rk Qb [(4, .i 0)] [] [] [] [] (o0) ?_
 refine Qa ?_
 refine Qa ?_
 refine rk Qb [(7, .i (s_.length : Int)), (8, .i 0)] [] [] [] [(1, .val (.i (s_.length : Int)))] (o1 (Qi (Xs s_))) ?_
 refine wdT 0 0 .sh s_ (fun hw1 => ?_)
 have hl2 : List.length s_ ≤ 1073741824 := Qx (hw1)
 refine blk (fun (k0 : Nat) (s0 : Unit) => [(8, .i ((k0 : Nat) : Int))]) [8] (fun k0 s0 => []) [] (fun (y0 : Unit) => []) [0, 1, 7, 8] (fun y0 => []) [] (fun (k0 : Nat) (s0 : Unit) => (Xv (Kj v) Vd s_ 0 ()) = Xv (Kj v) Vd (List.drop k0 s_) k0 s0) (fun (y0 : Unit) => (Xv (Kj v) Vd s_ 0 ()) = .brk y0) s_.length () (Qd (by kernel_rfl)) rfl (fun k0 s0 hk0 hI0 => ?_) (fun k0 s0 hk0 hI0 => ?_) (fun y0 hD0 => ?_)
 ·
  obtain ⟨a0, hx0⟩ := Yl (l := s_) (i := k0) hk0
  refine Qa ?_
  refine rk Qb [(9, .b true)] [] [] [] [(0, .val (.b true))] (o1 (Qi (Qh (decide_eq_true (p := ((k0 : Nat) : Int) < (s_.length : Int)) (by omega))))) ?_
  refine Qa ?_
  refine ckT ?_
  refine Qr ?_
  refine Qa ?_
  refine Xf ?_
  refine Qa ?_
  refine rk Qb [(5, .i ((k0 : Nat) : Int))] [9] [] [] [] (o0) ?_
  refine Qa ?_
  refine rk Qb [(16, .b (v.toList == a0.toList))] [] [] [] [(3, .row [.s a0])] (o1 (Qy (X4 (i := ((k0 : Nat) : Int)) (by omega) rfl hx0))) ?_
  refine ck (v.toList == a0.toList) (fun h3 => ?_) (fun h3 => ?_)
  ·
   refine Qa ?_
   refine rk Qb [(4, .i ((k0 : Nat) : Int))] [4, 5, 16] [] [] [] (o0) ?_
   refine Qq ?_
   have hr4 : (Xv (Kj v) Vd s_ 0 ()) = .ret ((k0 : Nat) : Int) := Jy hx0 (X8 h3 (rfl)) hI0
   exact Ze [] (congrArg (fun z => (.i z : AV)) (show Kv s_ v = ((k0 : Nat) : Int) from on_r hr4).symm)
  ·
   refine Qr ?_
   refine rk Qb [(8, .i ((k0 + 1 : Nat) : Int))] [5, 8, 16] [] [] [(0, .val (.i ((k0 + 1 : Nat) : Int)))] (o1 (Qi (Km (Q8 k0 (by omega))))) ?_
   exact Exists.intro () (And.intro (Qd (by kernel_rfl)) (Xe hx0 (Q6 h3 (rfl)) hI0))
 ·
  refine Qa ?_
  refine rk Qb [(9, .b false)] [] [] [] [(0, .val (.b false))] (o1 (Qi (Qh (decide_eq_false (p := ((k0 : Nat) : Int) < (s_.length : Int)) (by omega))))) ?_
  refine Qa ?_
  refine ckF ?_
  refine Xt ?_
  exact Exists.intro () (And.intro (Qd (by kernel_rfl)) (Ym hk0 (rfl) hI0))
 ·
  refine Qa ?_
  refine rk Qb [(4, .i (-1))] [4] [] [] [] (o0) ?_
  refine Qq ?_
  exact Ze [] (congrArg (fun z => (.i z : AV)) (show Kv s_ v = -1 from Hk hD0 (rfl)).symm)
def Q0 (s_ : (List ByteArray)) (v : ByteArray) : Bool := decide ((Kv s_ v) ≥ (0 : Int))
theorem Vp (s_ : (List ByteArray)) (v : ByteArray) : ACalls Tryz.prog 143 [.h s_, .s v] (.b (Q0 s_ v)) := by
 refine Qt (tt := tt) Qb Tryz.func143 (fn := Tryz.f143) rfl (by unfold Jr; kernel_rfl) (Nat.le_of_ble_eq_true rfl) fun w0 F0 hG => ?_
 refine Qa ?_
 refine rk Qb [(4, .b false)] [] [] [] [] (o0) ?_
 refine Qa ?_
 refine rk Qb [(4, .b (decide ((Kv s_ v) ≥ (0 : Int))))] [0, 1, 4] [] [] [(2, .val (.i (Kv s_ v)))] (o1 (Qg (slicesIndex_string_a s_ v))) ?_
 refine Qq ?_
 exact Ze [] (congrArg (fun z => (.b z : AV)) (show Q0 s_ v = decide ((Kv s_ v) ≥ (0 : Int)) from rfl).symm)
def Uv (x : (List Int)) (k0 : Nat) (s0 : Int) : Rd (Int) (Int) (Int) := (.next (max s0 (nth x (k0 + 1))))
def Qac (_ : Nat) (s0 : Int) : Int := s0
def Hz (x : (List Int)) : Int := (Out.on (Hu (Uv x) Qac (x.length - 1) 0 (nth x 0)) (fun y0 => y0))
theorem slicesMax_int_a (x : (List Int)) (hp : 0 < x.length) : ACalls Tryz.prog 223 [.h x] (.i (Hz x)) := by
 refine Qt (tt := tt) Qb Tryz.func223 (fn := Tryz.f223) rfl (by unfold Jr; kernel_rfl) (Nat.le_of_ble_eq_true rfl) fun w0 F0 hG => ?_
 refine Qa ?_
 refine rk Qb [(2, .i 0)] [] [] [] [] (o0) ?_
 refine Qa ?_
 refine Qa ?_
 refine rk Qb [(7, .b false)] [] [] [] [(1, .val (.i (x.length : Int))), (2, .val (.b false))] (o2 (Qi (Xs x)) (o1 (Qi (show .b (decide ((x.length : Int) < (1 : Int))) = .b false from Qh (decide_eq_false (by omega)))))) ?_
 refine ckF ?_
 refine Qr ?_
 refine Qa ?_
 refine wdT 0 0 .sh x (fun hw2 => ?_)
 have hl3 : List.length x ≤ 1073741824 := Qx (hw2)
 have hx1 : x[0]? = some (nth x 0) := Yj (by omega)
 refine rk Qb [(3, .i (nth x 0))] [7] [] [] [(1, .row [.i (nth x 0)])] (o1 (Qy (X4 (i := 0) (by omega) rfl hx1))) ?_
 refine Qa ?_
 refine Qa ?_
 refine rk Qb [(4, .i 1)] [] [] [] [] (o0) ?_
 refine blk (fun (k0 : Nat) (s0 : Int) => [(3, .i s0), (4, .i ((k0 + 1 : Nat) : Int))]) [3, 4] (fun k0 s0 => []) [] (fun (y0 : Int) => [(3, .i y0)]) [0, 3, 4] (fun y0 => []) [] (fun (k0 : Nat) (s0 : Int) => (Hu (Uv x) Qac (x.length - 1) 0 (nth x 0)) = Hu (Uv x) Qac ((x.length - 1) - k0) k0 s0) (fun (y0 : Int) => (Hu (Uv x) Qac (x.length - 1) 0 (nth x 0)) = .brk y0) (x.length - 1) (nth x 0) (Qd (by kernel_rfl)) rfl (fun k0 s0 hk0 hI0 => ?_) (fun k0 s0 hk0 hI0 => ?_) (fun y0 hD0 => ?_)
 ·
  refine Qa ?_
  refine Qa ?_
  refine rk Qb [(15, .b true)] [] [] [] [(2, .val (.i (x.length : Int))), (3, .val (.b true))] (o2 (Qi (Xs x)) (o1 (Qi (Qh (decide_eq_true (p := ((k0 + 1 : Nat) : Int) < (x.length : Int)) (by omega)))))) ?_
  refine ckT ?_
  refine Qr ?_
  refine Qa ?_
  refine Xf ?_
  have hx4 : x[(k0 + 1)]? = some (nth x (k0 + 1)) := Yj (by omega)
  refine rk Qb [(3, .i (max s0 (nth x (k0 + 1))))] [3, 15] [] [] [(3, .row [.i (nth x (k0 + 1))])] (o1 (Qy (X4 (i := ((k0 + 1 : Nat) : Int)) (by omega) rfl hx4))) ?_
  refine rk Qb [(4, .i ((k0 + 2 : Nat) : Int))] [4] [] [] [(1, .val (.i ((k0 + 2 : Nat) : Int)))] (o1 (Qi (show .i (IntKind.i64.wrap (((k0 + 1 : Nat) : Int) + 1)) = .i ((k0 + 2 : Nat) : Int) from Km ((IntWalk.i64_in _ (by omega)).trans (by omega))))) ?_
  exact Exists.intro (max s0 (nth x (k0 + 1))) (And.intro (Qd (by kernel_rfl)) (Vh hk0 (rfl) hI0))
 ·
  refine Qa ?_
  refine Qa ?_
  refine rk Qb [(15, .b false)] [] [] [] [(2, .val (.i (x.length : Int))), (3, .val (.b false))] (o2 (Qi (Xs x)) (o1 (Qi (Qh (decide_eq_false (p := ((k0 + 1 : Nat) : Int) < (x.length : Int)) (by omega)))))) ?_
  refine ckF ?_
  refine Xt ?_
  exact Exists.intro s0 (And.intro (Qd (by kernel_rfl)) (Qbu hk0 (rfl) hI0))
 ·
  refine Qa ?_
  refine rk Qb [(2, .i y0)] [2, 3] [] [] [] (o0) ?_
  refine Qq ?_
  exact Ze [] (congrArg (fun z => (.i z : AV)) (show Hz x = y0 from Hk hD0 (rfl)).symm)
def Jq (d : (List Zt)) : Int := (bif ((!(((Qz d)).2)) || (((((Qz d)).1).length : Int) == (0 : Int))) then -1 else (Hz (((Qz d)).1)))
theorem Qfy (d : (List Zt)) : ACalls Tryz.prog 176 [.h d] (.i (Jq d)) := by
 refine Qt (tt := tt) Qb Tryz.func176 (fn := Tryz.f176) rfl (by unfold Jr; kernel_rfl) (Nat.le_of_ble_eq_true rfl) fun w0 F0 hG => ?_
 refine Qa ?_
 refine rk Qb [(2, .i 0)] [] [] [] [] (o0) ?_
 refine Qa ?_
 refine rk Qb [(3, .o 448 (((Qz d)).1)), (4, .b (((Qz d)).2))] [0] [] [] [(1, .val (.tup [(false, [.o 0 (((Qz d)).1)]), (false, [.b (((Qz d)).2)])]))] (o1 (Qg (implStrata_a d))) ?_
 refine Qa ?_
 refine Qa ?_
 refine jn [(16, .b ((!(((Qz d)).2)) || (((((Qz d)).1).length : Int) == (0 : Int))))] [4] [] [] (!(((Qz d)).2)) (fun h1 => ?_) (fun h1 => ?_) ?_
 ·
  have h1n : (((Qz d)).2) = false := Ug h1
  refine rk Qb [(16, .b true)] [4] [] [] [(0, .val (.b false)), (1, .val (.b true))] (o2 (Qi (Qh h1n)) (o1 (Qi (show .b (!false) = .b true from rfl)))) ?_
  exact ⟨rfl, Qd (by rw [h1]; first | done | kernel_rfl)⟩
 ·
  have h1n : (((Qz d)).2) = true := Jn h1
  refine rk Qb [(16, .b (((((Qz d)).1).length : Int) == (0 : Int)))] [4] [] [] [(0, .val (.b true)), (1, .val (.b false)), (4, .val (.i ((((Qz d)).1).length : Int)))] (o2 (Qi (Qh h1n)) (o2 (Qi (show .b (!true) = .b false from rfl)) (o1 (Qi (Xs (((Qz d)).1)))))) ?_
  exact ⟨rfl, Qd (by rw [h1]; first | done | kernel_rfl)⟩
 refine ck ((!(((Qz d)).2)) || (((((Qz d)).1).length : Int) == (0 : Int))) (fun h2 => ?_) (fun h2 => ?_)
 ·
  refine Qa ?_
  refine rk Qb [(2, .i (-1))] [2, 16] [] [] [] (o0) ?_
  refine Qq ?_
  exact Ze [] (congrArg (fun z => (.i z : AV)) (show Jq d = -1 from X8 h2 (rfl)).symm)
 ·
  have h2l : ((!(((Qz d)).2))) = false := or_l h2
  have h2ln : (((Qz d)).2) = true := Jn h2l
  have h2r : ((((((Qz d)).1).length : Int) == (0 : Int))) = false := or_r h2
  have h2rd := Zz h2r
  refine Qr ?_
  refine Qa ?_
  refine rk Qb [(2, .i (Hz (((Qz d)).1)))] [2, 3, 16] [] [] [(1, .val (.i (Hz (((Qz d)).1))))] (o1 (Qg (slicesMax_int_a (((Qz d)).1) (by first | omega | (simp_all; omega))))) ?_
  refine Qq ?_
  exact Ze [] (congrArg (fun z => (.i z : AV)) (show Jq d = (Hz (((Qz d)).1)) from Q6 h2 (rfl)).symm)
def Vq (s2_ : (List Int)) (k0 : Nat) (a0 : Int) (_ : Unit) : Rd (Bool) (Unit) (Unit) := (bif (a0 != (nth s2_ k0)) then (.ret false) else (.next ()))
def Wn (_ : Nat) (_ : Unit) : Unit := ()
def Zn (s1_ : (List Int)) (s2_ : (List Int)) : Bool := (bif ((s1_.length : Int) != (s2_.length : Int)) then false else (Out.on (Xv (Vq s2_) Wn s1_ 0 ()) (fun _ => true)))
theorem Qe9 (s1_ : (List Int)) (s2_ : (List Int)) : ACalls Tryz.prog 125 [.h s1_, .h s2_] (.b (Zn s1_ s2_)) := by
 refine Qt (tt := tt) Qb Tryz.func125 (fn := Tryz.f125) rfl (by unfold Jr; kernel_rfl) (Nat.le_of_ble_eq_true rfl) fun w0 F0 hG => ?_
 refine Qa ?_
 refine rk Qb [(4, .b false)] [] [] [] [] (o0) ?_
 refine Qa ?_
 refine Qa ?_
 refine rk Qb [(10, .b ((s1_.length : Int) != (s2_.length : Int)))] [] [] [] [(1, .val (.i (s1_.length : Int))), (3, .val (.i (s2_.length : Int)))] (o2 (Qi (Xs s1_)) (o1 (Qi (Xs s2_)))) ?_
 refine ck ((s1_.length : Int) != (s2_.length : Int)) (fun h1 => ?_) (fun h1 => ?_)
 ·
  refine Qa ?_
  refine rk Qb [] [10] [] [] [] (o0) ?_
  refine Qq ?_
  exact Ze [] (congrArg (fun z => (.b z : AV)) (show Zn s1_ s2_ = false from X8 h1 (rfl)).symm)
 ·
  have h1d := H6 h1
  refine Qr ?_
  refine Qa ?_
  refine Qa ?_
  refine rk Qb [(12, .i (s1_.length : Int)), (13, .i 0)] [10] [] [] [(1, .val (.i (s1_.length : Int)))] (o1 (Qi (Xs s1_))) ?_
  refine wdT 0 0 .sh s1_ (fun hw2 => ?_)
  have hl3 : List.length s1_ ≤ 1073741824 := Qx (hw2)
  refine blk (fun (k0 : Nat) (s0 : Unit) => [(13, .i ((k0 : Nat) : Int))]) [13] (fun k0 s0 => []) [] (fun (y0 : Unit) => []) [0, 1, 12, 13] (fun y0 => []) [] (fun (k0 : Nat) (s0 : Unit) => (Xv (Vq s2_) Wn s1_ 0 ()) = Xv (Vq s2_) Wn (List.drop k0 s1_) k0 s0) (fun (y0 : Unit) => (Xv (Vq s2_) Wn s1_ 0 ()) = .brk y0) s1_.length () (Qd (by kernel_rfl)) rfl (fun k0 s0 hk0 hI0 => ?_) (fun k0 s0 hk0 hI0 => ?_) (fun y0 hD0 => ?_)
  ·
   obtain ⟨a0, hx0⟩ := Yl (l := s1_) (i := k0) hk0
   refine Qa ?_
   refine rk Qb [(14, .b true)] [] [] [] [(0, .val (.b true))] (o1 (Qi (Qh (decide_eq_true (p := ((k0 : Nat) : Int) < (s1_.length : Int)) (by omega))))) ?_
   refine Qa ?_
   refine ckT ?_
   refine Qr ?_
   refine Qa ?_
   refine Xf ?_
   refine Qa ?_
   refine rk Qb [(5, .i ((k0 : Nat) : Int))] [14] [] [] [] (o0) ?_
   refine Qa ?_
   refine wdT 1 0 .sh s2_ (fun hw5 => ?_)
   have hl6 : List.length s2_ ≤ 1073741824 := Qx (hw5)
   have hx4 : s2_[k0]? = some (nth s2_ k0) := Yj (by omega)
   refine rd' Qb Js [(24, .b (a0 != (nth s2_ k0)))] [5] [] [] [(2, .row [.i a0]), (6, .row [.i (nth s2_ k0)])] (o2 (Qy (X4 (i := ((k0 : Nat) : Int)) (by omega) rfl hx0)) (o1 (Qy (X4 (i := ((k0 : Nat) : Int)) (by omega) rfl hx4)))) ?_
   refine ck (a0 != (nth s2_ k0)) (fun h7 => ?_) (fun h7 => ?_)
   ·
    refine Qa ?_
    refine rk Qb [] [24] [] [] [] (o0) ?_
    refine Qq ?_
    have hr8 : (Xv (Vq s2_) Wn s1_ 0 ()) = .ret false := Jy hx0 (X8 h7 (rfl)) hI0
    exact Ze [] (congrArg (fun z => (.b z : AV)) (show Zn s1_ s2_ = false from Q6 h1 (on_r hr8)).symm)
   ·
    have h7d := H6 h7
    refine Qr ?_
    refine rk Qb [(13, .i ((k0 + 1 : Nat) : Int))] [13, 24] [] [] [(0, .val (.i ((k0 + 1 : Nat) : Int)))] (o1 (Qi (Km (Q8 k0 (by omega))))) ?_
    exact Exists.intro () (And.intro (Qd (by kernel_rfl)) (Xe hx0 (Q6 h7 (rfl)) hI0))
  ·
   refine Qa ?_
   refine rk Qb [(14, .b false)] [] [] [] [(0, .val (.b false))] (o1 (Qi (Qh (decide_eq_false (p := ((k0 : Nat) : Int) < (s1_.length : Int)) (by omega))))) ?_
   refine Qa ?_
   refine ckF ?_
   refine Xt ?_
   exact Exists.intro () (And.intro (Qd (by kernel_rfl)) (Ym hk0 (rfl) hI0))
  ·
   refine Qa ?_
   refine rk Qb [(4, .b true)] [4] [] [] [] (o0) ?_
   refine Qq ?_
   exact Ze [] (congrArg (fun z => (.b z : AV)) (show Zn s1_ s2_ = true from Q6 h1 (Hk hD0 (rfl))).symm)
def K6 (r : (List Qs)) (names : (List ByteArray)) (_ : Nat) (a0 : Zt) (s0 : (List Qs)) : Rd ((List Qs) × Int × Bool) ((List Qs)) ((List Qs)) := (bif (!(Q0 names a0.1)) then (.next (s0 ++ [(a0.1, (Q5 r a0.1))])) else (.next (s0 ++ [((a0.1, []) : Qs)])))
def V2 (_ : Nat) (s0 : (List Qs)) : (List Qs) := s0
def Wu (s_ : Zp) (d : (List Zt)) (names : (List ByteArray)) (k1 : Nat) (k3 : Nat) (a3 : Zt) (s3 : (List Qs) × Bool) : Rd (Rd (Rd ((List Qs) × Int × Bool) ((List Qs) × Int) ((List Qs) × Int)) ((List Qs) × Int × Bool) ((List Qs) × Int)) ((List Qs) × Bool) ((List Qs) × Bool) := (bif (((nth (((Qz d)).1) k3) != ((k1 : Nat) : Int)) || (!(Q0 names a3.1))) then (.next (s3.1, s3.2)) else (bif (!(Zn (Yv s_ a3.2 s3.1) ((nth s3.1 k3).2))) then (.next (List.set s3.1 k3 ((nth s3.1 k3).1, (Yv s_ a3.2 s3.1)), true)) else (.next (s3.1, s3.2))))
def Qad (_ : Nat) (s3 : (List Qs) × Bool) : (List Qs) × Bool := (s3.1, s3.2)
def Wv (s_ : Zp) (d : (List Zt)) (names : (List ByteArray)) (k1 : Nat) (s2 : (List Qs) × Int × Bool) : Rd (Rd ((List Qs) × Int × Bool) ((List Qs) × Int) ((List Qs) × Int)) ((List Qs) × Int × Bool) ((List Qs) × Int) := (bif s2.2.2 then (Out.on (Xv (Wu s_ d names k1) Qad d 0 (s2.1, false)) (fun y3 => (.next (y3.1, IntKind.i64.wrap (s2.2.1 + 1), y3.2)))) else (.brk (s2.1, s2.2.1)))
def Uw (s_ : Zp) (d : (List Zt)) (names : (List ByteArray)) (k1 : Nat) (s1 : (List Qs) × Int) : Rd ((List Qs) × Int × Bool) ((List Qs) × Int) ((List Qs) × Int) := (Out.on (whlD (Wv s_ d names k1) (List.length d * List.length s_.2.1 + 2) (s1.1, s1.2, true)) (fun y2 => (.next (y2.1, y2.2))))
def Qae (_ : Nat) (s1 : (List Qs) × Int) : (List Qs) × Int := (s1.1, s1.2)
def Yb (s_ : Zp) (d : (List Zt)) (r : (List Qs)) (names : (List ByteArray)) : (List Qs) × Int × Bool := (bif ((!(((Qz d)).2)) || (!(Xb s_))) then ([], 0, false) else (Out.on (Xv (K6 r names) V2 d 0 []) (fun y0 => (Out.on (Hu (Uw s_ d names) Qae (Int.toNat ((Jq d) + 1)) 0 (y0, 0)) (fun y1 => (y1.1, y1.2, true))))))
theorem max_go {B : Int} {x : List Int} (hx : ∀ a, a ∈ x → a ≤ B) (hB : 0 ≤ B) : ∀ (n k : Nat) (s : Int), s ≤ B → ∃ t, Hu (Uv x) Qac n k s = .brk t ∧ t ≤ B
  | 0, k, s, h => ⟨s, rfl, h⟩
  | n + 1, k, s, h => by
    obtain ⟨t, h1, h2⟩ := max_go hx hB n (k + 1) (max s (nth x (k + 1))) (by
      by_cases hk : k + 1 < x.length
      · have := hx _ (nth_mem hk); omega
      · rw [nth_out (by omega)]; omega)
    exact ⟨t, by simp only [Hu, Uv]; exact h1, h2⟩
theorem strata_factsI {d : List Zt} (h : ((Qz d)).2 = true) : List.length ((Qz d)).1 = List.length d ∧ List.length d ≤ 5 ∧ Jq d ≤ 5 := by
 obtain ⟨h1, h2, h3⟩ := Qer h
 refine ⟨h1, h2, ?_⟩
 unfold Jq
 rw [h]
 simp only [Bool.not_true, Bool.false_or]
 cases hl : (((((Qz d)).1).length : Int) == (0 : Int)) with
 | true => simp only [cond_true]; omega
 | false =>
  simp only [cond_false]
  have hp : 0 < (((Qz d)).1).length := by have := Zz hl; omega
  unfold Hz
  obtain ⟨t, e, ht⟩ := max_go (B := 5) (x := ((Qz d)).1) (fun a ha => (h3 a ha).2) (by omega) ((((Qz d)).1).length - 1) 0 (nth ((Qz d)).1 0) (h3 _ (nth_mem hp)).2
  rw [e]; exact ht
theorem eqI_go (b : List Int) : ∀ (l : List Int) (k : Nat), l.length = (b.drop k).length → Out.on (Xv (Vq b) Wn l k ()) (fun _ => true) = decide (l = b.drop k)
  | [], k, h => by
    have : b.drop k = [] := List.eq_nil_of_length_eq_zero (by rw [← h]; rfl)
    rw [this]; rfl
  | a :: l, k, h => by
    have hk : k < b.length := by simp only [List.length_cons, List.length_drop] at h; omega
    have hd : b.drop k = nth b k :: b.drop (k + 1) := by
      rw [List.drop_eq_getElem_cons hk, show nth b k = b[k] by simp [nth, List.getD, hk]]
    rw [hd] at h ⊢
    simp only [Xv, Vq]
    by_cases e : a = nth b k
    · rw [show (a != nth b k) = false by simp [e], cond_false, eqI_go b l (k + 1) (by simpa using h)]
      simp [e]
    · rw [show (a != nth b k) = true by simp [e], cond_true]
      simp [e, Out.on]
theorem eqI_eq (a b : List Int) (h : a.length = b.length) : Zn a b = decide (a = b) := by
 unfold Zn
 rw [show ((a.length : Int) != (b.length : Int)) = false by simp [h], cond_false, eqI_go b a 0 (by simpa using h), List.drop_zero]
theorem eqI_dec (a b : List Int) : Zn a b = decide (a = b) := by
  by_cases h : a.length = b.length
  · exact eqI_eq a b h
  · have hb : ((a.length : Int) != (b.length : Int)) = true := by simpa using fun e : (a.length : Int) = (b.length : Int) => h (by omega)
    unfold Zn
    rw [hb, decide_eq_false (fun e => h (congrArg List.length e))]
    rfl
def onD (d : List Zt) (names : List ByteArray) (j : Nat) : Bool := Q0 names (nth d j).1
theorem evaluated_step (s_ : Zp) (d : List Zt) (names : List ByteArray) (k1 : Nat) : StepE s_ d (Qz d).1 (onD d names) (k1 : Int) (Wu s_ d names k1) := by
 intro k a o c hk
 have ha : nth d k = a := nth_of hk
 unfold Wu actD onD
 rw [ha, eqI_dec]
 simp only [bne]
 cases (nth (Qz d).1 k == (k1 : Int)) <;> cases Q0 names a.1 <;> rfl
section
variable {s_ : Zp} {d : List Zt} {names : List ByteArray} {k1 : Nat} {o : List Qs} {p : Int}
theorem Qfs (hS : ((Qz d)).2 = true) (h : EvS d ((Qz d)).1 (onD d names) s_.2.1 (k1 : Int) o) : ∃ o' p', whl (Wv s_ d names k1) (List.length d * List.length s_.2.1 + 2) (o, p, true) = some (.brk (o', p')) ∧ EvS d ((Qz d)).1 (onD d names) s_.2.1 ((k1 : Int) + 1) o' :=
 ev_run (f := Wu s_ d names k1) (e := Qad) (evaluated_step s_ d names k1) (fun _ _ => rfl) (fun _ => rfl) (Prod.ext rfl hS) h p
theorem evaluated_w (hS : ((Qz d)).2 = true) (h : EvS d ((Qz d)).1 (onD d names) s_.2.1 (((k1 : Nat)) : Int) o) : (whl (Wv s_ d names k1) (List.length d * List.length s_.2.1 + 2) (o, p, true)).isSome = true := by
 obtain ⟨o', p', h1, _⟩ := Qfs (p := p) hS h
 rw [h1]; rfl
theorem Qdd {y : List Qs × Int} (hS : ((Qz d)).2 = true) (h : EvS d ((Qz d)).1 (onD d names) s_.2.1 (((k1 : Nat)) : Int) o) (hy : whlD (Wv s_ d names k1) (List.length d * List.length s_.2.1 + 2) (o, p, true) = .brk y) : EvS d ((Qz d)).1 (onD d names) s_.2.1 ((((k1 + 1) : Nat)) : Int) y.1 := by
 obtain ⟨o', p', h1, h2⟩ := Qfs (p := p) hS h
 unfold whlD at hy
 rw [h1] at hy
 have e : (o', p') = y := by simpa using hy
 rw [← e, Int.natCast_add]; exact h2
def startG (r : List Qs) (names : List ByteArray) (a : Zt) : List Int := bif (!(Q0 names a.1)) then (Q5 r a.1) else []
theorem Wc {r : List Qs} (hy : Xv (K6 r names) V2 d 0 [] = .brk o) : EvS d ((Qz d)).1 (onD d names) s_.2.1 (((0 : Nat)) : Int) o := by
 obtain ⟨h1, h2⟩ := ev_start (L := ((Qz d)).1) (on := onD d names) (fs := s_.2.1) (g := startG r names) (f := K6 r names) (e := V2) (d := d) (fun k a s => by
  unfold K6 startG
  cases Q0 names a.1 <;> rfl) (fun j _ hj => by unfold onD at hj; unfold startG; rw [hj]; rfl)
 rw [h1] at hy
 have e : (d.map fun a => ((a.1, startG r names a) : Qs)) = o := Out.brk.inj hy
 rw [← e]; exact h2
end
theorem implevaluated_a (s_ : Zp) (d : (List Zt)) (r : (List Qs)) (names : (List ByteArray)) : ACalls Tryz.prog 121 [.a [.h s_.1, .h s_.2.1, .i s_.2.2], .h d, .h r, .h names] (.tup [(false, [.o 0 (((Yb s_ d r names)).1)]), (false, [.i (((Yb s_ d r names)).2.1)]), (false, [.b (((Yb s_ d r names)).2.2)])]) := by
 refine Qt (tt := tt) Qb Tryz.func121 (fn := Tryz.f121) rfl (by unfold Jr; kernel_rfl) (Nat.le_of_ble_eq_true rfl) fun w0 F0 hG => ?_
 refine Qa ?_
 refine rk Qb [(4, .p 4 0), (8, .e 0), (9, .i 0), (10, .b false)] [0] [(4, [.h s_.1, .h s_.2.1, .i s_.2.2])] [] [] (o0) ?_
 refine Qa ?_
 refine rk Qb [(11, .o 1600 (((Qz d)).1)), (12, .b (((Qz d)).2))] [] [] [] [(1, .val (.tup [(false, [.o 0 (((Qz d)).1)]), (false, [.b (((Qz d)).2)])]))] (o1 (Qg (implStrata_a d))) ?_
 refine Qa ?_
 refine Qa ?_
 refine jn [(34, .b ((!(((Qz d)).2)) || (!(Xb s_))))] [12] [] [] (!(((Qz d)).2)) (fun h1 => ?_) (fun h1 => ?_) ?_
 ·
  have h1n : (((Qz d)).2) = false := Ug h1
  refine rk Qb [(34, .b true)] [12] [] [] [(0, .val (.b false)), (1, .val (.b true))] (o2 (Qi (Qh h1n)) (o1 (Qi (show .b (!false) = .b true from rfl)))) ?_
  exact ⟨rfl, Qd (by rw [h1]; first | done | kernel_rfl)⟩
 ·
  have h1n : (((Qz d)).2) = true := Jn h1
  have h1nsf := strata_factsI h1n
  refine rk Qb [(34, .b (!(Xb s_)))] [12] [] [] [(0, .val (.b true)), (1, .val (.b false)), (4, .val (.b (Xb s_)))] (o2 (Qi (Qh h1n)) (o2 (Qi (show .b (!true) = .b false from rfl)) (o1 (Qg (Kd s_))))) ?_
  exact ⟨rfl, Qd (by rw [h1]; first | done | kernel_rfl)⟩
 refine ck ((!(((Qz d)).2)) || (!(Xb s_))) (fun h2 => ?_) (fun h2 => ?_)
 ·
  refine Qa ?_
  refine rk Qb [] [34] [] [] [] (o0) ?_
  refine opn [(false, 8, 0, true, 384000, 2)] ?_
  refine Qq ?_
  exact Ze [] (congrArg (fun z => (.tup [(false, [.o 0 z.1]), (false, [.i z.2.1]), (false, [.b z.2.2])] : AV)) (show Yb s_ d r names = ([], 0, false) from X8 h2 (rfl)).symm)
 ·
  have h2l : ((!(((Qz d)).2))) = false := or_l h2
  have h2ln : (((Qz d)).2) = true := Jn h2l
  have h2lnsf := strata_factsI h2ln
  have h2r : ((!(Xb s_))) = false := or_r h2
  have h2rn : (Xb s_) = true := Jn h2r
  refine Qr ?_
  refine Qa ?_
  refine rk Qb [(13, .one (.slc (.own true 2240) 2 []))] [34] [] [] [] (o0) ?_
  refine Qa ?_
  refine Qa ?_
  refine rk Qb [(36, .h d), (37, .i (d.length : Int)), (38, .i 0)] [] [] [] [(1, .val (.i (d.length : Int)))] (o1 (Qi (Xs d))) ?_
  refine wdT 1 0 .sh d (fun hw3 => ?_)
  have hl4 : List.length d ≤ 1073741824 := Qx (hw3)
  refine blk (fun (k0 : Nat) (s0 : (List Qs)) => [(13, .o 147208 s0), (38, .i ((k0 : Nat) : Int))]) [13, 38] (fun k0 s0 => []) [] (fun (y0 : (List Qs)) => [(13, .o 147358 y0)]) [2, 13, 36, 37, 38] (fun y0 => []) [] (fun (k0 : Nat) (s0 : (List Qs)) => (Xv (K6 r names) V2 d 0 []) = Xv (K6 r names) V2 (List.drop k0 d) k0 s0 ∧ List.length s0 ≤ k0) (fun (y0 : (List Qs)) => (Xv (K6 r names) V2 d 0 []) = .brk y0) d.length [] (Yt [(2240, 147208)] (by kernel_rfl)) ⟨rfl, (by simp)⟩ (fun k0 s0 hk0 hI0 => ?_) (fun k0 s0 hk0 hI0 => ?_) (fun y0 hD0 => ?_)
  ·
   have hA0_0 := hI0.2
   obtain ⟨a0, hx0⟩ := Yl (l := d) (i := k0) hk0
   refine Qa ?_
   refine rk Qb [(39, .b true)] [] [] [] [(0, .val (.b true))] (o1 (Qi (Qh (decide_eq_true (p := ((k0 : Nat) : Int) < (d.length : Int)) (by omega))))) ?_
   refine Qa ?_
   refine ckT ?_
   refine Qr ?_
   refine Qa ?_
   refine Xf ?_
   refine Qa ?_
   refine rk Qb [(15, .p 15 0)] [39] [(15, [.s a0.1, .h a0.2])] [] [(0, .row [.s a0.1, .h a0.2])] (o1 (Qy (X4 (i := ((k0 : Nat) : Int)) (by omega) rfl hx0))) ?_
   refine Qa ?_
   refine rk Qb [(16, .p 16 0)] [] [(16, [.s a0.1, .e 1])] [] [] (o0) ?_
   refine Qa ?_
   refine Qa ?_
   refine rk Qb [(49, .b (!(Q0 names a0.1)))] [] [] [] [(3, .val (.b (Q0 names a0.1)))] (o1 (Qg (Vp names a0.1))) ?_
   refine ck (!(Q0 names a0.1)) (fun h5 => ?_) (fun h5 => ?_)
   ·
    have h5n : (Q0 names a0.1) = false := Ug h5
    refine rk Qb [] [15, 49] [(16, [.s a0.1, .o 3392 (Q5 r a0.1)])] [15, 16] [(3, .val (.o 0 (Q5 r a0.1)))] (o1 (Qg (Qcv r a0.1))) ?_
    refine wdT 13 0 (.own true 147208) s0 (fun hw6 => ?_)
    have hl7 : List.length s0 ≤ 1073741824 := Qx (hw6)
    refine rk Qb [(13, .one (.slc (.own true 3712) 2 ((eL s0) ++ [[.s a0.1, .h (Q5 r a0.1)]])))] [13, 16] [] [16] [] (o1 (V9 (Wi (Xm s0) (Xm [(a0.1, (Q5 r a0.1))]) (by first | omega | (simp only [List.length_cons, List.length_nil]; omega) | (simp; omega) | simp)))) ?_
    refine eqn [(13, .o 3712 (s0 ++ [(a0.1, (Q5 r a0.1))]))] [13] [] [] (by rw [show ((eL s0) ++ [[.s a0.1, .h (Q5 r a0.1)]]) = (eL (s0 ++ [(a0.1, (Q5 r a0.1))])) from Hj (rfl) (rfl)]; first | done | kernel_rfl) ?_
    refine rk Qb [(38, .i ((k0 + 1 : Nat) : Int))] [38] [] [] [(0, .val (.i ((k0 + 1 : Nat) : Int)))] (o1 (Qi (Km (Q8 k0 (by omega))))) ?_
    exact Exists.intro (s0 ++ [(a0.1, (Q5 r a0.1))]) (And.intro (Yt [(3712, 147208)] (by kernel_rfl)) ⟨Xe hx0 (X8 h5 (rfl)) hI0.1, by first | omega | (simp; omega) | simp⟩)
   ·
    have h5n : (Q0 names a0.1) = true := Jn h5
    refine Qr ?_
    refine wdT 13 0 (.own true 147208) s0 (fun hw8 => ?_)
    have hl9 : List.length s0 ≤ 1073741824 := Qx (hw8)
    refine rk Qb [(13, .one (.slc (.own true 3712) 2 ((eL s0) ++ [[.s a0.1, .slc 1 []]])))] [13, 15, 16, 49] [] [15, 16] [] (o1 (V9 (Wi (Xm s0) (Xm [((a0.1, []) : Qs)]) (by first | omega | (simp only [List.length_cons, List.length_nil]; omega) | (simp; omega) | simp)))) ?_
    refine eqn [(13, .o 3712 (s0 ++ [((a0.1, []) : Qs)]))] [13] [] [] (by rw [show ((eL s0) ++ [[.s a0.1, .slc 1 []]]) = (eL (s0 ++ [((a0.1, []) : Qs)])) from Hj (rfl) (rfl)]; first | done | kernel_rfl) ?_
    refine rk Qb [(38, .i ((k0 + 1 : Nat) : Int))] [38] [] [] [(0, .val (.i ((k0 + 1 : Nat) : Int)))] (o1 (Qi (Km (Q8 k0 (by omega))))) ?_
    exact Exists.intro (s0 ++ [((a0.1, []) : Qs)]) (And.intro (Yt [(3712, 147208)] (by kernel_rfl)) ⟨Xe hx0 (Q6 h5 (rfl)) hI0.1, by first | omega | (simp; omega) | simp⟩)
  ·
   have hA0_0 := hI0.2
   refine Qa ?_
   refine rk Qb [(39, .b false)] [] [] [] [(0, .val (.b false))] (o1 (Qi (Qh (decide_eq_false (p := ((k0 : Nat) : Int) < (d.length : Int)) (by omega))))) ?_
   refine Qa ?_
   refine ckF ?_
   refine Xt ?_
   exact Exists.intro s0 (And.intro (Yt [(147208, 147358)] (by kernel_rfl)) (Ym hk0 (rfl) hI0.1))
  ·
   refine Qa ?_
   refine rk Qb [(17, .i 0)] [] [] [] [] (o0) ?_
   refine Qa ?_
   refine Qa ?_
   refine rk Qb [(18, .i 0)] [] [] [] [] (o0) ?_
   refine blk (fun (k1 : Nat) (s1 : (List Qs) × Int) => [(13, .o 147358 s1.1), (17, .i s1.2), (18, .i ((k1 : Nat) : Int))]) [13, 17, 18] (fun k1 s1 => []) [] (fun (y1 : (List Qs) × Int) => [(13, .o 147358 y1.1), (17, .i y1.2)]) [1, 3, 4, 11, 13, 17, 18] (fun y1 => []) [4] (fun (k1 : Nat) (s1 : (List Qs) × Int) => (Hu (Uw s_ d names) Qae (Int.toNat ((Jq d) + 1)) 0 (y0, 0)) = Hu (Uw s_ d names) Qae ((Int.toNat ((Jq d) + 1)) - k1) k1 s1 ∧ EvS d ((Qz d)).1 (onD d names) s_.2.1 (((k1 : Nat)) : Int) s1.1 ∧ List.length s1.1 = List.length d) (fun (y1 : (List Qs) × Int) => (Hu (Uw s_ d names) Qae (Int.toNat ((Jq d) + 1)) 0 (y0, 0)) = .brk y1) (Int.toNat ((Jq d) + 1)) (y0, 0) (Qd (by kernel_rfl)) ⟨rfl, (by first | exact Wc hD0 | exact Wc hD0.1 | exact Qdw (fs := s_.2.1) (Wc hD0) | exact Qdw (fs := s_.2.1) (Wc hD0.1)), (by first | exact Wc hD0 | exact Wc hD0.1 | exact Qdw (fs := s_.2.1) (Wc hD0) | exact Qdw (fs := s_.2.1) (Wc hD0.1))⟩ (fun k1 s1 hk1 hI1 => ?_) (fun k1 s1 hk1 hI1 => ?_) (fun y1 hD1 => ?_)
   ·
    have hA1_0 := hI1.2.1
    have hA1_1 := hI1.2.2
    refine Qa ?_
    refine Qa ?_
    refine rk Qb [(63, .b true)] [] [] [] [(2, .val (.i (Jq d))), (3, .val (.b true))] (o2 (Qg (Qfy d)) (o1 (Qi (Qh (decide_eq_true (p := ((k1 : Nat) : Int) ≤ (Jq d)) (by omega)))))) ?_
    refine ckT ?_
    refine Qr ?_
    refine Qa ?_
    refine Xf ?_
    refine Qa ?_
    refine rk Qb [(19, .b true)] [63] [] [] [] (o0) ?_
    refine blw (fun (s2 : (List Qs) × Int × Bool) => [(13, .o 147358 s2.1), (17, .i s2.2.1), (19, .b s2.2.2)]) [13, 17, 19] (fun s2 => []) [] (fun (y2 : (List Qs) × Int) => [(13, .o 147358 y2.1), (17, .i y2.2)]) [13, 17, 19] (fun y2 => []) [] (fun (k2 : Nat) (s2 : (List Qs) × Int × Bool) => whl (Wv s_ d names k1) k2 s2 = some (whlD (Wv s_ d names k1) (List.length d * List.length s_.2.1 + 2) (s1.1, s1.2, true)) ∧ List.length s2.1 = List.length d) (fun (y2 : (List Qs) × Int) => (whlD (Wv s_ d names k1) (List.length d * List.length s_.2.1 + 2) (s1.1, s1.2, true)) = .brk y2) (List.length d * List.length s_.2.1 + 2) (s1.1, s1.2, true) (Qd (by kernel_rfl)) ⟨whl_some (evaluated_w (by assumption) (by assumption)), (by assumption)⟩ (fun _ h => whl_zero h.1) (fun k2 s2 hI2 => ?_) (fun y2 hD2 => ?_)
    ·
     have hA2_0 := hI2.2
     refine Qa ?_
     refine Qa ?_
     refine rk Qb [(66, .b s2.2.2)] [] [] [] [] (o0) ?_
     refine ck s2.2.2 (fun h10 => ?_) (fun h10 => ?_)
     ·
      refine Qr ?_
      refine Xf ?_
      refine Qa ?_
      refine rk Qb [(19, .b false)] [19, 66] [] [] [] (o0) ?_
      refine Qa ?_
      refine rk Qb [(17, .i (IntKind.i64.wrap (s2.2.1 + 1)))] [17] [] [] [] (o0) ?_
      refine Qa ?_
      refine rk Qb [(69, .h d), (70, .i (d.length : Int)), (71, .i 0)] [] [] [] [(1, .val (.i (d.length : Int)))] (o1 (Qi (Xs d))) ?_
      refine blk (fun (k3 : Nat) (s3 : (List Qs) × Bool) => [(13, .o 147358 s3.1), (19, .b s3.2), (71, .i ((k3 : Nat) : Int))]) [13, 19, 71] (fun k3 s3 => []) [] (fun (y3 : (List Qs) × Bool) => [(13, .o 147358 y3.1), (19, .b y3.2)]) [13, 19, 69, 70, 71] (fun y3 => []) [] (fun (k3 : Nat) (s3 : (List Qs) × Bool) => (Xv (Wu s_ d names k1) Qad d 0 (s2.1, false)) = Xv (Wu s_ d names k1) Qad (List.drop k3 d) k3 s3 ∧ List.length s3.1 = List.length s2.1) (fun (y3 : (List Qs) × Bool) => (Xv (Wu s_ d names k1) Qad d 0 (s2.1, false)) = .brk y3 ∧ List.length y3.1 = List.length s2.1) d.length (s2.1, false) (Qd (by kernel_rfl)) ⟨rfl, (by simp)⟩ (fun k3 s3 hk3 hI3 => ?_) (fun k3 s3 hk3 hI3 => ?_) (fun y3 hD3 => ?_)
      ·
       have hA3_0 := hI3.2
       obtain ⟨a3, hx3⟩ := Yl (l := d) (i := k3) hk3
       refine Qa ?_
       refine rk Qb [(72, .b true)] [] [] [] [(0, .val (.b true))] (o1 (Qi (Qh (decide_eq_true (p := ((k3 : Nat) : Int) < (d.length : Int)) (by omega))))) ?_
       refine Qa ?_
       refine ckT ?_
       refine Qr ?_
       refine Qa ?_
       refine Xf ?_
       refine Qa ?_
       refine rk Qb [(20, .i ((k3 : Nat) : Int)), (21, .p 21 0)] [72] [(21, [.s a3.1, .h a3.2])] [] [(1, .row [.s a3.1, .h a3.2])] (o1 (Qy (X4 (i := ((k3 : Nat) : Int)) (by omega) rfl hx3))) ?_
       refine Qa ?_
       refine Qa ?_
       refine jn [(88, .b (((nth (((Qz d)).1) k3) != ((k1 : Nat) : Int)) || (!(Q0 names a3.1))))] [] [] [] ((nth (((Qz d)).1) k3) != ((k1 : Nat) : Int)) (fun h11 => ?_) (fun h11 => ?_) ?_
       ·
        have h11d := ne_of_bne h11
        refine wdT 11 0 (.own true 1600) (((Qz d)).1) (fun hw13 => ?_)
        have hl14 : List.length (((Qz d)).1) ≤ 1073741824 := Qx (hw13)
        have hx12 : (((Qz d)).1)[k3]? = some (nth (((Qz d)).1) k3) := Yj (by omega)
        refine rk Qb [(88, .b true)] [] [] [] [(2, .rowE [.i (nth (((Qz d)).1) k3)]), (5, .val (.b true))] (o2 (Qy (X4 (i := ((k3 : Nat) : Int)) (by omega) rfl hx12)) (o1 (Qi (Qh h11)))) ?_
        exact ⟨rfl, Qd (by rw [h11]; first | done | kernel_rfl)⟩
       ·
        have h11d := H6 h11
        refine wdT 11 0 (.own true 1600) (((Qz d)).1) (fun hw16 => ?_)
        have hl17 : List.length (((Qz d)).1) ≤ 1073741824 := Qx (hw16)
        have hx15 : (((Qz d)).1)[k3]? = some (nth (((Qz d)).1) k3) := Yj (by omega)
        refine rk Qb [(88, .b (!(Q0 names a3.1)))] [] [] [] [(2, .rowE [.i (nth (((Qz d)).1) k3)]), (5, .val (.b false)), (10, .val (.b (Q0 names a3.1)))] (o2 (Qy (X4 (i := ((k3 : Nat) : Int)) (by omega) rfl hx15)) (o2 (Qi (Qh h11)) (o1 (Qg (Vp names a3.1))))) ?_
        exact ⟨rfl, Qd (by rw [h11]; first | done | kernel_rfl)⟩
       refine ck (((nth (((Qz d)).1) k3) != ((k1 : Nat) : Int)) || (!(Q0 names a3.1))) (fun h18 => ?_) (fun h18 => ?_)
       ·
        refine Xt ?_
        refine rk Qb [(71, .i ((k3 + 1 : Nat) : Int))] [20, 21, 71, 88] [] [21] [(0, .val (.i ((k3 + 1 : Nat) : Int)))] (o1 (Qi (Km (Q8 k3 (by omega))))) ?_
        exact Exists.intro (s3.1, s3.2) (And.intro (Qd (by kernel_rfl)) ⟨Xe hx3 (X8 h18 (rfl)) hI3.1, (by first | omega | (simp only [List.length_set]; omega))⟩)
       ·
        have h18l : (((nth (((Qz d)).1) k3) != ((k1 : Nat) : Int))) = false := or_l h18
        have h18ld := H6 h18l
        have h18r : ((!(Q0 names a3.1))) = false := or_r h18
        have h18rn : (Q0 names a3.1) = true := Jn h18r
        refine Qr ?_
        refine Qa ?_
        refine rk Qb [(22, .o 5952 (Yv s_ a3.2 s3.1))] [21, 88] [] [21] [(4, .val (.o 0 (Yv s_ a3.2 s3.1)))] (o1 (Qg (implSelectFiles_a s_ a3.2 s3.1))) ?_
        refine Qa ?_
        refine wdT 13 0 (.own true 147358) s3.1 (fun hw20 => ?_)
        have hl21 : List.length s3.1 ≤ 1073741824 := Qx (hw20)
        have hx19 : s3.1[k3]? = some (nth s3.1 k3) := Yj (by omega)
        refine rk Qb [(101, .b (!(Zn (Yv s_ a3.2 s3.1) ((nth s3.1 k3).2))))] [] [] [] [(3, .rowE [.s ((nth s3.1 k3).1), .h ((nth s3.1 k3).2)]), (6, .val (.b (Zn (Yv s_ a3.2 s3.1) ((nth s3.1 k3).2))))] (o2 (Qy (X4 (i := ((k3 : Nat) : Int)) (by omega) rfl hx19)) (o1 (Qg (Qe9 (Yv s_ a3.2 s3.1) ((nth s3.1 k3).2))))) ?_
        refine ck (!(Zn (Yv s_ a3.2 s3.1) ((nth s3.1 k3).2))) (fun h22 => ?_) (fun h22 => ?_)
        ·
         have h22n : (Zn (Yv s_ a3.2 s3.1) ((nth s3.1 k3).2)) = false := Ug h22
         refine Qa ?_
         refine rk Qb [(13, .one (.slc (.own true 147358) 2 (setRow (eL s3.1) k3 1 [.h (Yv s_ a3.2 s3.1)])))] [13, 20, 22, 101] [] [] [(3, .rowE [.s ((nth s3.1 k3).1), .h ((nth s3.1 k3).2)])] (o1 (Qy (X4 (i := ((k3 : Nat) : Int)) (by omega) rfl hx19))) ?_
         refine eqn [(13, .o 147358 (List.set s3.1 k3 ((nth s3.1 k3).1, (Yv s_ a3.2 s3.1))))] [13] [] [] (by rw [K0 (y := ((nth s3.1 k3).1, (Yv s_ a3.2 s3.1))) hx19 rfl]; first | done | kernel_rfl) ?_
         refine rk Qb [(19, .b true)] [19] [] [] [] (o0) ?_
         refine rk Qb [(71, .i ((k3 + 1 : Nat) : Int))] [71] [] [] [(0, .val (.i ((k3 + 1 : Nat) : Int)))] (o1 (Qi (Km (Q8 k3 (by omega))))) ?_
         exact Exists.intro (List.set s3.1 k3 ((nth s3.1 k3).1, (Yv s_ a3.2 s3.1)), true) (And.intro (Qd (by kernel_rfl)) ⟨Xe hx3 (Q6 h18 (X8 h22 (rfl))) hI3.1, (by first | omega | (simp only [List.length_set]; omega))⟩)
        ·
         have h22n : (Zn (Yv s_ a3.2 s3.1) ((nth s3.1 k3).2)) = true := Jn h22
         refine Qr ?_
         refine rk Qb [(71, .i ((k3 + 1 : Nat) : Int))] [20, 22, 71, 101] [] [] [(0, .val (.i ((k3 + 1 : Nat) : Int)))] (o1 (Qi (Km (Q8 k3 (by omega))))) ?_
         exact Exists.intro (s3.1, s3.2) (And.intro (Qd (by kernel_rfl)) ⟨Xe hx3 (Q6 h18 (Q6 h22 (rfl))) hI3.1, (by first | omega | (simp only [List.length_set]; omega))⟩)
      ·
       have hA3_0 := hI3.2
       refine Qa ?_
       refine rk Qb [(72, .b false)] [] [] [] [(0, .val (.b false))] (o1 (Qi (Qh (decide_eq_false (p := ((k3 : Nat) : Int) < (d.length : Int)) (by omega))))) ?_
       refine Qa ?_
       refine ckF ?_
       refine Xt ?_
       exact Exists.intro (s3.1, s3.2) (And.intro (Qd (by kernel_rfl)) ⟨Ym hk3 (rfl) hI3.1, by first | omega | (simp only [List.length_set]; omega)⟩)
      ·
       have hD3_0 := hD3.2
       exact Exists.intro (y3.1, IntKind.i64.wrap (s2.2.1 + 1), y3.2) (And.intro (Qd (by kernel_rfl)) ⟨whl_next (X8 h10 (Hk hD3.1 (rfl))) hI2.1, (by first | omega | (simp only [List.length_set]; omega))⟩)
     ·
      refine Xt ?_
      exact Exists.intro (s2.1, s2.2.1) (And.intro (Qd (by kernel_rfl)) (whl_brk (Q6 h10 (rfl)) hI2.1))
    ·
     refine rk Qb [(18, .i ((k1 + 1 : Nat) : Int))] [18] [] [] [(1, .val (.i ((k1 + 1 : Nat) : Int)))] (o1 (Qi (Km (Q8 k1 (by omega))))) ?_
     exact Exists.intro (y2.1, y2.2) (And.intro (Qd (by kernel_rfl)) ⟨Vh hk1 (Hk hD2 (rfl)) hI1.1, (by first | exact Qdd (by assumption) (by assumption) (by assumption) | exact Qdw (fs := s_.2.1) (Qdd (by assumption) (by assumption) (by assumption))), (by first | exact Qdd (by assumption) (by assumption) (by assumption) | exact Qdw (fs := s_.2.1) (Qdd (by assumption) (by assumption) (by assumption)))⟩)
   ·
    have hA1_0 := hI1.2.1
    have hA1_1 := hI1.2.2
    refine Qa ?_
    refine Qa ?_
    refine rk Qb [(63, .b false)] [] [] [] [(2, .val (.i (Jq d))), (3, .val (.b false))] (o2 (Qg (Qfy d)) (o1 (Qi (Qh (decide_eq_false (p := ((k1 : Nat) : Int) ≤ (Jq d)) (by omega)))))) ?_
    refine ckF ?_
    refine Xt ?_
    exact Exists.intro (s1.1, s1.2) (And.intro (Qd (by kernel_rfl)) (Qbu hk1 (rfl) hI1.1))
   ·
    refine Qa ?_
    refine rk Qb [(8, .o 147358 y1.1), (9, .i y1.2), (10, .b true)] [8, 9, 10, 13, 17] [] [] [] (o0) ?_
    refine Qq ?_
    exact Ze [] (congrArg (fun z => (.tup [(false, [.o 0 z.1]), (false, [.i z.2.1]), (false, [.b z.2.2])] : AV)) (show Yb s_ d r names = (y1.1, y1.2, true) from Q6 h2 (Hk hD0 (Hk hD1 (rfl)))).symm)
def Z3 (s_ : Zp) (d : (List Zt)) : (List Qs) × Bool := (((Yb s_ d [] (Q3 d))).1, ((Yb s_ d [] (Q3 d))).2.2)
theorem implEvaluate_a (s_ : Zp) (d : (List Zt)) : ACalls Tryz.prog 73 [.a [.h s_.1, .h s_.2.1, .i s_.2.2], .h d] (.tup [(false, [.o 0 (((Z3 s_ d)).1)]), (false, [.b (((Z3 s_ d)).2)])]) := by
 refine Qt (tt := tt) Qb Tryz.func73 (fn := Tryz.f73) rfl (by unfold Jr; kernel_rfl) (Nat.le_of_ble_eq_true rfl) fun w0 F0 hG => ?_
 refine Qa ?_
 refine rk Qb [(2, .p 2 0), (4, .e 0), (5, .b false)] [0] [(2, [.h s_.1, .h s_.2.1, .i s_.2.2])] [] [] (o0) ?_
 refine Qa ?_
 refine rd' Qb Js [(6, .o 896 (((Yb s_ d [] (Q3 d))).1)), (8, .b (((Yb s_ d [] (Q3 d))).2.2))] [1, 2] [] [2] [(3, .val (.o 0 (Q3 d))), (4, .val (.tup [(false, [.o 0 (((Yb s_ d [] (Q3 d))).1)]), (false, [.i (((Yb s_ d [] (Q3 d))).2.1)]), (false, [.b (((Yb s_ d [] (Q3 d))).2.2)])]))] (o2 (Qg (Qdc d)) (o1 (Qg (acalls_args (.cons (ArgLe.rfl _) ( .cons (ArgLe.rfl _) ( .cons (ArgLe.nil 2) ( .cons (ArgLe.rfl _) (.nil))))) (implevaluated_a s_ d [] (Q3 d)))))) ?_
 refine Qa ?_
 refine rk Qb [(4, .o 896 (((Yb s_ d [] (Q3 d))).1)), (5, .b (((Yb s_ d [] (Q3 d))).2.2))] [4, 5, 6, 8] [] [] [] (o0) ?_
 refine Qq ?_
 exact Ze [] (congrArg (fun z => (.tup [(false, [.o 0 z.1]), (false, [.b z.2])] : AV)) (show Z3 s_ d = (((Yb s_ d [] (Q3 d))).1, ((Yb s_ d [] (Q3 d))).2.2) from rfl).symm)
def Uk (_ : Nat) (a0 : Int) (s0 : Int) : Rd (Int) (Int) (Int) := (bif decide (a0 > s0) then (.next a0) else (.next s0))
def Hp (_ : Nat) (s0 : Int) : Int := s0
def J8 (d : (List Zt)) : Int := (Out.on (Xv Uk Hp (((Xw d)).1) 0 (-1)) (fun y0 => y0))
theorem Qfz (d : (List Zt)) : ACalls Tryz.prog 118 [.h d] (.i (J8 d)) := by
 refine Qt (tt := tt) Qb Tryz.func118 (fn := Tryz.f118) rfl (by unfold Jr; kernel_rfl) (Nat.le_of_ble_eq_true rfl) fun w0 F0 hG => ?_
 refine Qa ?_
 refine rk Qb [(2, .i 0)] [] [] [] [] (o0) ?_
 refine Qa ?_
 refine rk Qb [(3, .o 576 (((Xw d)).1))] [0] [] [] [(1, .val (.tup [(false, [.o 0 (((Xw d)).1)]), (false, [.b (((Xw d)).2)])]))] (o1 (Qg (specStrata_a d))) ?_
 refine Qa ?_
 refine rk Qb [(5, .i (-1))] [] [] [] [] (o0) ?_
 refine Qa ?_
 refine Qa ?_
 refine rk Qb [(6, .i 0)] [] [] [] [] (o0) ?_
 refine wdT 3 0 (.own true 576) (((Xw d)).1) (fun hw1 => ?_)
 have hl2 : List.length (((Xw d)).1) ≤ 1073741824 := Qx (hw1)
 refine blk (fun (k0 : Nat) (s0 : Int) => [(5, .i s0), (6, .i ((k0 : Nat) : Int))]) [5, 6] (fun k0 s0 => []) [] (fun (y0 : Int) => [(5, .i y0)]) [3, 5, 6] (fun y0 => []) [] (fun (k0 : Nat) (s0 : Int) => (Xv Uk Hp (((Xw d)).1) 0 (-1)) = Xv Uk Hp (List.drop k0 (((Xw d)).1)) k0 s0) (fun (y0 : Int) => (Xv Uk Hp (((Xw d)).1) 0 (-1)) = .brk y0) ((((Xw d)).1).length) (-1) (Qd (by kernel_rfl)) rfl (fun k0 s0 hk0 hI0 => ?_) (fun k0 s0 hk0 hI0 => ?_) (fun y0 hD0 => ?_)
 ·
  obtain ⟨a0, hx0⟩ := Yl (l := ((Xw d)).1) (i := k0) hk0
  refine Qa ?_
  refine Qa ?_
  refine rk Qb [(15, .b true)] [] [] [] [(2, .val (.i ((((Xw d)).1).length : Int))), (3, .val (.b true))] (o2 (Qi (Xs (((Xw d)).1))) (o1 (Qi (Qh (decide_eq_true (p := ((k0 : Nat) : Int) < ((((Xw d)).1).length : Int)) (by omega)))))) ?_
  refine ckT ?_
  refine Qr ?_
  refine Qa ?_
  refine Xf ?_
  refine Qa ?_
  refine rk Qb [(23, .b (decide (a0 > s0)))] [15] [] [] [(2, .rowE [.i a0])] (o1 (Qy (X4 (i := ((k0 : Nat) : Int)) (by omega) rfl hx0))) ?_
  refine ck (decide (a0 > s0)) (fun h3 => ?_) (fun h3 => ?_)
  ·
   have h3d := of_decide_eq_true h3
   refine rk Qb [(5, .i a0)] [5, 23] [] [] [(2, .rowE [.i a0])] (o1 (Qy (X4 (i := ((k0 : Nat) : Int)) (by omega) rfl hx0))) ?_
   refine rk Qb [(6, .i ((k0 + 1 : Nat) : Int))] [6] [] [] [(1, .val (.i ((k0 + 1 : Nat) : Int)))] (o1 (Qi (Km (Q8 k0 (by omega))))) ?_
   exact Exists.intro a0 (And.intro (Qd (by kernel_rfl)) (Xe hx0 (X8 h3 (rfl)) hI0))
  ·
   have h3d := of_decide_eq_false h3
   refine Qr ?_
   refine rk Qb [(6, .i ((k0 + 1 : Nat) : Int))] [6, 23] [] [] [(1, .val (.i ((k0 + 1 : Nat) : Int)))] (o1 (Qi (Km (Q8 k0 (by omega))))) ?_
   exact Exists.intro s0 (And.intro (Qd (by kernel_rfl)) (Xe hx0 (Q6 h3 (rfl)) hI0))
 ·
  refine Qa ?_
  refine Qa ?_
  refine rk Qb [(15, .b false)] [] [] [] [(2, .val (.i ((((Xw d)).1).length : Int))), (3, .val (.b false))] (o2 (Qi (Xs (((Xw d)).1))) (o1 (Qi (Qh (decide_eq_false (p := ((k0 : Nat) : Int) < ((((Xw d)).1).length : Int)) (by omega)))))) ?_
  refine ckF ?_
  refine Xt ?_
  exact Exists.intro s0 (And.intro (Qd (by kernel_rfl)) (Ym hk0 (rfl) hI0))
 ·
  refine Qa ?_
  refine rk Qb [(2, .i y0)] [2, 5] [] [] [] (o0) ?_
  refine Qq ?_
  exact Ze [] (congrArg (fun z => (.i z : AV)) (show J8 d = y0 from Hk hD0 (rfl)).symm)
def Qbd (_ : Nat) (a0 : Zt) (s0 : (List Qs)) : Rd ((List Qs) × Int × Bool) ((List Qs)) ((List Qs)) := (.next (s0 ++ [((a0.1, []) : Qs)]))
def Qbe (_ : Nat) (s0 : (List Qs)) : (List Qs) := s0
def H0 (s_ : Zp) (d : (List Zt)) (k1 : Nat) (k3 : Nat) (a3 : Zt) (s3 : (List Qs) × Bool) : Rd (Rd (Rd ((List Qs) × Int × Bool) ((List Qs) × Int) ((List Qs) × Int)) ((List Qs) × Int × Bool) ((List Qs) × Int)) ((List Qs) × Bool) ((List Qs) × Bool) := (bif ((nth (((Xw d)).1) k3) != ((k1 : Nat) : Int)) then (.next (s3.1, s3.2)) else (bif (!(Kb (Zs s_ a3.2 s3.1) ((nth s3.1 k3).2))) then (.next (List.set s3.1 k3 ((nth s3.1 k3).1, (Zs s_ a3.2 s3.1)), true)) else (.next (s3.1, s3.2))))
def Qcw (_ : Nat) (s3 : (List Qs) × Bool) : (List Qs) × Bool := (s3.1, s3.2)
def H1 (s_ : Zp) (d : (List Zt)) (k1 : Nat) (s2 : (List Qs) × Int × Bool) : Rd (Rd ((List Qs) × Int × Bool) ((List Qs) × Int) ((List Qs) × Int)) ((List Qs) × Int × Bool) ((List Qs) × Int) := (bif s2.2.2 then (Out.on (Xv (H0 s_ d k1) Qcw d 0 (s2.1, false)) (fun y3 => (.next (y3.1, IntKind.i64.wrap (s2.2.1 + 1), y3.2)))) else (.brk (s2.1, s2.2.1)))
def Qd0 (s_ : Zp) (d : (List Zt)) (k1 : Nat) (s1 : (List Qs) × Int) : Rd ((List Qs) × Int × Bool) ((List Qs) × Int) ((List Qs) × Int) := (Out.on (whlD (H1 s_ d k1) (List.length d * List.length s_.2.1 + 2) (s1.1, s1.2, true)) (fun y2 => (.next (y2.1, y2.2))))
def Qd1 (_ : Nat) (s1 : (List Qs) × Int) : (List Qs) × Int := (s1.1, s1.2)
def Vx (s_ : Zp) (d : (List Zt)) : (List Qs) × Int × Bool := (bif ((!(((Xw d)).2)) || (!(Ko s_))) then ([], 0, false) else (Out.on (Xv Qbd Qbe d 0 []) (fun y0 => (Out.on (Hu (Qd0 s_ d) Qd1 (Int.toNat ((J8 d) + 1)) 0 (y0, 0)) (fun y1 => (y1.1, y1.2, true))))))
theorem maxS_go {B : Int} : ∀ (x : List Int) (k : Nat) (s : Int), (∀ a, a ∈ x → a ≤ B) → s ≤ B → ∃ t, Xv Uk Hp x k s = .brk t ∧ t ≤ B
 | [], k, s, _, h => ⟨s, rfl, h⟩
 | a :: x, k, s, hx, h => by
  simp only [Xv, Uk]
  cases hc : decide (a > s) with
  | true => exact maxS_go x (k + 1) a (fun b hb => hx b (List.mem_cons_of_mem _ hb)) (hx a (List.mem_cons_self ..))
  | false => exact maxS_go x (k + 1) s (fun b hb => hx b (List.mem_cons_of_mem _ hb)) h
theorem strata_factsS {d : List Zt} (h : ((Xw d)).2 = true) : List.length ((Xw d)).1 = List.length d ∧ List.length d ≤ 5 ∧ J8 d ≤ 5 := by
 have h' := h
 rw [Qeq] at h'
 obtain ⟨h1, h2, h3⟩ := Qer h'
 unfold J8
 rw [Qeq]
 obtain ⟨t, e, ht⟩ := maxS_go (B := 5) ((Qz d)).1 0 (-1) (fun a ha => (h3 a ha).2) (by omega)
 refine ⟨h1, h2, ?_⟩
 rw [e]; exact ht
theorem l15Run_step (s_ : Zp) (d : List Zt) (k1 : Nat) : StepE s_ d (Qz d).1 (fun _ => true) (k1 : Int) (H0 s_ d k1) := by
 intro k a o c hk
 unfold H0 actD
 rw [ints_dec, Qeq, ← select_eq]
 simp only [bne]
 cases (nth (Qz d).1 k == (k1 : Int)) <;> rfl
section
variable {s_ : Zp} {d : List Zt} {k1 : Nat} {o : List Qs} {p : Int}
theorem l15Run_run (hS : ((Xw d)).2 = true) (h : EvS d ((Xw d)).1 (fun _ => true) s_.2.1 (k1 : Int) o) : ∃ o' p', whl (H1 s_ d k1) (List.length d * List.length s_.2.1 + 2) (o, p, true) = some (.brk (o', p')) ∧ EvS d ((Xw d)).1 (fun _ => true) s_.2.1 ((k1 : Int) + 1) o' := by
 rw [Qeq] at hS h ⊢
 exact ev_run (f := H0 s_ d k1) (e := Qcw) (l15Run_step s_ d k1) (fun _ _ => rfl) (fun _ => rfl) (Prod.ext rfl hS) h p
theorem l15Run_w (hS : ((Xw d)).2 = true) (h : EvS d ((Xw d)).1 (fun _ => true) s_.2.1 (((k1 : Nat)) : Int) o) : (whl (H1 s_ d k1) (List.length d * List.length s_.2.1 + 2) (o, p, true)).isSome = true := by
 obtain ⟨o', p', h1, _⟩ := l15Run_run (p := p) hS h
 rw [h1]; rfl
theorem Qft {y : List Qs × Int} (hS : ((Xw d)).2 = true) (h : EvS d ((Xw d)).1 (fun _ => true) s_.2.1 (((k1 : Nat)) : Int) o) (hy : whlD (H1 s_ d k1) (List.length d * List.length s_.2.1 + 2) (o, p, true) = .brk y) : EvS d ((Xw d)).1 (fun _ => true) s_.2.1 ((((k1 + 1) : Nat)) : Int) y.1 := by
 obtain ⟨o', p', h1, h2⟩ := l15Run_run (p := p) hS h
 unfold whlD at hy
 rw [h1] at hy
 have e : (o', p') = y := by simpa using hy
 rw [← e, Int.natCast_add]; exact h2
theorem Hv (hy : Xv Qbd Qbe d 0 [] = .brk o) : EvS d ((Xw d)).1 (fun _ => true) s_.2.1 (((0 : Nat)) : Int) o := by
 obtain ⟨h1, h2⟩ := ev_start (L := ((Xw d)).1) (on := fun _ => true) (fs := s_.2.1) (g := fun _ => []) (f := Qbd) (e := Qbe) (d := d) (fun k a s => rfl) (fun j _ hj => rfl)
 rw [h1] at hy
 have e : (d.map fun a => ((a.1, ([] : List Int)) : Qs)) = o := Out.brk.inj hy
 rw [← e]; exact h2
end
theorem specl15Run_a (s_ : Zp) (d : (List Zt)) : ACalls Tryz.prog 71 [.a [.h s_.1, .h s_.2.1, .i s_.2.2], .h d] (.tup [(false, [.o 0 (((Vx s_ d)).1)]), (false, [.i (((Vx s_ d)).2.1)]), (false, [.b (((Vx s_ d)).2.2)])]) := by
 refine Qt (tt := tt) Qb Tryz.func71 (fn := Tryz.f71) rfl (by unfold Jr; kernel_rfl) (Nat.le_of_ble_eq_true rfl) fun w0 F0 hG => ?_
 refine Qa ?_
 refine rk Qb [(2, .p 2 0), (4, .e 0), (5, .i 0), (6, .b false)] [0] [(2, [.h s_.1, .h s_.2.1, .i s_.2.2])] [] [] (o0) ?_
 refine Qa ?_
 refine rk Qb [(7, .o 1152 (((Xw d)).1)), (8, .b (((Xw d)).2))] [] [] [] [(1, .val (.tup [(false, [.o 0 (((Xw d)).1)]), (false, [.b (((Xw d)).2)])]))] (o1 (Qg (specStrata_a d))) ?_
 refine Qa ?_
 refine Qa ?_
 refine jn [(27, .b ((!(((Xw d)).2)) || (!(Ko s_))))] [8] [] [] (!(((Xw d)).2)) (fun h1 => ?_) (fun h1 => ?_) ?_
 ·
  have h1n : (((Xw d)).2) = false := Ug h1
  refine rk Qb [(27, .b true)] [8] [] [] [(0, .val (.b false)), (1, .val (.b true))] (o2 (Qi (Qh h1n)) (o1 (Qi (show .b (!false) = .b true from rfl)))) ?_
  exact ⟨rfl, Qd (by rw [h1]; first | done | kernel_rfl)⟩
 ·
  have h1n : (((Xw d)).2) = true := Jn h1
  have h1nsf := strata_factsS h1n
  refine rk Qb [(27, .b (!(Ko s_)))] [8] [] [] [(0, .val (.b true)), (1, .val (.b false)), (4, .val (.b (Ko s_)))] (o2 (Qi (Qh h1n)) (o2 (Qi (show .b (!true) = .b false from rfl)) (o1 (Qg (specIsValidStore_a s_))))) ?_
  exact ⟨rfl, Qd (by rw [h1]; first | done | kernel_rfl)⟩
 refine ck ((!(((Xw d)).2)) || (!(Ko s_))) (fun h2 => ?_) (fun h2 => ?_)
 ·
  refine Qa ?_
  refine rk Qb [(4, .one (.slc (.own true 1792) 2 []))] [4, 27] [] [] [] (o0) ?_
  refine Qq ?_
  exact Ze [] (congrArg (fun z => (.tup [(false, [.o 0 z.1]), (false, [.i z.2.1]), (false, [.b z.2.2])] : AV)) (show Vx s_ d = ([], 0, false) from X8 h2 (rfl)).symm)
 ·
  have h2l : ((!(((Xw d)).2))) = false := or_l h2
  have h2ln : (((Xw d)).2) = true := Jn h2l
  have h2lnsf := strata_factsS h2ln
  have h2r : ((!(Ko s_))) = false := or_r h2
  have h2rn : (Ko s_) = true := Jn h2r
  refine Qr ?_
  refine Qa ?_
  refine rk Qb [(9, .one (.slc (.own true 1856) 2 []))] [27] [] [] [] (o0) ?_
  refine Qa ?_
  refine Qa ?_
  refine rk Qb [(10, .i 0)] [] [] [] [] (o0) ?_
  refine wdT 1 0 .sh d (fun hw3 => ?_)
  have hl4 : List.length d ≤ 1073741824 := Qx (hw3)
  refine blk (fun (k0 : Nat) (s0 : (List Qs)) => [(9, .o 147206 s0), (10, .i ((k0 : Nat) : Int))]) [9, 10] (fun k0 s0 => []) [] (fun (y0 : (List Qs)) => [(9, .o 147356 y0)]) [9, 10] (fun y0 => []) [] (fun (k0 : Nat) (s0 : (List Qs)) => (Xv Qbd Qbe d 0 []) = Xv Qbd Qbe (List.drop k0 d) k0 s0 ∧ List.length s0 ≤ k0) (fun (y0 : (List Qs)) => (Xv Qbd Qbe d 0 []) = .brk y0) d.length [] (Yt [(1856, 147206)] (by kernel_rfl)) ⟨rfl, (by simp)⟩ (fun k0 s0 hk0 hI0 => ?_) (fun k0 s0 hk0 hI0 => ?_) (fun y0 hD0 => ?_)
  ·
   have hA0_0 := hI0.2
   obtain ⟨a0, hx0⟩ := Yl (l := d) (i := k0) hk0
   refine Qa ?_
   refine Qa ?_
   refine rk Qb [(33, .b true)] [] [] [] [(2, .val (.i (d.length : Int))), (3, .val (.b true))] (o2 (Qi (Xs d)) (o1 (Qi (Qh (decide_eq_true (p := ((k0 : Nat) : Int) < (d.length : Int)) (by omega)))))) ?_
   refine ckT ?_
   refine Qr ?_
   refine Qa ?_
   refine Xf ?_
   refine wdT 9 0 (.own true 147206) s0 (fun hw5 => ?_)
   have hl6 : List.length s0 ≤ 1073741824 := Qx (hw5)
   refine rk Qb [(9, .one (.slc (.own true 2880) 2 ((eL s0) ++ [[.s a0.1, .slc 1 []]])))] [9, 33] [] [] [(3, .row [.s a0.1, .h a0.2])] (o2 (Qy (X4 (i := ((k0 : Nat) : Int)) (by omega) rfl hx0)) (o1 (V9 (Wi (Xm s0) (Xm [((a0.1, []) : Qs)]) (by first | omega | (simp only [List.length_cons, List.length_nil]; omega) | (simp; omega) | simp))))) ?_
   refine eqn [(9, .o 2880 (s0 ++ [((a0.1, []) : Qs)]))] [9] [] [] (by rw [show ((eL s0) ++ [[.s a0.1, .slc 1 []]]) = (eL (s0 ++ [((a0.1, []) : Qs)])) from Hj (rfl) (rfl)]; first | done | kernel_rfl) ?_
   refine rk Qb [(10, .i ((k0 + 1 : Nat) : Int))] [10] [] [] [(1, .val (.i ((k0 + 1 : Nat) : Int)))] (o1 (Qi (Km (Q8 k0 (by omega))))) ?_
   exact Exists.intro (s0 ++ [((a0.1, []) : Qs)]) (And.intro (Yt [(2880, 147206)] (by kernel_rfl)) ⟨Xe hx0 (rfl) hI0.1, by first | omega | (simp; omega) | simp⟩)
  ·
   have hA0_0 := hI0.2
   refine Qa ?_
   refine Qa ?_
   refine rk Qb [(33, .b false)] [] [] [] [(2, .val (.i (d.length : Int))), (3, .val (.b false))] (o2 (Qi (Xs d)) (o1 (Qi (Qh (decide_eq_false (p := ((k0 : Nat) : Int) < (d.length : Int)) (by omega)))))) ?_
   refine ckF ?_
   refine Xt ?_
   exact Exists.intro s0 (And.intro (Yt [(147206, 147356)] (by kernel_rfl)) (Ym hk0 (rfl) hI0.1))
  ·
   refine Qa ?_
   refine rk Qb [(11, .i 0)] [] [] [] [] (o0) ?_
   refine Qa ?_
   refine Qa ?_
   refine rk Qb [(12, .i 0)] [] [] [] [] (o0) ?_
   refine blk (fun (k1 : Nat) (s1 : (List Qs) × Int) => [(9, .o 147356 s1.1), (11, .i s1.2), (12, .i ((k1 : Nat) : Int))]) [9, 11, 12] (fun k1 s1 => []) [] (fun (y1 : (List Qs) × Int) => [(9, .o 147356 y1.1), (11, .i y1.2)]) [1, 2, 7, 9, 11, 12] (fun y1 => []) [2] (fun (k1 : Nat) (s1 : (List Qs) × Int) => (Hu (Qd0 s_ d) Qd1 (Int.toNat ((J8 d) + 1)) 0 (y0, 0)) = Hu (Qd0 s_ d) Qd1 ((Int.toNat ((J8 d) + 1)) - k1) k1 s1 ∧ EvS d ((Xw d)).1 (fun _ => true) s_.2.1 (((k1 : Nat)) : Int) s1.1 ∧ List.length s1.1 = List.length d) (fun (y1 : (List Qs) × Int) => (Hu (Qd0 s_ d) Qd1 (Int.toNat ((J8 d) + 1)) 0 (y0, 0)) = .brk y1) (Int.toNat ((J8 d) + 1)) (y0, 0) (Qd (by kernel_rfl)) ⟨rfl, (by first | exact Hv hD0 | exact Hv hD0.1 | exact Qdw (fs := s_.2.1) (Hv hD0) | exact Qdw (fs := s_.2.1) (Hv hD0.1)), (by first | exact Hv hD0 | exact Hv hD0.1 | exact Qdw (fs := s_.2.1) (Hv hD0) | exact Qdw (fs := s_.2.1) (Hv hD0.1))⟩ (fun k1 s1 hk1 hI1 => ?_) (fun k1 s1 hk1 hI1 => ?_) (fun y1 hD1 => ?_)
   ·
    have hA1_0 := hI1.2.1
    have hA1_1 := hI1.2.2
    refine Qa ?_
    refine Qa ?_
    refine rk Qb [(49, .b true)] [] [] [] [(2, .val (.i (J8 d))), (3, .val (.b true))] (o2 (Qg (Qfz d)) (o1 (Qi (Qh (decide_eq_true (p := ((k1 : Nat) : Int) ≤ (J8 d)) (by omega)))))) ?_
    refine ckT ?_
    refine Qr ?_
    refine Qa ?_
    refine Xf ?_
    refine Qa ?_
    refine rk Qb [(13, .b true)] [49] [] [] [] (o0) ?_
    refine blw (fun (s2 : (List Qs) × Int × Bool) => [(9, .o 147356 s2.1), (11, .i s2.2.1), (13, .b s2.2.2)]) [9, 11, 13] (fun s2 => []) [] (fun (y2 : (List Qs) × Int) => [(9, .o 147356 y2.1), (11, .i y2.2)]) [9, 11, 13] (fun y2 => []) [] (fun (k2 : Nat) (s2 : (List Qs) × Int × Bool) => whl (H1 s_ d k1) k2 s2 = some (whlD (H1 s_ d k1) (List.length d * List.length s_.2.1 + 2) (s1.1, s1.2, true)) ∧ List.length s2.1 = List.length d) (fun (y2 : (List Qs) × Int) => (whlD (H1 s_ d k1) (List.length d * List.length s_.2.1 + 2) (s1.1, s1.2, true)) = .brk y2) (List.length d * List.length s_.2.1 + 2) (s1.1, s1.2, true) (Qd (by kernel_rfl)) ⟨whl_some (l15Run_w (by assumption) (by assumption)), (by assumption)⟩ (fun _ h => whl_zero h.1) (fun k2 s2 hI2 => ?_) (fun y2 hD2 => ?_)
    ·
     have hA2_0 := hI2.2
     refine Qa ?_
     refine Qa ?_
     refine rk Qb [(52, .b s2.2.2)] [] [] [] [] (o0) ?_
     refine ck s2.2.2 (fun h7 => ?_) (fun h7 => ?_)
     ·
      refine Qr ?_
      refine Xf ?_
      refine Qa ?_
      refine rk Qb [(13, .b false)] [13, 52] [] [] [] (o0) ?_
      refine Qa ?_
      refine rk Qb [(11, .i (IntKind.i64.wrap (s2.2.1 + 1)))] [11] [] [] [] (o0) ?_
      refine Qa ?_
      refine rk Qb [(14, .i 0)] [] [] [] [] (o0) ?_
      refine blk (fun (k3 : Nat) (s3 : (List Qs) × Bool) => [(9, .o 147356 s3.1), (13, .b s3.2), (14, .i ((k3 : Nat) : Int))]) [9, 13, 14] (fun k3 s3 => []) [] (fun (y3 : (List Qs) × Bool) => [(9, .o 147356 y3.1), (13, .b y3.2)]) [9, 13, 14] (fun y3 => []) [] (fun (k3 : Nat) (s3 : (List Qs) × Bool) => (Xv (H0 s_ d k1) Qcw d 0 (s2.1, false)) = Xv (H0 s_ d k1) Qcw (List.drop k3 d) k3 s3 ∧ List.length s3.1 = List.length s2.1) (fun (y3 : (List Qs) × Bool) => (Xv (H0 s_ d k1) Qcw d 0 (s2.1, false)) = .brk y3 ∧ List.length y3.1 = List.length s2.1) d.length (s2.1, false) (Qd (by kernel_rfl)) ⟨rfl, (by simp)⟩ (fun k3 s3 hk3 hI3 => ?_) (fun k3 s3 hk3 hI3 => ?_) (fun y3 hD3 => ?_)
      ·
       have hA3_0 := hI3.2
       obtain ⟨a3, hx3⟩ := Yl (l := d) (i := k3) hk3
       refine Qa ?_
       refine Qa ?_
       refine rk Qb [(58, .b true)] [] [] [] [(2, .val (.i (d.length : Int))), (3, .val (.b true))] (o2 (Qi (Xs d)) (o1 (Qi (Qh (decide_eq_true (p := ((k3 : Nat) : Int) < (d.length : Int)) (by omega)))))) ?_
       refine ckT ?_
       refine Qr ?_
       refine Qa ?_
       refine Xf ?_
       refine Qa ?_
       refine Qa ?_
       refine wdT 7 0 (.own true 1152) (((Xw d)).1) (fun hw9 => ?_)
       have hl10 : List.length (((Xw d)).1) ≤ 1073741824 := Qx (hw9)
       have hx8 : (((Xw d)).1)[k3]? = some (nth (((Xw d)).1) k3) := Yj (by omega)
       refine rk Qb [(66, .b ((nth (((Xw d)).1) k3) != ((k1 : Nat) : Int)))] [58] [] [] [(2, .rowE [.i (nth (((Xw d)).1) k3)])] (o1 (Qy (X4 (i := ((k3 : Nat) : Int)) (by omega) rfl hx8))) ?_
       refine ck ((nth (((Xw d)).1) k3) != ((k1 : Nat) : Int)) (fun h11 => ?_) (fun h11 => ?_)
       ·
        have h11d := ne_of_bne h11
        refine Xt ?_
        refine rk Qb [(14, .i ((k3 + 1 : Nat) : Int))] [14, 66] [] [] [(1, .val (.i ((k3 + 1 : Nat) : Int)))] (o1 (Qi (Km (Q8 k3 (by omega))))) ?_
        exact Exists.intro (s3.1, s3.2) (And.intro (Qd (by kernel_rfl)) ⟨Xe hx3 (X8 h11 (rfl)) hI3.1, (by first | omega | (simp only [List.length_set]; omega))⟩)
       ·
        have h11d := H6 h11
        refine Qr ?_
        refine Qa ?_
        refine rd' Qb Js [(15, .o 4736 (Zs s_ a3.2 s3.1))] [66] [] [] [(3, .row [.s a3.1, .h a3.2]), (7, .val (.o 0 (Zs s_ a3.2 s3.1)))] (o2 (Qy (X4 (i := ((k3 : Nat) : Int)) (by omega) rfl hx3)) (o1 (Qg (specSelectFiles_a s_ a3.2 s3.1)))) ?_
        refine Qa ?_
        refine wdT 9 0 (.own true 147356) s3.1 (fun hw13 => ?_)
        have hl14 : List.length s3.1 ≤ 1073741824 := Qx (hw13)
        have hx12 : s3.1[k3]? = some (nth s3.1 k3) := Yj (by omega)
        refine rk Qb [(82, .b (!(Kb (Zs s_ a3.2 s3.1) ((nth s3.1 k3).2))))] [] [] [] [(3, .rowE [.s ((nth s3.1 k3).1), .h ((nth s3.1 k3).2)]), (6, .val (.b (Kb (Zs s_ a3.2 s3.1) ((nth s3.1 k3).2))))] (o2 (Qy (X4 (i := ((k3 : Nat) : Int)) (by omega) rfl hx12)) (o1 (Qg (specl07Ints_a (Zs s_ a3.2 s3.1) ((nth s3.1 k3).2))))) ?_
        refine ck (!(Kb (Zs s_ a3.2 s3.1) ((nth s3.1 k3).2))) (fun h15 => ?_) (fun h15 => ?_)
        ·
         have h15n : (Kb (Zs s_ a3.2 s3.1) ((nth s3.1 k3).2)) = false := Ug h15
         refine Qa ?_
         refine rk Qb [(9, .one (.slc (.own true 147356) 2 (setRow (eL s3.1) k3 1 [.h (Zs s_ a3.2 s3.1)])))] [9, 15, 82] [] [] [(3, .rowE [.s ((nth s3.1 k3).1), .h ((nth s3.1 k3).2)])] (o1 (Qy (X4 (i := ((k3 : Nat) : Int)) (by omega) rfl hx12))) ?_
         refine eqn [(9, .o 147356 (List.set s3.1 k3 ((nth s3.1 k3).1, (Zs s_ a3.2 s3.1))))] [9] [] [] (by rw [K0 (y := ((nth s3.1 k3).1, (Zs s_ a3.2 s3.1))) hx12 rfl]; first | done | kernel_rfl) ?_
         refine rk Qb [(13, .b true)] [13] [] [] [] (o0) ?_
         refine rk Qb [(14, .i ((k3 + 1 : Nat) : Int))] [14] [] [] [(1, .val (.i ((k3 + 1 : Nat) : Int)))] (o1 (Qi (Km (Q8 k3 (by omega))))) ?_
         exact Exists.intro (List.set s3.1 k3 ((nth s3.1 k3).1, (Zs s_ a3.2 s3.1)), true) (And.intro (Qd (by kernel_rfl)) ⟨Xe hx3 (Q6 h11 (X8 h15 (rfl))) hI3.1, (by first | omega | (simp only [List.length_set]; omega))⟩)
        ·
         have h15n : (Kb (Zs s_ a3.2 s3.1) ((nth s3.1 k3).2)) = true := Jn h15
         refine Qr ?_
         refine rk Qb [(14, .i ((k3 + 1 : Nat) : Int))] [14, 15, 82] [] [] [(1, .val (.i ((k3 + 1 : Nat) : Int)))] (o1 (Qi (Km (Q8 k3 (by omega))))) ?_
         exact Exists.intro (s3.1, s3.2) (And.intro (Qd (by kernel_rfl)) ⟨Xe hx3 (Q6 h11 (Q6 h15 (rfl))) hI3.1, (by first | omega | (simp only [List.length_set]; omega))⟩)
      ·
       have hA3_0 := hI3.2
       refine Qa ?_
       refine Qa ?_
       refine rk Qb [(58, .b false)] [] [] [] [(2, .val (.i (d.length : Int))), (3, .val (.b false))] (o2 (Qi (Xs d)) (o1 (Qi (Qh (decide_eq_false (p := ((k3 : Nat) : Int) < (d.length : Int)) (by omega)))))) ?_
       refine ckF ?_
       refine Xt ?_
       exact Exists.intro (s3.1, s3.2) (And.intro (Qd (by kernel_rfl)) ⟨Ym hk3 (rfl) hI3.1, by first | omega | (simp only [List.length_set]; omega)⟩)
      ·
       have hD3_0 := hD3.2
       exact Exists.intro (y3.1, IntKind.i64.wrap (s2.2.1 + 1), y3.2) (And.intro (Qd (by kernel_rfl)) ⟨whl_next (X8 h7 (Hk hD3.1 (rfl))) hI2.1, (by first | omega | (simp only [List.length_set]; omega))⟩)
     ·
      refine Xt ?_
      exact Exists.intro (s2.1, s2.2.1) (And.intro (Qd (by kernel_rfl)) (whl_brk (Q6 h7 (rfl)) hI2.1))
    ·
     refine rk Qb [(12, .i ((k1 + 1 : Nat) : Int))] [12] [] [] [(1, .val (.i ((k1 + 1 : Nat) : Int)))] (o1 (Qi (Km (Q8 k1 (by omega))))) ?_
     exact Exists.intro (y2.1, y2.2) (And.intro (Qd (by kernel_rfl)) ⟨Vh hk1 (Hk hD2 (rfl)) hI1.1, (by first | exact Qft (by assumption) (by assumption) (by assumption) | exact Qdw (fs := s_.2.1) (Qft (by assumption) (by assumption) (by assumption))), (by first | exact Qft (by assumption) (by assumption) (by assumption) | exact Qdw (fs := s_.2.1) (Qft (by assumption) (by assumption) (by assumption)))⟩)
   ·
    have hA1_0 := hI1.2.1
    have hA1_1 := hI1.2.2
    refine Qa ?_
    refine Qa ?_
    refine rk Qb [(49, .b false)] [] [] [] [(2, .val (.i (J8 d))), (3, .val (.b false))] (o2 (Qg (Qfz d)) (o1 (Qi (Qh (decide_eq_false (p := ((k1 : Nat) : Int) ≤ (J8 d)) (by omega)))))) ?_
    refine ckF ?_
    refine Xt ?_
    exact Exists.intro (s1.1, s1.2) (And.intro (Qd (by kernel_rfl)) (Qbu hk1 (rfl) hI1.1))
   ·
    refine Qa ?_
    refine rk Qb [(4, .o 147356 y1.1), (5, .i y1.2), (6, .b true)] [4, 5, 6, 9, 11] [] [] [] (o0) ?_
    refine Qq ?_
    exact Ze [] (congrArg (fun z => (.tup [(false, [.o 0 z.1]), (false, [.i z.2.1]), (false, [.b z.2.2])] : AV)) (show Vx s_ d = (y1.1, y1.2, true) from Q6 h2 (Hk hD0 (Hk hD1 (rfl)))).symm)
def Ve (s_ : Zp) (d : (List Zt)) : (List Qs) × Bool := (((Vx s_ d)).1, ((Vx s_ d)).2.2)
theorem specEvaluate_a (s_ : Zp) (d : (List Zt)) : ACalls Tryz.prog 42 [.a [.h s_.1, .h s_.2.1, .i s_.2.2], .h d] (.tup [(false, [.o 0 (((Ve s_ d)).1)]), (false, [.b (((Ve s_ d)).2)])]) := by
 refine Qt (tt := tt) Qb Tryz.func42 (fn := Tryz.f42) rfl (by unfold Jr; kernel_rfl) (Nat.le_of_ble_eq_true rfl) fun w0 F0 hG => ?_
 refine Qa ?_
 refine rk Qb [(2, .p 2 0), (4, .e 0), (5, .b false)] [0] [(2, [.h s_.1, .h s_.2.1, .i s_.2.2])] [] [] (o0) ?_
 refine Qa ?_
 refine rk Qb [(6, .o 768 (((Vx s_ d)).1)), (8, .b (((Vx s_ d)).2.2))] [1, 2] [] [2] [(2, .val (.tup [(false, [.o 0 (((Vx s_ d)).1)]), (false, [.i (((Vx s_ d)).2.1)]), (false, [.b (((Vx s_ d)).2.2)])]))] (o1 (Qg (specl15Run_a s_ d))) ?_
 refine Qa ?_
 refine rk Qb [(4, .o 768 (((Vx s_ d)).1)), (5, .b (((Vx s_ d)).2.2))] [4, 5, 6, 8] [] [] [] (o0) ?_
 refine Qq ?_
 exact Ze [] (congrArg (fun z => (.tup [(false, [.o 0 z.1]), (false, [.b z.2])] : AV)) (show Ve s_ d = (((Vx s_ d)).1, ((Vx s_ d)).2.2) from rfl).symm)
end Go.Proofs.YtamghcfmhfknmaaGreat
namespace Go.Proofs.YtamghcfmhfknmaaGreat
open Go.RowKit
theorem contains_iff (v : ByteArray) (l : List ByteArray) : Q0 l v = true ↔ v ∈ l := by
  unfold Q0 Kv
  have key : ∀ (l : List ByteArray) (k : Nat), (0 : Int) ≤ ((Xv (Kj v) Vd l k ()).on fun _ => -1) ↔ v ∈ l := by
    intro l
    induction l with
    | nil => intro k; simp [Xv, Out.on]
    | cons a l ih =>
      intro k
      simp only [Xv, Kj]
      have hab : (v.toList == a.toList) = decide (v = a) := toList_inj
      cases hc : (v.toList == a.toList) with
      | true =>
        obtain rfl : v = a := by rw [hc] at hab; exact of_decide_eq_true hab.symm
        simp [Out.on]
      | false =>
        have h : v ≠ a := by rw [hc] at hab; exact of_decide_eq_false hab.symm
        simp only [cond_false]
        refine (ih (k + 1)).trans ?_
        simp [h]
  exact decide_eq_true_iff.trans (key l 0)
theorem dirNames_eq (d : List Zt) : Q3 d = d.map (·.1) := by
  unfold Q3
  rw [forL_map (f := Qa0) (g := fun a : Zt => a.1) (fun _ _ _ => rfl)]
  simp [Out.on, Qa1]
theorem contains_dir {d : List Zt} {i : Nat} {a : Zt} (h : d[i]? = some a) : Q0 (Q3 d) a.1 = true := by
  rw [contains_iff, dirNames_eq]
  exact List.mem_map.2 ⟨a, List.mem_of_getElem? h, rfl⟩
/-! ### the greatest stratum -/
/-! ### the evaluation -/
theorem evaluated_ok {s : Zp} {d : List Zt} {names : List ByteArray} {r : List Qs} (h : (Yb s d r names).2.2 = true) : List.length d ≤ 5 ∧ Xb s = true ∧ (Yb s d r names).1.map (·.1) = d.map (·.1) ∧ ∀ j, j < d.length → onD d names j = true → ∃ p : Zb → Bool, (nth (Yb s d r names).1 j).2 = sel s.2.1 (fun f => f.1) p := by
  unfold Yb at h ⊢
  cases hc : ((!(((Qz d)).2)) || (!(Xb s))) with
  | true => rw [hc] at h; simp at h
  | false =>
    have hs : ((Qz d)).2 = true := Jn (or_l hc)
    have hv : Xb s = true := Jn (or_r hc)
    simp only [cond_false]
    obtain ⟨h1, h2⟩ := ev_start (L := ((Qz d)).1) (on := onD d names) (fs := s.2.1) (g := startG r names) (f := K6 r names) (e := V2) (d := d) (fun k a s => by
      unfold K6 startG
      cases Q0 names a.1 <;> rfl) (fun j _ hj => by unfold onD at hj; unfold startG; rw [hj]; rfl)
    rw [h1]
    have key : ∀ (n k : Nat) (o : List Qs) (p : Int), EvS d ((Qz d)).1 (onD d names) s.2.1 (((k : Nat)) : Int) o → ∃ o' p', Hu (Uw s d names) Qae n k (o, p) = .brk (o', p') ∧ EvS d ((Qz d)).1 (onD d names) s.2.1 (((k + n : Nat)) : Int) o' := by
      intro n
      induction n with
      | zero => intro k o p ho; exact ⟨o, p, rfl, ho⟩
      | succ n ih =>
        intro k o p ho
        obtain ⟨o1, p1, g1, g2⟩ := Qfs (p := p) hs ho
        obtain ⟨o2, p2, g3, g4⟩ := ih (k + 1) o1 p1 (by rw [Int.natCast_add]; exact g2)
        refine ⟨o2, p2, ?_, by rw [show k + (n + 1) = k + 1 + n by omega]; exact g4⟩
        simp only [Hu]
        unfold Uw whlD
        rw [g1]
        exact g3
    obtain ⟨o, p, g1, g2⟩ := key (Int.toNat (Jq d + 1)) 0 _ 0 h2
    simp only [Out.on, V2]
    rw [g1]
    exact ⟨(Qer hs).2.1, hv, g2.names, fun j hj hon => g2.some_ j hj hon⟩
theorem evaluate_ok {s : Zp} {d : List Zt} (h : (Z3 s d).2 = true) : List.length d ≤ 5 ∧ Xb s = true ∧ (Z3 s d).1.map (·.1) = d.map (·.1) ∧ ∀ x, x ∈ (Z3 s d).1 → ∃ p : Zb → Bool, x.2 = sel s.2.1 (fun f => f.1) p := by
  unfold Z3 at h ⊢
  obtain ⟨h1, h2, h3, h4⟩ := evaluated_ok h
  refine ⟨h1, h2, h3, fun x hx => ?_⟩
  obtain ⟨i, hi⟩ := List.getElem?_of_mem hx
  have hlen : (Yb s d [] (Q3 d)).1.length = d.length := by have := congrArg List.length h3; simpa using this
  have hi' : i < (Yb s d [] (Q3 d)).1.length := (List.getElem?_eq_some_iff.1 hi).1
  have hil : i < d.length := by omega
  have := h4 i hil (by unfold onD; exact contains_dir (Yj hil))
  rw [nth_of hi] at this
  exact this
open GoE (enc wide)
def Ql (f : Zb) : Zb := f
theorem Qde (f : Zb) : ACalls Tryz.prog 131 [.a [.i f.1, .i f.2.1, .b f.2.2.1, .i f.2.2.2.1, .h f.2.2.2.2]] (.a [.i ((Ql f).1), .i ((Ql f).2.1), .b ((Ql f).2.2.1), .i ((Ql f).2.2.2.1), .o 0 ((Ql f).2.2.2.2)]) := by
 refine Qt (tt := tt) Qb Tryz.func131 (fn := Tryz.f131) rfl (by unfold Jr; kernel_rfl) (Nat.le_of_ble_eq_true rfl) fun w0 F0 hG => ?_
 refine Qa ?_
 refine rk Qb [(1, .p 1 0), (2, .p 2 0)] [0] [(1, [.i f.1, .i f.2.1, .b f.2.2.1, .i f.2.2.2.1, .h f.2.2.2.2]), (2, [.i 0, .i 0, .b false, .i 0, .e 4])] [] [] (o0) ?_
 refine Qa ?_
 refine rk Qb [] [] [(1, [.i f.1, .i f.2.1, .b f.2.2.1, .i f.2.2.2.1, .o 320 f.2.2.2.2])] [1] [(2, .val (.o 0 f.2.2.2.2))] (o1 (Qg (cloneAttr_a f.2.2.2.2))) ?_
 refine Qa ?_
 refine rk Qb [] [1] [(2, [.i f.1, .i f.2.1, .b f.2.2.1, .i f.2.2.2.1, .o 320 f.2.2.2.2])] [1, 2] [] (o0) ?_
 refine Qq ?_
 exact Ze [] (congrArg (fun z => (.a [.i z.1, .i z.2.1, .b z.2.2.1, .i z.2.2.2.1, .o 0 z.2.2.2.2] : AV)) (show Ql f = f from rfl).symm)
def Qa2 (f : Zb) (q0 : Int) : Bool := (f.1 == q0)
theorem implfileAt_1_a (f : Zb) (q0 : Int) : ACalls Tryz.prog 181 [.a [.i f.1, .i f.2.1, .b f.2.2.1, .i f.2.2.2.1, .h f.2.2.2.2], .one (.rptr .sh [.i q0])] (.b (Qa2 f q0)) := by
 refine Qt (tt := tt) Qb Tryz.func181 (fn := Tryz.f181) rfl (by unfold Jr; kernel_rfl) (Nat.le_of_ble_eq_true rfl) fun w0 F0 hG => ?_
 refine Qa ?_
 refine rk Qb [(2, .p 2 0), (3, .b false)] [0] [(2, [.i f.1, .i f.2.1, .b f.2.2.1, .i f.2.2.2.1, .h f.2.2.2.2])] [] [] (o0) ?_
 refine Qa ?_
 refine rk Qb [(3, .b (f.1 == q0))] [1, 2, 3] [] [2] [] (o0) ?_
 refine Qq ?_
 exact Ze [] (congrArg (fun z => (.b z : AV)) (show Qa2 f q0 = (f.1 == q0) from rfl).symm)
def Yz (c0 : Int) (k0 : Nat) (a0 : Zb) (_ : Unit) : Rd (Int) (Unit) (Unit) := (bif (Qa2 a0 c0) then (.ret ((k0 : Nat) : Int)) else (.next ()))
def Za (_ : Nat) (_ : Unit) : Unit := ()
def Y7 (s_ : (List Zb)) (c0 : Int) : Int := (Out.on (Xv (Yz c0) Za s_ 0 ()) (fun _ => -1))
theorem Qb6 (s_ : (List Zb)) (c0 : Int) : ACalls Tryz.prog 180 [.h s_, .one (.fnr 181 [[.i c0]])] (.i (Y7 s_ c0)) := by
 refine Qt (tt := tt) Qb Tryz.func180 (fn := Tryz.f180) rfl (by unfold Jr; kernel_rfl) (Nat.le_of_ble_eq_true rfl) fun w0 F0 hG => ?_
 refine Qa ?_
 refine rk Qb [(4, .i 0)] [] [] [] [] (o0) ?_
 refine Qa ?_
 refine Qa ?_
 refine rk Qb [(7, .i (s_.length : Int)), (8, .i 0)] [] [] [] [(1, .val (.i (s_.length : Int)))] (o1 (Qi (Xs s_))) ?_
 refine wdT 0 0 .sh s_ (fun hw1 => ?_)
 have hl2 : List.length s_ ≤ 1073741824 := Qx (hw1)
 refine blk (fun (k0 : Nat) (s0 : Unit) => [(8, .i ((k0 : Nat) : Int))]) [8] (fun k0 s0 => []) [] (fun (y0 : Unit) => []) [0, 1, 7, 8] (fun y0 => []) [] (fun (k0 : Nat) (s0 : Unit) => (Xv (Yz c0) Za s_ 0 ()) = Xv (Yz c0) Za (List.drop k0 s_) k0 s0) (fun (y0 : Unit) => (Xv (Yz c0) Za s_ 0 ()) = .brk y0) s_.length () (Qd (by kernel_rfl)) rfl (fun k0 s0 hk0 hI0 => ?_) (fun k0 s0 hk0 hI0 => ?_) (fun y0 hD0 => ?_)
 ·
  obtain ⟨a0, hx0⟩ := Yl (l := s_) (i := k0) hk0
  refine Qa ?_
  refine rk Qb [(9, .b true)] [] [] [] [(0, .val (.b true))] (o1 (Qi (Qh (decide_eq_true (p := ((k0 : Nat) : Int) < (s_.length : Int)) (by omega))))) ?_
  refine Qa ?_
  refine ckT ?_
  refine Qr ?_
  refine Qa ?_
  refine Xf ?_
  refine Qa ?_
  refine rk Qb [(5, .i ((k0 : Nat) : Int))] [9] [] [] [] (o0) ?_
  refine Qa ?_
  refine rk Qb [(16, .b (Qa2 a0 c0))] [] [] [] [(3, .row [.i a0.1, .i a0.2.1, .b a0.2.2.1, .i a0.2.2.2.1, .h a0.2.2.2.2]), (5, .val (.b (Qa2 a0 c0)))] (o2 (Qy (X4 (i := ((k0 : Nat) : Int)) (by omega) rfl hx0)) (o1 (Qg (implfileAt_1_a a0 c0)))) ?_
  refine ck (Qa2 a0 c0) (fun h3 => ?_) (fun h3 => ?_)
  ·
   refine Qa ?_
   refine rk Qb [(4, .i ((k0 : Nat) : Int))] [4, 5, 16] [] [] [] (o0) ?_
   refine Qq ?_
   have hr4 : (Xv (Yz c0) Za s_ 0 ()) = .ret ((k0 : Nat) : Int) := Jy hx0 (X8 h3 (rfl)) hI0
   exact Ze [] (congrArg (fun z => (.i z : AV)) (show Y7 s_ c0 = ((k0 : Nat) : Int) from on_r hr4).symm)
  ·
   refine Qr ?_
   refine rk Qb [(8, .i ((k0 + 1 : Nat) : Int))] [5, 8, 16] [] [] [(0, .val (.i ((k0 + 1 : Nat) : Int)))] (o1 (Qi (Km (Q8 k0 (by omega))))) ?_
   exact Exists.intro () (And.intro (Qd (by kernel_rfl)) (Xe hx0 (Q6 h3 (rfl)) hI0))
 ·
  refine Qa ?_
  refine rk Qb [(9, .b false)] [] [] [] [(0, .val (.b false))] (o1 (Qi (Qh (decide_eq_false (p := ((k0 : Nat) : Int) < (s_.length : Int)) (by omega))))) ?_
  refine Qa ?_
  refine ckF ?_
  refine Xt ?_
  exact Exists.intro () (And.intro (Qd (by kernel_rfl)) (Ym hk0 (rfl) hI0))
 ·
  refine Qa ?_
  refine rk Qb [(4, .i (-1))] [4] [] [] [] (o0) ?_
  refine Qq ?_
  exact Ze [] (congrArg (fun z => (.i z : AV)) (show Y7 s_ c0 = -1 from Hk hD0 (rfl)).symm)
def Xn (s_ : Zp) (id : Int) : Int := (Y7 s_.2.1 id)
theorem implfileAt_a (s_ : Zp) (id : Int) : ACalls Tryz.prog 130 [.a [.h s_.1, .h s_.2.1, .i s_.2.2], .i id] (.i (Xn s_ id)) := by
 refine Qt (tt := tt) Qb Tryz.func130 (fn := Tryz.f130) rfl (by unfold Jr; kernel_rfl) (Nat.le_of_ble_eq_true rfl) fun w0 F0 hG => ?_
 refine Qa ?_
 refine rk Qb [(2, .p 2 0), (3, .p 3 0), (4, .i 0)] [0, 1] [(2, [.h s_.1, .h s_.2.1, .i s_.2.2]), (3, [.i id])] [] [] (o0) ?_
 refine Qa ?_
 refine rk Qb [(4, .i (Y7 s_.2.1 id))] [2, 3, 4] [] [2, 3] [(3, .val (.i (Y7 s_.2.1 id)))] (o1 (Qg (Qb6 s_.2.1 id))) ?_
 refine Qq ?_
 exact Ze [] (congrArg (fun z => (.i z : AV)) (show Xn s_ id = (Y7 s_.2.1 id) from rfl).symm)
def Z0 (f : Zb) : Zb := f
theorem specl04Copy_a (f : Zb) : ACalls Tryz.prog 72 [.a [.i f.1, .i f.2.1, .b f.2.2.1, .i f.2.2.2.1, .h f.2.2.2.2]] (.a [.i ((Z0 f).1), .i ((Z0 f).2.1), .b ((Z0 f).2.2.1), .i ((Z0 f).2.2.2.1), .o 0 ((Z0 f).2.2.2.2)]) := by
 refine Qt (tt := tt) Qb Tryz.func72 (fn := Tryz.f72) rfl (by unfold Jr; kernel_rfl) (Nat.le_of_ble_eq_true rfl) fun w0 F0 hG => ?_
 refine Qa ?_
 refine rk Qb [(1, .p 1 0), (2, .p 2 0)] [0] [(1, [.i f.1, .i f.2.1, .b f.2.2.1, .i f.2.2.2.1, .h f.2.2.2.2]), (2, [.i 0, .i 0, .b false, .i 0, .e 4])] [] [] (o0) ?_
 refine Qa ?_
 refine wdB 1 4 .sh f.2.2.2.2 (fun hw1 => ?_)
 have hl2 : List.length f.2.2.2.2 ≤ 1073741824 := Qx (hw1)
 refine rk Qb [] [] [(1, [.i f.1, .i f.2.1, .b f.2.2.1, .i f.2.2.2.1, .o 384 f.2.2.2.2])] [1] [(3, .flat)] (o2 (V9 (n := (([] : List (List PV)).length + ((eL f.2.2.2.2) : List (List PV)).length)) (Wi (rfl) (Xm f.2.2.2.2) (by first | omega | (simp only [List.length_cons, List.length_nil]; omega) | (simp; omega) | simp))) (o1 (Qeb (Qdu f.2.2.2.2)))) ?_
 refine Qa ?_
 refine rk Qb [] [1] [(2, [.i f.1, .i f.2.1, .b f.2.2.1, .i f.2.2.2.1, .o 384 f.2.2.2.2])] [1, 2] [] (o0) ?_
 refine Qq ?_
 exact Ze [] (congrArg (fun z => (.a [.i z.1, .i z.2.1, .b z.2.2.1, .i z.2.2.2.1, .o 0 z.2.2.2.2] : AV)) (show Z0 f = f from rfl).symm)
end Go.Proofs.YtamghcfmhfknmaaGreat
namespace Go.Proofs.YtamghcfmhfknmaaGreat
open Go.RowKit
theorem store12 {s : Zp} (h : Xb s = true) : s.2.1.length ≤ 12 := by
  unfold Xb at h
  cases hf : Xv (Zw s) J5 s.2.1 0 () with
  | brk t =>
    rw [hf] at h
    simp only [Out.on, Bool.and_eq_true, decide_eq_true_eq] at h
    omega
  | ret r =>
    rw [hf] at h
    obtain rfl : r = true := h
    exfalso
    have key : ∀ (l : List Zb) k, Xv (Zw s) J5 l k () ≠ .ret true := by
      intro l
      induction l with
      | nil => intro k h; simp [Xv] at h
      | cons a l ih =>
        intro k h
        simp only [Xv] at h
        unfold Zw at h
        split at h
        · rename_i hf; exact ih _ h
        · cases h
        · rename_i r hf; cases h; revert hf; generalize (_ || _ : Bool) = c; cases c <;> simp
    exact key _ _ hf
end Go.Proofs.YtamghcfmhfknmaaGreat
namespace Go.Proofs.YtamghcfmhfknmaaGreat
open Go.RowKit
theorem fat_go (n : Int) : ∀ (l : List Zb) (k : Nat), Xv (Yz n) Za l k () = .brk () ∨ ∃ i : Nat, i < l.length ∧ Xv (Yz n) Za l k () = .ret (((k + i : Nat)) : Int)
  | [], _ => .inl rfl
  | a :: l, k => by
    simp only [Xv, Yz]
    cases (Qa2 a n) with
    | true => exact .inr ⟨0, by simp, rfl⟩
    | false =>
      simp only [cond_false]
      rcases fat_go n l (k + 1) with h | ⟨i, hi, h⟩
      · exact .inl h
      · exact .inr ⟨i + 1, by simpa using hi, by rw [h, show k + 1 + i = k + (i + 1) by omega]⟩
theorem fat_lt (s : Zp) (n : Int) : -1 ≤ Xn s n ∧ Xn s n < (List.length s.2.1 : Int) := by
  unfold Xn Y7
  rcases fat_go n s.2.1 0 with h | ⟨i, hi, h⟩
  · rw [h]; simp only [Out.on]; omega
  · rw [h]; simp only [Out.on]; omega
end Go.Proofs.YtamghcfmhfknmaaGreat
namespace Go.Proofs.YtamghcfmhfknmaaGreat
theorem nodup_le {α : Type} [DecidableEq α] : ∀ {l N : List α}, l.Nodup → (∀ x, x ∈ l → x ∈ N) → l.length ≤ N.length
  | [], _, _, _ => Nat.zero_le _
  | a :: l, N, hn, hs => by
    have hn' := List.nodup_cons.1 hn
    have ha := hs a (List.mem_cons_self ..)
    have h := nodup_le (l := l) (N := N.erase a) hn'.2 fun x hx => (List.mem_erase_of_ne (fun e : x = a => hn'.1 (by rw [← e]; exact hx))).2 (hs x (List.mem_cons_of_mem _ hx))
    rw [List.length_erase_of_mem ha] at h
    have : 0 < N.length := List.length_pos_of_mem ha
    rw [List.length_cons]
    omega
def Fresh {α : Type} (N out out' : List α) : Prop := ∃ new : List α, out' = out ++ new ∧ new.Nodup ∧ ∀ x, x ∈ new → x ∉ out ∧ x ∈ N
theorem Fresh.refl {α : Type} (N out : List α) : Fresh N out out := ⟨[], by simp, List.nodup_nil, by simp⟩
theorem Fresh.one {α : Type} {N out : List α} {x : α} (h1 : x ∉ out) (h2 : x ∈ N) : Fresh N out (out ++ [x]) := ⟨[x], rfl, by simp, by simp [h1, h2]⟩
theorem Fresh.trans {α : Type} {N a b c : List α} (h : Fresh N a b) (k : Fresh N b c) : Fresh N a c := by
  obtain ⟨p, rfl, h1, h2⟩ := h
  obtain ⟨q, rfl, k1, k2⟩ := k
  refine ⟨p ++ q, by rw [List.append_assoc], List.nodup_append.2 ⟨h1, k1, fun x hx y hy e => ?_⟩, fun x hx => ?_⟩
  · subst e
    exact (k2 _ hy).1 (List.mem_append_right _ hx)
  · rcases List.mem_append.1 hx with hx | hx
    · exact h2 x hx
    · exact ⟨fun h => (k2 x hx).1 (List.mem_append_left _ h), (k2 x hx).2⟩
theorem fresh_len {α : Type} [DecidableEq α] {N a b : List α} (h : Fresh N a b) : b.length ≤ a.length + N.length := by
  obtain ⟨new, rfl, h1, h2⟩ := h
  have := nodup_le h1 fun x hx => (h2 x hx).2
  rw [List.length_append]
  omega
theorem work_go {α R T : Type} [DecidableEq α] {N names : List α} {f : List α × Int → Rd R (List α × Int) T}
    (hf : ∀ out i s', 0 ≤ i → out.length ≤ names.length + N.length → f (out, i) = .next s' → i < (out.length : Int) ∧ s'.2 = i + 1 ∧ Fresh N out s'.1) : ∀ (n : Nat) (out : List α) (i : Int), 0 ≤ i → Fresh N names out → (names.length : Int) + N.length ≤ i + n → (whl f (n + 1) (out, i)).isSome = true
  | n, out, i, h0, hF, hn => by
    simp only [whl]
    cases hc : f (out, i) with
    | brk t => rfl
    | ret r => rfl
    | next s' =>
      have hl := fresh_len hF
      obtain ⟨h1, h2, h3⟩ := hf out i s' h0 hl hc
      cases n with
      | zero => omega
      | succ n =>
        obtain ⟨o', i'⟩ := s'
        obtain rfl : i' = i + 1 := h2
        exact work_go hf n o' (i + 1) (by omega) (hF.trans h3) (by omega)
theorem work_some {α R T : Type} [DecidableEq α] {N names : List α} {f : List α × Int → Rd R (List α × Int) T}
    (hf : ∀ out i s', 0 ≤ i → out.length ≤ names.length + N.length → f (out, i) = .next s' → i < (out.length : Int) ∧ s'.2 = i + 1 ∧ Fresh N out s'.1) : (whl f (List.length names + List.length N + 1) (names, 0)).isSome = true :=
  work_go hf _ names 0 (Int.le_refl 0) (Fresh.refl N names) (by omega)
end Go.Proofs.YtamghcfmhfknmaaGreat
namespace Go.Proofs.YtamghcfmhfknmaaGreat
open Go.RowKit
theorem adj_pair {l : List ByteArray} (h : ∀ i, i + 1 < l.length → bl (nth l i) (nth l (i + 1)) = true) : ascS l := by
  have key : ∀ j i, i < j → j < l.length → bl (nth l i) (nth l j) = true := by
    intro j
    induction j with
    | zero => intro i hi; omega
    | succ j ih =>
      intro i hi hj
      by_cases e : i = j
      · subst e; exact h i hj
      · exact bl_trans (ih i (by omega) (by omega)) (h j hj)
  unfold ascS
  rw [List.pairwise_iff_getElem]
  intro i j hi hj hij
  have := key j i hij hj
  simpa [nth, List.getD, hi, hj] using this
theorem asc_nodup {l : List ByteArray} (h : ascS l) : l.Nodup := h.imp fun {a b} hab e => by
  subst e
  rw [bl_irr] at hab
  cases hab
theorem fk_mem (n : ByteArray) : ∀ (l : List Kc) (k : Nat), Out.on (Xv (Ws n) Uu l k ()) (fun _ => 0) ≠ 0 → n ∈ l.map (·.1)
  | [], _, h => by simp [Xv, Out.on] at h
  | a :: l, k, h => by
    simp only [Xv, Ws] at h
    cases hc : (a.1.toList == n.toList) with
    | true =>
      rw [toList_inj] at hc
      have : a.1 = n := of_decide_eq_true hc
      rw [← this]; simp
    | false =>
      rw [hc] at h
      simp only [cond_false] at h
      exact List.mem_cons_of_mem _ (fk_mem n l (k + 1) h)
theorem schema5 {s : List Kc} (h : Zv s = true) : s.length ≤ 5 := by
  unfold Zv at h
  cases hf : Xv (Ka s) Kr s 0 () with
  | brk t =>
    rw [hf] at h
    simp only [Out.on, decide_eq_true_eq] at h
    omega
  | ret r =>
    rw [hf] at h
    obtain rfl : r = true := h
    exfalso
    have key : ∀ (l : List Kc) k, Xv (Ka s) Kr l k () ≠ .ret true := by
      intro l
      induction l with
      | nil => intro k h; simp [Xv] at h
      | cons a l ih =>
        intro k h
        simp only [Xv] at h
        unfold Ka at h
        split at h
        · rename_i hf; exact ih _ h
        · cases h
        · rename_i r hf; cases h; revert hf; generalize (_ || _ : Bool) = c; cases c <;> simp
    exact key _ _ hf
theorem vfile_run {s : List Kc} {f : Zb} (h : Yc s f = true) : (∃ t, Xv (Jk s f) Kt f.2.2.2.2 0 () = .brk t) ∧ Zv s = true := by
  unfold Yc at h
  cases hl : Xv (Jk s f) Kt f.2.2.2.2 0 () with
  | brk t =>
    rw [hl] at h
    simp only [Out.on, Bool.and_eq_true] at h
    exact ⟨⟨t, rfl⟩, h.2.2.2⟩
  | ret r =>
    rw [hl] at h
    obtain rfl : r = true := h
    exfalso
    have key : ∀ (l : List AttrD) k, Xv (Jk s f) Kt l k () ≠ .ret true := by
      intro l
      induction l with
      | nil => intro k h; simp [Xv] at h
      | cons a l ih =>
        intro k h
        simp only [Xv] at h
        unfold Jk at h
        split at h
        · rename_i hf; exact ih _ h
        · cases h
        · rename_i r hf; cases h; revert hf; generalize (bif decide (((k : Nat) : Int) > (0 : Int)) then _ else _ : Bool) = c; cases c <;> simp
    exact key _ _ hl
theorem vfile_attrs {s : List Kc} {f : Zb} (h : Yc s f = true) : List.length f.2.2.2.2 ≤ 5 := by
  obtain ⟨⟨t, hl⟩, hs⟩ := vfile_run h
  have hat : ∀ i a, f.2.2.2.2[i]? = some a → (0 < i → bl (nth f.2.2.2.2 (i - 1)).1 a.1 = true) ∧ Zu s a.1 a.2 = true := fun i a hi => by
    have := forL_all (fun k a t => by unfold Jk; generalize (bif decide (((k : Nat) : Int) > (0 : Int)) then _ else _ : Bool) = c; cases c <;> simp) hl i a hi
    rw [Nat.zero_add] at this
    unfold Jk at this
    cases hm : Zu s a.1 a.2 with
    | false => rw [hm] at this; simp at this
    | true =>
      refine ⟨fun h0 => ?_, rfl⟩
      rw [hm, decide_eq_true (show ((i : Nat) : Int) > 0 by omega)] at this
      simp only [cond_true, Bool.not_true, Bool.or_false] at this
      rw [show Int.toNat (((i : Nat) : Int) - 1) = i - 1 by omega] at this
      cases hb : bl (nth f.2.2.2.2 (i - 1)).1 a.1 with
      | true => rfl
      | false =>
        unfold bl at hb
        rw [hb] at this
        simp at this
  have hasc : ascS (f.2.2.2.2.map (·.1)) := adj_pair fun i hi => by
    rw [List.length_map] at hi
    have := (hat (i + 1) _ (Yj hi)).1 (by omega)
    have e : ∀ j, j < f.2.2.2.2.length → nth (f.2.2.2.2.map (·.1)) j = (nth f.2.2.2.2 j).1 := fun j hj => by simp [nth, List.getD, hj]
    rw [e i (by omega), e (i + 1) hi]
    exact this
  have hsub : ∀ x, x ∈ f.2.2.2.2.map (·.1) → x ∈ s.map (·.1) := fun x hx => by
    obtain ⟨a, ha, rfl⟩ := List.mem_map.1 hx
    obtain ⟨i, hi⟩ := List.getElem?_of_mem ha
    have hm := (hat i a hi).2
    unfold Zu at hm
    simp only [Bool.and_eq_true, bne_iff_ne, beq_iff_eq] at hm
    exact fk_mem a.1 s 0 fun e => hm.2.1 (hm.2.2.trans e)
  have := nodup_le (asc_nodup hasc) hsub
  rw [List.length_map, List.length_map] at this
  have := schema5 hs
  omega
theorem vstore_file {s : Zp} (h : Xb s = true) {f : Zb} (hf : f ∈ s.2.1) : Yc s.1 f = true := by
  unfold Xb at h
  obtain ⟨i, hi⟩ := List.getElem?_of_mem hf
  cases hl : Xv (Zw s) J5 s.2.1 0 () with
  | brk t =>
    have := forL_all (fun k a t => by unfold Zw; generalize (_ || _ : Bool) = c; cases c <;> simp) hl i f hi
    unfold Zw at this
    cases hv : Yc s.1 f with
    | true => rfl
    | false => rw [hv] at this; simp at this
  | ret r =>
    rw [hl] at h
    obtain rfl : r = true := h
    exfalso
    have key : ∀ (l : List Zb) k, Xv (Zw s) J5 l k () ≠ .ret true := by
      intro l
      induction l with
      | nil => intro k h; simp [Xv] at h
      | cons a l ih =>
        intro k h
        simp only [Xv] at h
        unfold Zw at h
        split at h
        · rename_i hf; exact ih _ h
        · cases h
        · rename_i r hf; cases h; revert hf; generalize (_ || _ : Bool) = c; cases c <;> simp
    exact key _ _ hl
theorem vstore_attrs {s : Zp} (h : Xb s = true) {f : Zb} (hf : f ∈ s.2.1) : List.length f.2.2.2.2 ≤ 5 := vfile_attrs (vstore_file h hf)
end Go.Proofs.YtamghcfmhfknmaaGreat
namespace Go.Proofs.YtamghcfmhfknmaaGreat
open Go.RowKit
def takenJ (G : Nat → Prop) (L : List Nat) : Inj := ⟨G, fun k => if k = 63 then L else [], fun _ => 0⟩
theorem atake_of {P : Program} {tt : List (Nat × TI)} (htt : ttOk P tt = true) {f : Nat} {fn : Func} {c : Code} (hf : P.funcs[f]? = some fn) (hb : fn.body = some c) (hok : Jr P f) {n : Nat} {l l' : List (List PV)} {args : List AV}
    (hn : args.length + 1 ≤ fn.ntmps) (hk : ∀ x, x ∈ args → ∀ c, c ∈ x.cells → c.key = none ∧ c.bkeys = []) {t : Nat} (hr : fn.results.toList = [.tmp t])
    (h : ∀ w0 F0, GoodAt P w0 → AWP P fn.ntmps w0 F0 c (fun e s => (e = .ret ∨ e = .normal) ∧ ∃ k, get s.tm t = some (.one (.slc (.own false k) n l'))) (entry (.one (.slc (.own false 63) n l) :: args))) : ATake P f n l args true false l' := by
  refine ⟨hok, fun w F G L v vals hgood hFG hGF hGs hnd hLG hrow hargs => calls_of_wp hf hb ?_⟩
  have hlen := hargs.length
  have hGF := hGF rfl
  have hL0 : (takenJ G L).L 63 = L := by show (if 63 = 63 then L else []) = L; simp
  refine wp_mono (h ⟨w, fun b => b ∈ L, none⟩ G hgood (takenJ G L) _ w ?_) ?_
  · have hLk : ∀ k b, b ∈ (takenJ G L).L k → k = 63 ∧ b ∈ L := fun k b hm => by
      have hm : b ∈ (if k = 63 then L else []) := hm
      split at hm
      · rename_i e; exact ⟨e, hm⟩
      · simp at hm
    refine { below := Base.Keeps.refl _, nodef := rfl, size := ?_, fl := fun b hb => ⟨hGs b hb, .inl hb⟩, f0 := fun b hb => hb, nd := fun k => ?_, lo := fun k b hb => ⟨.inr (hLk k b hb).2, hLG b (hLk k b hb).2⟩, dj := fun k k' b hb hb' => (hLk k b hb).1.trans (hLk k' b hb').1.symm, bo := fun k c hc => by simp [entry, get] at hc, nb := .inl rfl, cb := (fun b hb => by cases hb), bi := fun k k' c c' hc => by simp [entry, get] at hc, tm := fun t v' hv => ?_ }
    · simp; omega
    · show (if k = 63 then L else [] : List Nat).Nodup
      split
      · exact hnd
      · exact List.nodup_nil
    · obtain ⟨_, ht⟩ := get_entry hv
      have hall : All2 (AR (takenJ G L) w) (v :: vals) (.one (.slc (.own false 63) n l) :: args) := by
        refine .cons ?_ ?_
        · show OwnTop G ((takenJ G L).L 63) w v n l
          rw [hL0]
          exact OwnTop.keep hrow (fun b hb => ⟨hFG b hb, rfl⟩) fun _ _ => rfl
        · have key : ∀ {vs : List Value} {ys : List AV}, All2 (AR (argJ G) w) vs ys → (∀ x, x ∈ ys → ∀ c, c ∈ x.cells → c.key = none ∧ c.bkeys = []) → All2 (AR (takenJ G L) w) vs ys := by
            intro vs ys ha
            induction ha with
            | nil => intro _; exact .nil
            | cons h1 _ ih =>
              intro hx
              refine .cons (h1.keep fun c hc => ?_) (ih fun x hm => hx x (List.mem_cons_of_mem _ hm))
              obtain ⟨e1, e2⟩ := hx _ (List.mem_cons_self ..) c hc
              exact ⟨fun b hb => ⟨hb, rfl⟩, (fun k hk => by rw [e1] at hk; cases hk), (fun k hk => by rw [e2] at hk; simp at hk)⟩
          exact key hargs hk
      obtain ⟨u, hu, hr⟩ := hall.get' ht
      have hlt : t < (v :: vals).length := (List.getElem?_eq_some_iff.1 hu).1
      have : ((v :: vals).toArray ++ Array.replicate (fn.ntmps - (v :: vals).toArray.size) undef).getD t undef = u := by
        rw [Array.getD_eq_getD_getElem?, Array.getElem?_append_left (by simpa using hlt)]
        simp at hu ⊢
        rw [hu]; rfl
      rw [this]
      exact hr
  · rintro e a' w' ⟨J', s', hR, he, k, hkk⟩
    have hres : ∃ u, (results fn a'.tmps).run P w' = .ok u w' ∧ AR J' w' u (.one (.slc (.own false k) n l')) := by
      obtain ⟨us, hrun, hall⟩ := resOf_ok (P := P) htt hR (rs := [.tmp t]) (vs := [.one (.slc (.own false k) n l')]) (by simp [resOf, hkk])
      rw [← hr] at hrun
      have hm : (fn.results.mapM (resRun a'.tmps)).run P w' = .ok us.toArray w' := by
        rw [Array.mapM_eq_mapM_toList]
        simp [hrun]
      have hgen : (results fn a'.tmps).run P w' = .ok (if h : us.toArray.size = 1 then us.toArray[0] else .tuple us.toArray) w' := by
        rw [results_eq]
        simp only [Sem.run_bind, hm, Result.andThen_ok, Sem.run_pure]
      cases hall with
      | cons h1 h2 =>
        cases h2
        exact ⟨_, by rw [hgen]; simp, h1⟩
    obtain ⟨u, h1, h2⟩ := hres
    have hT : TRet F L w n false l' (.returned u) w' := by
      refine ⟨u, rfl, fun m hm hmL => ⟨hR.below.os, hR.below.tape, hR.below.output, hR.below.size, fun j hj => hR.below.block j (by show j < w.heap.size; omega) fun hx => by have := hmL j hx; omega⟩, fun b hb hn => hR.below.block b hb hn, J'.L k, hR.nd k, fun b hb => ?_, ?_⟩
      · obtain ⟨h3, h4, _⟩ := hR.lo k b hb
        exact ⟨h4, h3⟩
      · have h2 : OwnTop J'.F (J'.L k) w' u n l' := h2
        refine OwnTop.keep h2 (fun b hb => ⟨?_, rfl⟩) fun _ _ => rfl
        obtain ⟨h3, h4⟩ := hR.fl b hb
        rcases h4 with h4 | h4 | h4
        · exact .inl (hGF b h4)
        · exact .inr ⟨.inl h4, h3, fun hm => (hR.lo k b hm).2.2 hb⟩
        · exact .inr ⟨.inr h4, h3, fun hm => (hR.lo k b hm).2.2 hb⟩
    rcases he with rfl | rfl
    · exact ⟨hR.nodef, u, h1, hT⟩
    · exact ⟨hR.nodef, u, h1, hT⟩
end Go.Proofs.YtamghcfmhfknmaaGreat
namespace Go.Proofs.YtamghcfmhfknmaaGreat
open Go.RowKit
theorem Qds {a : Act} {t u : Nat} {v : Value} (ht : t < a.tmps.size) : (a.put (some t) v).tmps.getD u undef = if u = t then v else a.tmps.getD u undef := by
  simp only [Act.put, Array.getD_eq_getD_getElem?, Array.getElem?_setIfInBounds]
  by_cases h : u = t
  · subst h; simp [ht]
  · simp [h, Ne.symm h]
theorem nbeq_false {a b : Nat} : Nat.beq a b = false ↔ ¬ a = b := by
  cases h : Nat.beq a b with
  | true => simp [Nat.eq_of_beq_eq_true h]
  | false => simp; exact Nat.ne_of_beq_eq_false h
theorem put_self {a : Act} {t : Nat} {v : Value} (h : a.tmps.getD t undef = v) (ht : t < a.tmps.size) : a.put (some t) v = a := by
  have e : a.tmps.setIfInBounds t v = a.tmps := by
    apply Array.ext
    · simp
    · intro i h1 h2
      rw [Array.getElem_setIfInBounds]
      split
      · rename_i e; subst e; rw [← h, Array.getD_eq_getD_getElem?, Array.getElem?_eq_getElem ht]; rfl
      · rfl
  show ({ a with tmps := a.tmps.setIfInBounds t v } : Act) = a
  rw [e]
theorem zeros_vc : ∀ {vs : List Value} {cs : List C}, Un vs cs = true → ∃ ps : List PV, ps.length = vs.length ∧ ∀ (X : Nat → Prop) (w : World), VC X w vs ps
  | [], [], _ => ⟨[], rfl, fun _ _ => .nil⟩
  | [], _ :: _, h => by simp [Un] at h
  | _ :: _, [], h => by simp [Un] at h
  | v :: vs, c :: cs, h => by
    simp only [Un, Bool.and_eq_true] at h
    obtain ⟨ps, h1, h2⟩ := zeros_vc h.2
    have hz := h.1
    unfold zeroOk at hz
    split at hz
    · rename_i k _ _ _
      simp only [Bool.and_eq_true, decide_eq_true_eq] at hz
      obtain ⟨⟨rfl, rfl⟩, rfl⟩ := hz
      exact ⟨.int k 0 :: ps, by simp [h1], fun X w => .cons (.int (by cases k <;> simp [InR, IntKind.min, IntKind.max, IntKind.bits, IntKind.signed])) (h2 X w)⟩
    · rename_i b _
      exact ⟨.bool b :: ps, by simp [h1], fun X w => .cons (.bool b) (h2 X w)⟩
    · rename_i s _
      have hs : s.size = 0 := by simp only [Bool.and_eq_true] at hz; exact Nat.eq_of_beq_eq_true hz.1
      exact ⟨.str s :: ps, by simp [h1], fun X w => .cons (.str (by rw [hs]; exact Nat.zero_le _)) (h2 X w)⟩
    · rename_i n
      exact ⟨.slc n [] :: ps, by simp [h1], fun X w => .cons (.emp none n (Nat.zero_le _)) (h2 X w)⟩
    · cases hz
theorem vr_zeros {X : Nat → Prop} {w : World} {n : Nat} {vs : List Value} {ps : List PV} (h : VC X w vs ps) (hn : ps.length = n) : ∀ m, VR X w n (List.replicate m vs).flatten (List.replicate m ps)
  | 0 => .nil n
  | m + 1 => by
    rw [List.replicate_succ, List.replicate_succ, List.flatten_cons]
    exact .cons h hn (vr_zeros h hn m)
theorem zero_cells {z : Array Value} {m : Nat} : (Builtin.zeroCells z m).toList = (List.replicate m z.toList).flatten := by
  have key : ∀ (l : List Value) (m : Nat), (List.range (m * l.length)).map (fun i => l[i % l.length]!) = (List.replicate m l).flatten := by
    intro l m
    induction m with
    | zero => simp
    | succ m ih =>
      rw [Nat.succ_mul, List.range_add, List.map_append, ih, List.replicate_succ', List.flatten_append]
      congr 1
      simp only [List.map_map, List.flatten_cons, List.flatten_nil, List.append_nil]
      apply List.ext_getElem
      · simp
      · intro i h1 h2
        simp only [List.length_map, List.length_range] at h1
        simp [Nat.mul_add_mod_self_right, Nat.mod_eq_of_lt h1, h2]
  rw [← key z.toList m]
  unfold Builtin.zeroCells
  rw [Array.toList_map, Array.toList_range]
  apply List.map_congr_left
  intro i _
  simp only [Array.length_toList, getElem!_def, Array.getElem?_toList]
theorem zero_one {vs : List Value} {cs : List C} (h : Un vs cs = true) : ∀ v, v ∈ vs → v.oneCell' = true := by
  induction vs generalizing cs with
  | nil => intro v hv; simp at hv
  | cons v vs ih =>
    cases cs with
    | nil => simp [Un] at h
    | cons c cs =>
      simp only [Un, Bool.and_eq_true] at h
      intro u hu
      rcases List.mem_cons.1 hu with rfl | hu
      · have hz := h.1
        unfold zeroOk at hz
        split at hz <;> first | rfl | cases hz
      · exact ih h.2 u hu
section
variable {P : Program} {N : Nat} {w0 : Base} {F0 : Nat → Prop} {J : Inj} {a : Act} {w : World} {s : St} {Q : Exit → St → Prop}
theorem Rel.aside (h : Rel N w0 F0 J a w s) {d : Nat} (hd : d < N) (hn : get s.tm d = none) (v : Value) : Rel N w0 F0 J (a.put (some d) v) w s :=
  (h.pure (some d) (fun d' e => by cases e; exact hd) (.one .dead) v (fun _ => trivial)).less (fun t x hx => by
    show get (ins d _ s.tm) t = some x
    rw [get_ins, if_neg (fun e => by subst e; rw [hn] at hx; cases hx)]
    exact hx) (fun _ _ h => h)
theorem clear_run {tt : List (Nat × TI)} (htt : ttOk P tt = true) {sty ety z1 : Nat} {z2 : List C} {z3 : List LK} {ti : TI} (g1 : get tt sty = some ⟨.sli ety, z1, z2, z3⟩) (g2 : get tt ety = some ti)
    {g cap m i n : Nat} {cur : Array Value} {e : TypeId} (hn : ti.size = n) (hg : w.heap[g]? = some (.cells cur e (0, 0))) (hs : cur.size = cap * n) (hi : i < m) (hm : m ≤ cap) (ty : TypeId) :
    ∃ zs : List Value, ∃ ps : List PV, zs.length = n ∧ ps.length = n ∧ (∀ (X : Nat → Prop) (w : World), VC X w zs ps) ∧
      (Builtin.clear_ #[sty] ty #[.slice (some ⟨g, i * n, none⟩) (m - i) (cap - i)]).run P w = .ok (.tuple #[]) (w.setRow g (cur.toList.take (i * n) ++ (List.replicate (m - i) zs).flatten ++ cur.toList.drop (i * n + (m - i) * n)).toArray) := by
  obtain ⟨inf, z, hI, hsz, _, hz, hzs, hzo⟩ := (Zl htt g2).info
  obtain ⟨ps, p1, p2⟩ := zeros_vc hzo
  have hu := (Zl htt g1).sli
  have hzl : z.cells.toList.length = n := by simpa [hn] using hzs
  refine ⟨z.cells.toList, ps, hzl, by rw [p1, hzl], p2, ?_⟩
  obtain ⟨q, hq⟩ : ∃ q, m - i = q + 1 := ⟨m - i - 1, by omega⟩
  have hfl : ((List.replicate (m - i) z.cells.toList).flatten).length = (m - i) * n := by
    rw [List.length_flatten, List.map_replicate, hzl]; simp
  have h3 : i * n + (m - i) * n ≤ cap * n := by rw [← Nat.add_mul]; exact Nat.mul_le_mul_right n (by omega)
  have hst := run_storeCells_at P g (i * n) e ((List.replicate (m - i) z.cells.toList).flatten) 0 cur w hg (by rw [hfl, hs]; simpa using h3) (fun v hv => by
    obtain ⟨l, hl, hv⟩ := List.mem_flatten.1 hv
    rw [List.eq_of_mem_replicate hl] at hv
    exact zero_one hzo v hv)
  simp only [Nat.add_zero, hfl] at hst
  rw [hq] at hst ⊢
  simp [Builtin.clear_, run_underlying hu, zeroValue, Uf hI, hz, zero_cells, hst]
theorem awp_clear {tt : List (Nat × TI)} (htt : ttOk P tt = true) {id : Nat} {ops : Array Oper} {t0 t5 d1 d2 d3 sty ety z1 : Nat} {z2 : List C} {z3 : List LK} {ti : TI} {y1 y2 y3 y4 : TypeId} {q1 q2 q3 q4 : String} {f1 f2 f3 f4 : Array Edge}
    (hops : ops = #[⟨some d1, .move (.tmp t0), y1, q1, f1, none⟩, ⟨some d2, .move (.tmp t5), y2, q2, f2, none⟩, ⟨some d3, .slice sty (.tmp d1) (some (.tmp d2)) none none, y3, q3, f3, none⟩, ⟨none, .call { callee := .builtin .clear, args := #[.tmp d3], argTypes := #[sty] }, y4, q4, f4, none⟩])
    (hN : (Nat.blt d1 N && Nat.blt d2 N && Nat.blt d3 N && Nat.blt t0 N && !(Nat.beq d1 t0) && !(Nat.beq d1 t5) && !(Nat.beq d2 t0) && !(Nat.beq d2 t5) && !(Nat.beq d3 t0) && !(Nat.beq d3 t5) && !(Nat.beq d1 d2) && !(Nat.beq t0 t5)) = true)
    (g1 : get tt sty = some ⟨.sli ety, z1, z2, z3⟩) (g2 : get tt ety = some ti) {k n : Nat} {l : List (List PV)} (hk : get s.tm t0 = some (.one (.slc (.own false k) n l))) (hn : ti.size = n) {i : Int} (hi : get s.tm t5 = some (.one (.int .i64 i))) (h0 : 0 ≤ i) (hl : i < l.length)
    (hQ : ∀ l', l'.length = l.length → l'.take i.toNat = l.take i.toNat → Q .normal ⟨[(t0, .one (.slc (.own false (64 * t0)) n l')), (t5, .one (.int .i64 i))], []⟩) : AWP P N w0 F0 (.region id ops false) Q s := fun J a w hr => by
  simp only [Bool.and_eq_true, Nat.blt_eq, Bool.not_eq_true', nbeq_false] at hN
  obtain ⟨⟨⟨⟨⟨⟨⟨⟨⟨⟨⟨m1, m2⟩, m3⟩, m0⟩, n1⟩, n2⟩, n3⟩, n4⟩, n5⟩, n6⟩, n7⟩, n8⟩ := hN
  obtain ⟨j, rfl⟩ : ∃ j : Nat, i = (j : Int) := ⟨i.toNat, by omega⟩
  have hj : j < l.length := by omega
  have e0 : CR J w (a.tmps.getD t0 undef) (.slc (.own false k) n l) := hr.tm t0 _ hk
  have e5 : CR J w (a.tmps.getD t5 undef) (.int .i64 (j : Int)) := hr.tm t5 _ hi
  obtain ⟨e5, _⟩ := e5
  rcases (show OwnTop J.F (J.L k) w _ n l from e0) with ⟨e, _⟩ | ⟨g, cap, cur, e, hL, e0, hg, hs, hvr, hlc, hcap⟩
  · rw [e] at hj; simp at hj
  obtain ⟨zs, ps, hzl, hpl, hzv, hrun⟩ := clear_run (P := P) (w := w) htt g1 g2 hn hg hs hj hlc y4
  have hu := (Zl htt g1).sli
  have hsz := Hi (P := P) (Zl htt g2) w
  rw [hn] at hsz
  have hr5 : Rel N w0 F0 J a w ⟨[(t5, .one (.int .i64 (j : Int)))], []⟩ := hr.less (fun t v hv => by
    simp only [get] at hv
    split at hv
    · rename_i e; subst e; rw [hi]; exact hv
    · cases hv) (fun k c hc => by cases hc)
  have no : ∀ d, ¬ d = t5 → get (⟨[(t5, .one (.int .i64 (j : Int)))], []⟩ : St).tm d = none := fun d hd => by
    show (if t5 = d then _ else _) = none
    rw [if_neg (fun e => hd e.symm)]; rfl
  have s0 := hr.size
  have hr1 := (hr5.aside m1 (no _ n2) (.slice (some ⟨g, 0, none⟩) l.length cap)).aside m2 (no _ n4) (.int .i64 (j : Int))
  have hr3 := hr1.aside m3 (no _ n6) (.slice (some ⟨g, 0 + j * n, none⟩) (l.length - j) (cap - j))
  subst hops
  refine wp_region ?_
  show wpOps P _ (QX N w0 F0 Q) [0, 1, 2, 3] a w
  rw [wpOps_cons]; unfold wpOp
  simp only [List.getElem?_toArray, List.getElem?_cons_zero]
  rw [if_pos (by simp [Region.wanted])]
  refine .inl (Wy (v := .slice (some ⟨g, 0, none⟩) l.length cap) (w' := w) (by simp [execOp, e0, Act.eval]) ?_)
  rw [wpOps_cons]; unfold wpOp
  simp only [List.getElem?_toArray, List.getElem?_cons_succ, List.getElem?_cons_zero]
  rw [if_pos (by simp [Region.wanted])]
  have e5' : (a.put (some d1) (.slice (some ⟨g, 0, none⟩) l.length cap)).tmps.getD t5 undef = .int .i64 (j : Int) := (Qds (by omega)).trans ((if_neg (fun e => n2 e.symm)).trans e5)
  refine .inl (Wy (v := .int .i64 (j : Int)) (w' := w) (by simp [execOp, e5', Act.eval]) ?_)
  rw [wpOps_cons]; unfold wpOp
  simp only [List.getElem?_toArray, List.getElem?_cons_succ, List.getElem?_cons_zero]
  rw [if_pos (by simp [Region.wanted])]
  have hs1 : (a.put (some d1) (.slice (some ⟨g, 0, none⟩) l.length cap)).tmps.size = N := by simp [Act.put, s0]
  have ea : ((a.put (some d1) (.slice (some ⟨g, 0, none⟩) l.length cap)).put (some d2) (.int .i64 (j : Int))).eval (.tmp d1) = .slice (some ⟨g, 0, none⟩) l.length cap := (Qds (by omega)).trans ((if_neg n7).trans ((Qds (by omega)).trans (if_pos rfl)))
  have eb : ((a.put (some d1) (.slice (some ⟨g, 0, none⟩) l.length cap)).put (some d2) (.int .i64 (j : Int))).eval (.tmp d2) = .int .i64 (j : Int) := (Qds (by omega)).trans (if_pos rfl)
  have hsb : (Instr.sliceBounds true l.length cap (some (.int .i64 (j : Int))) none none).run P w = .ok (j, l.length, cap) w := by
    have e4 : ∀ c, (Instr.sliceBound (.int .i64 (j : Int)) l.length c).run P w = .ok j w := fun c => by
      have := bound_ok (P := P) (w := w) (k := .i64) (lo := (j : Int)) (code := c) (y := l.length) (by omega) (by omega)
      simpa using this
    unfold Instr.sliceBounds
    simp only [Sem.run_bind, Sem.run_pure, Result.andThen_ok]
    simp [e4]
  refine .inl (Wy (v := .slice (some ⟨g, 0 + j * n, none⟩) (l.length - j) (cap - j)) (w' := w) (by
    have hca : cap ≠ j := by omega
    simp [execOp, ea, eb, Instr.sliceAt, run_underlying hu, Instr.slice, hsb, hsz, hca, Addr.add_lit]) ?_)
  rw [wpOps_cons]; unfold wpOp
  simp only [List.getElem?_toArray, List.getElem?_cons_succ, List.getElem?_cons_zero]
  rw [if_pos (by simp [Region.wanted])]
  generalize ha2 : ((a.put (some d1) (.slice (some ⟨g, 0, none⟩) l.length cap)).put (some d2) (.int .i64 (j : Int))) = a2 at *
  have s2 : a2.tmps.size = N := hr1.size
  have ec : (a2.put (some d3) (.slice (some ⟨g, 0 + j * n, none⟩) (l.length - j) (cap - j))).eval (.tmp d3) = .slice (some ⟨g, j * n, none⟩) (l.length - j) (cap - j) := (Qds (by omega)).trans ((if_pos rfl).trans (by simp))
  have ec := ec
  simp only [Nat.zero_add] at ec
  refine .inl (Wy (v := .tuple #[]) (w' := w.setRow g (cur.toList.take (j * n) ++ (List.replicate (l.length - j) zs).flatten ++ cur.toList.drop (j * n + (l.length - j) * n)).toArray) (by
    simp [execOp, resolve, invoke, builtin, ec, hrun]) ?_)
  generalize ha3 : a2.put (some d3) (.slice (some ⟨g, 0 + j * n, none⟩) (l.length - j) (cap - j)) = a3 at *
  show QX N w0 F0 Q .normal a3 _
  have e03 : a3.tmps.getD t0 undef = .slice (some ⟨g, 0, none⟩) l.length cap := by
    rw [← ha3]
    refine (Qds (by omega)).trans ((if_neg (fun e => n5 e.symm)).trans ?_)
    rw [← ha2]
    exact (Qds (by omega)).trans ((if_neg (fun e => n3 e.symm)).trans ((Qds (by omega)).trans ((if_neg (fun e => n1 e.symm)).trans e0)))
  have hgk : g ∈ J.L k := by rw [hL]; exact List.mem_cons_self
  have hgF : ¬ J.F g := (hr.lo k g hgk).2.2
  generalize hw' : w.setRow g (cur.toList.take (j * n) ++ (List.replicate (l.length - j) zs).flatten ++ cur.toList.drop (j * n + (l.length - j) * n)).toArray = w'
  have hgw : w'.heap[g]? = some (.cells (cur.toList.take (j * n) ++ (List.replicate (l.length - j) zs).flatten ++ cur.toList.drop (j * n + (l.length - j) * n)).toArray e (0, 0)) := by rw [← hw']; exact setRow_heap w g cur _ e (0, 0) hg
  have hother : ∀ b, b ≠ g → w'.heap[b]? = w.heap[b]? := fun b hb => by rw [← hw']; exact setRow_other w g b _ hb
  have hsize : w'.heap.size = w.heap.size := by rw [← hw']; simp [World.setRow]
  have hbelow : w0.Keeps w' := by
    refine hr.below.step (by rw [← hw']; rfl) (by rw [← hw']; rfl) (by rw [← hw']; rfl) (by omega) fun b _ hnl => hother b fun e => ?_
    exact hnl (e ▸ (hr.lo k g hgk).1)
  have hfl : ((List.replicate (l.length - j) zs).flatten).length = (l.length - j) * n := by
    rw [List.length_flatten, List.map_replicate, hzl]; simp
  have hsum : j * n + (l.length - j) * n = l.length * n := by rw [← Nat.add_mul]; congr 1; omega
  have hle : l.length * n ≤ cap * n := Nat.mul_le_mul_right n hlc
  have hcl : cur.toList.length = cap * n := by simpa using hs
  have hjn : j * n ≤ cap * n := Nat.mul_le_mul_right n (by omega)
  have htl : (l.take j ++ List.replicate (l.length - j) ps).length = l.length := by simp; omega
  have hown : OwnTop (takeJ J w w' (64 * t0) k [] [g]).F [g] w' (.slice (some ⟨g, 0, none⟩) l.length cap) n (l.take j ++ List.replicate (l.length - j) ps) := by
    refine .inr ⟨g, cap, _, e, rfl, by rw [htl], hgw, ?_, ?_, by rw [htl]; exact hlc, by rw [htl]; exact hcap⟩
    · simp only [List.size_toArray, List.length_append, hfl, List.length_take, List.length_drop, hcl]
      omega
    · rw [htl]
      have : ((cur.toList.take (j * n) ++ (List.replicate (l.length - j) zs).flatten ++ cur.toList.drop (j * n + (l.length - j) * n)).toArray.toList.take (l.length * n)) = cur.toList.take (j * n) ++ (List.replicate (l.length - j) zs).flatten := by
        show ((_ : List Value) ++ _ ++ _).take _ = _
        have hln : (cur.toList.take (j * n) ++ (List.replicate (l.length - j) zs).flatten).length = l.length * n := by
          simp only [List.length_append, hfl, List.length_take, hcl]; omega
        rw [List.take_append_of_le_length (by omega), List.take_of_length_le (by omega)]
      rw [this]
      refine VR.append (vr_zeros (hzv _ _) hpl _) (VR.keep (X := J.F) (w := w) (fun b hb => ⟨.inl hb, hother b fun e => hgF (e ▸ hb)⟩) ?_)
      have h3 := hvr.take j
      rwa [List.take_take, Nat.min_eq_left (by omega)] at h3
  have hR := take_step hr3 (t := t0) (k := k) (n := n) m0 (frz := []) (L' := [g]) (by simp) (w' := w') (u := .slice (some ⟨g, 0, none⟩) l.length cap) (l' := l.take j ++ List.replicate (l.length - j) ps) (d := false) hbelow (by omega) (fun b hb hn => hother b fun e => hn (e ▸ hgk)) (by simp) (fun b hb => by
    obtain rfl := List.mem_singleton.1 hb
    exact ⟨by have := (hr.lo k b hgk).2.1; omega, .inr hgk⟩) (by
      show OwnTop _ ((takeJ J w w' (64 * t0) k [] [g]).L (64 * t0)) _ _ _ _
      rw [show (takeJ J w w' (64 * t0) k [] [g]).L (64 * t0) = [g] from if_pos rfl]
      exact hown)
  rw [put_self e03 (by rw [hr3.size]; exact m0)] at hR
  refine ⟨_, _, hR.less (s' := ⟨[(t0, .one (.slc (.own false (64 * t0)) n (l.take j ++ List.replicate (l.length - j) ps))), (t5, .one (.int .i64 (j : Int)))], []⟩) (fun t v hv => ?_) (fun k c hc => by cases hc), hQ _ htl (by simp [List.take_append, List.take_take]; omega)⟩
  show get (ins t0 _ [(t5, AV.one (.int .i64 (j : Int)))]) t = some v
  rw [get_ins]
  simp only [get] at hv ⊢
  exact hv
end
end Go.Proofs.YtamghcfmhfknmaaGreat
namespace Go.Proofs.YtamghcfmhfknmaaGreat
open Go.RowKit
section
variable {P : Program}
theorem copy_run (w : World) (dT sT ty elem : TypeId) (inf : TypeInfo) (b o dLen dCap : Nat) (a : Addr) (sLen sCap : Nat) (cs : List Value) (hu : P.underlying dT = some (.slice elem)) (hi : P.info? elem = some inf)
    (hn : cs.length = Nat.min sLen dLen * inf.size) (hsrc : ∀ j v, cs[j]? = some v → w.cell? (a.add j) = some v) {cur : Array Value} {e : TypeId} (hg : w.heap[b]? = some (.cells cur e (0, 0))) (hfit : o + cs.length ≤ cur.size) (h1 : ∀ v ∈ cs, v.oneCell' = true) :
    (Builtin.copy_ #[dT, sT] ty #[.slice (some ⟨b, o, none⟩) dLen dCap, .slice (some a) sLen sCap]).run P w = .ok (goInt (Nat.min sLen dLen)) (w.setCells b o cs) := by
  have hl := run_loadCells_list (P := P) w a cs hsrc
  have hc : ∀ j, j < cs.length → (w.cell? ⟨b, o + j, none⟩).isSome = true := fun j hj => by
    have : o + j < cur.size := by omega
    simp [World.cell?, hg, this]
  have hf : ∀ j, j < cs.length → w.frozen? ⟨b, o + j, none⟩ = false := fun j hj => by simp [World.frozen?, hg]
  have hst := run_storeCells_cells (P := P) b o cs 0 w (by simpa using hc) (by simpa using hf) h1
  simp [Builtin.copy_, run_underlying hu, Builtin.lenOf, Builtin.firstCells, sizeOf, typeInfo, hi, ← hn, hl, hst]
theorem overlaps_run (w : World) (tS tR e : TypeId) (ht : P.underlying tS = some (.slice e)) (size : Nat) (hz : ∀ w, (Go.sizeOf e).run P w = .ok size w) (a b : Addr) (la ca lb cb : Nat) (hne : a.block ≠ b.block)
    {arrA : Array Value} {tA : TypeId} {frA : Nat × Nat} (hA : w.heap[a.block]? = some (.cells arrA tA frA)) {arrB : Array Value} {tB : TypeId} (hB : w.heap[b.block]? = some (.cells arrB tB (0, 0))) (hpos : 0 < arrB.size) (hposA : 0 < arrA.size) :
    (Extern.SlicesOverlaps.overlaps #[tS, tS] #[tR] #[.slice (some a) la ca, .slice (some b) lb cb]).run P w = .ok (.bool false) w := by
  have hsa : w.shape? a.block = some (tA, arrA.size) := by simp [World.shape?, hA]
  have hsb : w.shape? b.block = some (tB, arrB.size) := by simp [World.shape?, hB]
  have hfb : ∀ o, w.frozen? ⟨b.block, o, none⟩ = false := fun o => by simp [World.frozen?, hB]
  have hfb' : w.frozen? b = false := by simp [World.frozen?, hB]
  have hnb : (a.block != b.block) = true := by simpa using hne
  have hnb' : (a.block == b.block) = false := by simpa using hne
  obtain ⟨kb, hkb⟩ : ∃ kb, arrB.size = kb + 1 := ⟨arrB.size - 1, by omega⟩
  rw [hkb] at hsb
  obtain ⟨ka, hka⟩ : ∃ ka, arrA.size = ka + 1 := ⟨arrA.size - 1, by omega⟩
  rw [hka] at hsa
  change Sem.run P (α := Value) (do
    let some t := (#[tS, tS] : Array TypeId)[0]? | stuck "slices.overlaps: no parameter types"
    let .slice elem ← underlying t | stuck "slices.overlaps: slice type expected"
    let size ← sizeOf elem
    match (some a : Option Addr), (some b : Option Addr) with
    | some a, some b =>
      if la = 0 ∨ lb = 0 ∨ size = 0 then pure (Value.bool false)
      else if a.block != b.block && (← frozen a) && (← frozen b) then unsupported .addressObserved
      else do
        if a.block != b.block then do
          noView a; noView b
          if ← mayBeOne a b then return Value.bool ((← choose (.extern "sameAddr.stringBytes" 2)) == 1)
        pure (Value.bool (a.block == b.block && a.off < b.off + lb * size && b.off < a.off + la * size))
    | _, _ => pure (Value.bool false)) w = _
  by_cases h0 : la = 0 ∨ lb = 0 ∨ size = 0
  · simp [run_underlying ht, hz, h0]
  · cases hfa : w.frozen? a with
    | true => simp [run_underlying ht, hz, h0, hnb, hnb', frozen, noView, viewAt, mayBeOne, stringish, shape, Sem.run, hsa, hsb, hfa, hfb, hfb']
    | false =>
      cases hfa2 : w.frozen? { block := a.block, off := ka + 1 } with
      | true => simp [run_underlying ht, hz, h0, hnb, hnb', frozen, noView, viewAt, mayBeOne, stringish, shape, Sem.run, hsa, hsb, hfa, hfb, hfb', hfa2]
      | false => simp [run_underlying ht, hz, h0, hnb, hnb', frozen, noView, viewAt, mayBeOne, stringish, shape, Sem.run, hsa, hsb, hfa, hfb, hfb', hfa2]
structure RowAt (w : World) (n : Nat) (oa : Option Addr) (m cap : Nat) (olds : List Value) : Prop where
  len : olds.length = m * n
  row : (oa = oa ∧ m = 0 ∧ cap = 0) ∨ ∃ g cur e, oa = some ⟨g, 0, none⟩ ∧ w.heap[g]? = some (.cells cur e (0, 0)) ∧ cur.size = cap * n ∧ cur.toList.take (m * n) = olds
  le : m ≤ cap
  cap : cap ≤ maxLen
  lim : m < 1073741824
  ones : ∀ u, u ∈ olds → u.oneCell' = true
structure Turned (w w' : World) (n : Nat) (oa : Option Addr) (cap : Nat) (u : Value) (m' : Nat) (news : List Value) : Prop where
  os : w'.os = w.os
  tape : w'.tape = w.tape
  output : w'.output = w.output
  size : w.heap.size ≤ w'.heap.size
  row : ∃ g' cap' cur' e', u = .slice (some ⟨g', 0, none⟩) m' cap' ∧ w'.heap[g']? = some (.cells cur' e' (0, 0)) ∧ cur'.size = cap' * n ∧ cur'.toList.take (m' * n) = news ∧ m' ≤ cap' ∧ cap' ≤ maxLen ∧
    ((oa = some ⟨g', 0, none⟩ ∧ 0 < cap ∧ ∀ b, b ≠ g' → w'.heap[b]? = w.heap[b]?) ∨ (w.heap.size ≤ g' ∧ g' < w'.heap.size ∧ ∀ b, b < w.heap.size → w'.heap[b]? = w.heap[b]?))
def InsTo (w : World) (n i : Nat) (oa : Option Addr) (m cap : Nat) (olds vs : List Value) (e : Ending) (w' : World) : Prop :=
  ∃ u, e = .returned u ∧ Turned w w' n oa cap u (m + 1) (olds.take (i * n) ++ vs ++ olds.drop (i * n))
structure OneAt (w : World) (n : Nat) (oa : Option Addr) (cap : Nat) (vb voff : Nat) (vs : List Value) : Prop where
  len : vs.length = n
  cells : ∀ j u, vs[j]? = some u → w.cell? ⟨vb, voff + j, none⟩ = some u
  ones : ∀ u, u ∈ vs → u.oneCell' = true
  ne : ∀ g, oa = some ⟨g, 0, none⟩ → 0 < cap → vb ≠ g
theorem rowTop {F : Nat → Prop} {L : List Nat} {w : World} {v : Value} {n : Nat} {l : List (List PV)} (h : OwnTop F L w v n l) (hl : l.length < 1073741824) :
    ∃ oa cap olds, v = .slice oa l.length cap ∧ RowAt w n oa l.length cap olds ∧ VR F w n olds l ∧ (0 < cap → ∃ g, oa = some ⟨g, 0, none⟩ ∧ L = [g]) := by
  rcases h with ⟨rfl, oa, rfl⟩ | ⟨g, cap, cur, e, rfl, rfl, hg, hs, hr, h1, h2⟩
  · exact ⟨oa, 0, [], rfl, ⟨by simp, .inl ⟨rfl, rfl, rfl⟩, Nat.le_refl _, Nat.zero_le _, by simp, by simp⟩, .nil n, fun h => by omega⟩
  · exact ⟨some ⟨g, 0, none⟩, cap, _, rfl, ⟨hr.length, .inr ⟨g, cur, e, rfl, hg, hs, rfl⟩, h1, h2.1, hl, hr.ones⟩, hr, fun _ => ⟨g, rfl, rfl⟩⟩
theorem Turned.ret {F G : Nat → Prop} {L : List Nat} {w w' : World} {n : Nat} {oa : Option Addr} {cap : Nat} {u : Value} {m' : Nat} {news : List Value} (h : Turned w w' n oa cap u m' news) (hF : ∀ b, F b → b < w.heap.size ∧ b ∉ L) (hL : 0 < cap → ∃ g, oa = some ⟨g, 0, none⟩ ∧ L = [g]) (hLs : ∀ b, b ∈ L → b < w.heap.size)
    {l' : List (List PV)} (hv : VR F w n news l') (hm : l'.length = m') (hlim : m' ≤ 1073741824) : TRet F L w n false l' (.returned u) w' := by
  obtain ⟨g', cap', cur', e', rfl, hg, hs, ht, h1, h2, h3⟩ := h.row
  have hsame : ∀ b, b < w.heap.size → b ∉ L → w'.heap[b]? = w.heap[b]? := fun b hb hn => by
    rcases h3 with ⟨h3, hc, h4⟩ | ⟨_, _, h4⟩
    · obtain ⟨g, h5, rfl⟩ := hL hc
      rw [h3] at h5
      obtain rfl : g' = g := by simpa using h5
      exact h4 b fun e => hn (by simp [e])
    · exact h4 b hb
  refine ⟨_, rfl, fun m hm hmL => ⟨h.os, h.tape, h.output, h.size, fun b hb => hsame b (by omega) fun hx => by have := hmL b hx; omega⟩, hsame, [g'], by simp, fun b hb => ?_, ?_⟩
  · obtain rfl := List.mem_singleton.1 hb
    refine ⟨Xz hg, ?_⟩
    rcases h3 with ⟨h3, hc, _⟩ | ⟨h3, _, _⟩
    · obtain ⟨g, h5, rfl⟩ := hL hc
      rw [h3] at h5
      obtain rfl : b = g := by simpa using h5
      exact .inr (by simp)
    · exact .inl h3
  · refine .inr ⟨g', cap', cur', e', rfl, by rw [hm], hg, hs, ?_, by rw [hm]; exact h1, h2, by rw [hm]; exact hlim⟩
    rw [hm, ht]
    exact hv.keep fun b hb => ⟨.inl hb, hsame b (hF b hb).1 (hF b hb).2⟩
theorem atake_ins {f n : Nat} (hok : Jr P f) (h0 : 0 < n)
    (hrun : ∀ w oa m cap olds i vb voff vc vs, RowAt w n oa m cap olds → OneAt w n oa cap vb voff vs → i ≤ m → Calls P f #[.slice oa m cap, .int .i64 (i : Int), .slice (some ⟨vb, voff, none⟩) 1 vc] w (InsTo w n i oa m cap olds vs))
    {l : List (List PV)} {x : List PV} {i : Int} {j : Nat} (hij : i = (j : Int)) (hj : j ≤ l.length) (hl : l.length < 1073741824) : ATake P f n l [.one (.int .i64 i), .one (.slc .sh n [x])] true false (l.take j ++ [x] ++ l.drop j) := by
  subst hij
  refine ⟨hok, fun w F G L v vals _ hFG hGF hGs hnd hLG hrow hargs => ?_⟩
  have hGF := hGF rfl
  cases hargs with
  | cons a1 ha =>
  cases ha with
  | cons a2 ha =>
  cases ha
  obtain ⟨rfl, _⟩ : _ = Value.int .i64 (j : Int) ∧ InR .i64 (j : Int) := a1
  have a2 : VV G w _ (.slc n [x]) := a2
  obtain ⟨oa, cap, olds, rfl, hR, hV, hL⟩ := rowTop hrow hl
  generalize hp : PV.slc n [x] = p at a2
  cases a2 with
  | int | bool | str => cases hp
  | emp => cases hp
  | @slc vb voff vc n' cs l1 hb hc hr h1 h2 =>
    obtain ⟨rfl, rfl⟩ : n = n' ∧ [x] = l1 := by simpa using hp
    have hcl : cs.length = n := by rw [hr.length]; simp
    have hone : OneAt w n oa cap vb voff cs := ⟨hcl, hc, hr.ones, fun g hg hcap e => by
      obtain ⟨g', h5, rfl⟩ := hL hcap
      rw [hg] at h5
      obtain rfl : g = g' := by simpa using h5
      exact (hLG g (by simp)).2 (e ▸ hb)⟩
    refine (hrun w oa l.length cap olds j vb voff vc cs hR hone hj).mono ?_
    rintro e w' ⟨u, rfl, hT⟩
    refine hT.ret (G := G) (fun b hb => ⟨hGs b (hFG b hb), fun hm => (hLG b hm).2 (hFG b hb)⟩) hL (fun b hb => (hLG b hb).1) ?_ ?_ (by omega)
    · exact VR.append (hV.drop j) (VR.append (hr.keep fun b hb => ⟨hGF b hb, rfl⟩) (hV.take j))
    · simp; omega
def DelTo (w : World) (n i : Nat) (oa : Option Addr) (m cap : Nat) (olds : List Value) (e : Ending) (w' : World) : Prop :=
  ∃ u, e = .returned u ∧ Turned w w' n oa cap u (m - 1) (olds.take (i * n) ++ olds.drop ((i + 1) * n))
theorem atake_del {f n : Nat} (hok : Jr P f)
    (hrun : ∀ w oa m cap olds i, RowAt w n oa m cap olds → i < m → Calls P f #[.slice oa m cap, .int .i64 (i : Int), .int .i64 ((i : Int) + 1)] w (DelTo w n i oa m cap olds))
    {l : List (List PV)} {i k : Int} {j : Nat} (hij : i = (j : Int)) (hk : k = (j : Int) + 1) (hj : j < l.length) (hl : l.length < 1073741824) : ATake P f n l [.one (.int .i64 i), .one (.int .i64 k)] true false (l.take j ++ l.drop (j + 1)) := by
  subst hij
  subst hk
  refine ⟨hok, fun w F G L v vals _ hFG hGF hGs hnd hLG hrow hargs => ?_⟩
  cases hargs with
  | cons a1 ha =>
  cases ha with
  | cons a2 ha =>
  cases ha
  obtain ⟨rfl, _⟩ : _ = Value.int .i64 (j : Int) ∧ InR .i64 (j : Int) := a1
  obtain ⟨rfl, _⟩ : _ = Value.int .i64 ((j : Int) + 1) ∧ InR .i64 ((j : Int) + 1) := a2
  obtain ⟨oa, cap, olds, rfl, hR, hV, hL⟩ := rowTop hrow hl
  refine (hrun w oa l.length cap olds j hR hj).mono ?_
  rintro e w' ⟨u, rfl, hT⟩
  refine hT.ret (G := G) (fun b hb => ⟨hGs b (hFG b hb), fun hm => (hLG b hm).2 (hFG b hb)⟩) hL (fun b hb => (hLG b hb).1) ?_ ?_ (by omega)
  · exact VR.append (hV.drop (j + 1)) (hV.take j)
  · simp; omega
end
end Go.Proofs.YtamghcfmhfknmaaGreat
namespace Go.Proofs.YtamghcfmhfknmaaGreat
open Go.RowKit
section
variable {P : Program} {t e : TypeId} {ei : TI} {w : World} {oa : Option Addr} {m cap i vb voff vc : Nat} {olds vs : List Value}
theorem goIdx {i m n : Nat} (hi : i < m) : (i + 1) * n = i * n + n ∧ i * n + n ≤ m * n ∧ (m - i) * n = m * n - i * n ∧ (m + 1) * n = m * n + n := by
  have h1 : (i + 1) * n ≤ m * n := Nat.mul_le_mul_right n (by omega)
  have h2 : (i + 1) * n = i * n + n := by rw [Nat.add_mul, Nat.one_mul]
  exact ⟨h2, by omega, Nat.sub_mul .., by rw [Nat.add_mul, Nat.one_mul]⟩
theorem OneAt.block {n : Nat} (h : OneAt w n oa cap vb voff vs) (h0 : 0 < n) : vb < w.heap.size ∧ ∃ arr tA fr, w.heap[vb]? = some (.cells arr tA fr) ∧ 0 < arr.size := by
  have hl : 0 < vs.length := by rw [h.len]; exact h0
  have hc := h.cells 0 vs[0] (List.getElem?_eq_getElem hl)
  unfold World.cell? at hc
  split at hc
  · rename_i arr tA fr hh
    refine ⟨Xz hh, arr, tA, fr, hh, ?_⟩
    have hc : arr[voff + 0]? = some vs[0] := by simpa using hc
    have := (Array.getElem?_eq_some_iff.1 hc).1
    omega
  · cases hc
theorem wpList_copy_rn {w : World} {ops : Array Oper} {rest : List Oper} {o : Oper} {a : Act} {Q : Exit → Act → World → Prop} (hgd : o.guard = none) (d s : Operand) (t t' : TypeId)
    (ho : o.op = .call { callee := .builtin .copy, args := #[d, s], argTypes := #[t, t'] }) (v u : Value) (hd : a.eval d = v) (hs : a.eval s = u) {v' : Value} {w' : World}
    (hr : (Builtin.copy_ #[t, t'] o.type #[v, u]).run P w = .ok v' w') (h : wpList P ops Q rest (a.put o.dst v') w') : wpList P ops Q (o :: rest) a w :=
  wpList_plain hgd fun K hK => by
    unfold Oper.wp execOp
    simp only [ho, resolve, invoke, builtin, Sem.run_bind, Sem.run_pure, Result.andThen_ok, List.map_toArray, List.map_cons, List.map_nil, hd, hs, hr]
    exact hK _ _ h
theorem step_copy_rn {w : World} {ops : Array Oper} {o : Oper} {a : Act} {K : Act → World → Prop} {Q : Exit → Act → World → Prop} {E : Prop}
    (hg : o.guard = none) (d x : Operand) (dT sT : TypeId) (hop : o.op = .call { callee := .builtin .copy, args := #[d, x], argTypes := #[dT, sT] })
    (v u : Value) (hd : a.eval d = v) (hx : a.eval x = u) {v' : Value} {w' : World} (hr : (Builtin.copy_ #[dT, sT] o.type #[v, u]).run P w = .ok v' w') (hK : K (a.put o.dst v') w') :
    if Region.wanted o (yielded ops a.tmps) = true then Oper.wp P o a w K Q else E := by
  rw [if_pos (by simp [Region.wanted, hg])]
  unfold Oper.wp execOp
  simp only [hop, resolve, invoke, builtin, Sem.run_bind, Sem.run_pure, Result.andThen_ok, List.map_toArray, List.map_cons, List.map_nil, hd, hx, hr]
  exact hK
theorem Qdf {w : World} {ops : Array Oper} {o : Oper} {a : Act} {K : Act → World → Prop} {Q : Exit → Act → World → Prop} {E : Prop}
    (hg : o.guard = none) (d x : Operand) (dT sT : TypeId) (hop : o.op = .call { callee := .builtin .append, args := #[d, x], argTypes := #[dT, sT] })
    (v u : Value) (hd : a.eval d = v) (hx : a.eval x = u) {v' : Value} {w' : World} (hr : (Builtin.append_ #[dT, sT] o.type #[v, u]).run P w = .ok v' w') (hK : K (a.put o.dst v') w') :
    if Region.wanted o (yielded ops a.tmps) = true then Oper.wp P o a w K Q else E := by
  rw [if_pos (by simp [Region.wanted, hg])]
  unfold Oper.wp execOp
  simp only [hop, resolve, invoke, builtin, Sem.run_bind, Sem.run_pure, Result.andThen_ok, List.map_toArray, List.map_cons, List.map_nil, hd, hx, hr]
  exact hK
theorem Qes (g : Nat) : ∀ (vs : List Value) (o : Nat) (w : World), (w.drew.setCells g o vs).heap = (w.setCells g o vs).heap
  | [], _, _ => rfl
  | v :: vs, o, w => Qes g vs (o + 1) (w.setCell ⟨g, o, none⟩ v)
theorem src_one (hu : P.underlying t = some (.slice e)) (hO : OneAt w ei.size oa cap vb voff vs) : Src P ei.size t (.slice (some ⟨vb, voff, none⟩) 1 vc) 1 vs w :=
  Src.ofSlice w hu _ _ _ _ (by rw [hO.len]; omega) (fun j u hj => by rw [Addr.add_lit]; exact hO.cells j u hj) hO.ones
theorem road_end (hu : P.underlying t = some (.slice e)) (hei : TiOk P e ei) (hn : 0 < ei.size) (hR : RowAt w ei.size oa m cap olds) (hO : OneAt w ei.size oa cap vb voff vs) :
    ∃ u w', (∀ ty, (Builtin.append_ #[t, t] ty #[.slice oa m cap, .slice (some ⟨vb, voff, none⟩) 1 vc]).run P w = .ok u w') ∧ InsTo w ei.size m oa m cap olds vs (.returned u) w' := by
  have hold : ∀ ad, oa = some ad → ∀ (j : Nat) (u : Value), olds[j]? = some u → w.cell? (ad.add j) = some u := fun ad had j u hj => by
    rcases hR.row with ⟨_, h0, _⟩ | ⟨g, cur, e0, h1, h2, h3, h4⟩
    · have := hR.len
      rw [h0, Nat.zero_mul] at this
      rw [List.length_eq_zero_iff.1 this] at hj
      simp at hj
    · rw [had] at h1
      obtain rfl := Option.some.inj h1
      rw [← h4] at hj
      exact Qe4 h2 _ j u hj
  obtain ⟨g', cap', cur', e', w', hr, h1, h2, h3, h4, h5, h6, h7, h8, h9, h10⟩ := append_run (ty := 0) hu hei hn hR.len hold (fun h => by
      rcases hR.row with ⟨_, h0, _⟩ | ⟨g, cur, e0, h1, _⟩
      · exact h0
      · rw [h] at h1; cases h1) (hR.row.imp (fun h => h.2.2) fun h => h) hR.le (src_one (vc := vc) hu hO) (by have := hR.lim; omega) (fun _ => by omega) hR.cap
  refine ⟨_, w', fun ty => hr, _, rfl, ⟨h6, h7, h8, h9, g', cap', cur', e', rfl, h1, h2, ?_, h4, h5, ?_⟩⟩
  · rw [h3, List.take_of_length_le (by rw [hR.len]; omega), List.drop_of_length_le (by rw [hR.len]; omega), List.append_nil]
  · exact h10.imp (fun ⟨cur, e0, h1, h2, h3, h4⟩ => ⟨h1, by omega, h4⟩) fun ⟨h1, h2, h3⟩ => ⟨by omega, h2, h3⟩
variable {g : Nat} {cur : Array Value} {e0 : TypeId}
theorem olds_cell (hg : w.heap[g]? = some (.cells cur e0 (0, 0))) (htk : cur.toList.take (m * ei.size) = olds) {k : Nat} : ∀ (j : Nat) (u : Value), (olds.drop k)[j]? = some u → w.cell? ((⟨g, k, none⟩ : Addr).add j) = some u := fun j u hj => by
  rw [List.getElem?_drop, ← htk] at hj
  have := Qe4 hg _ _ u hj
  rw [Addr.add_lit, Nat.zero_add] at this
  rw [Addr.add_lit]
  exact this
theorem Ux (g : Nat) : ∀ (vs : List Value) (o : Nat) (w : World), (w.setCells g o vs).os = w.os ∧ (w.setCells g o vs).tape = w.tape ∧ (w.setCells g o vs).output = w.output
  | [], _, _ => ⟨rfl, rfl, rfl⟩
  | v :: vs, o, w => Ux g vs (o + 1) (w.setCell ⟨g, o, none⟩ v)
theorem road_room (hu : P.underlying t = some (.slice e)) (hei : TiOk P e ei) (hn : 0 < ei.size) (hg : w.heap[g]? = some (.cells cur e0 (0, 0))) (hcs : cur.size = cap * ei.size) (htk : cur.toList.take (m * ei.size) = olds)
    (hR : RowAt w ei.size (some ⟨g, 0, none⟩) m cap olds) (hO : OneAt w ei.size (some ⟨g, 0, none⟩) cap vb voff vs) (hi : i < m) (hroom : m + 1 ≤ cap) :
    (∀ ty dc sc, (Builtin.copy_ #[t, t] ty #[.slice (some ⟨g, (i + 1) * ei.size, none⟩) (m + 1 - (i + 1)) dc, .slice (some ⟨g, i * ei.size, none⟩) (m + 1 - i) sc]).run P w = .ok (goInt (Nat.min (m + 1 - i) (m + 1 - (i + 1)))) (w.setCells g ((i + 1) * ei.size) (olds.drop (i * ei.size)))) ∧
    (∀ W : World, W.heap = (w.setCells g ((i + 1) * ei.size) (olds.drop (i * ei.size))).heap → ∀ ty dc, (Builtin.copy_ #[t, t] ty #[.slice (some ⟨g, i * ei.size, none⟩) (m + 1 - i) dc, .slice (some ⟨vb, voff, none⟩) 1 vc]).run P W = .ok (goInt (Nat.min 1 (m + 1 - i))) (W.setCells g (i * ei.size) vs)) ∧
    (∀ W : World, W.heap = (w.setCells g ((i + 1) * ei.size) (olds.drop (i * ei.size))).heap → W.os = w.os → W.tape = w.tape → W.output = w.output → InsTo w ei.size i (some ⟨g, 0, none⟩) m cap olds vs (.returned (.slice (some ⟨g, 0, none⟩) (m + 1) cap)) (W.setCells g (i * ei.size) vs)) := by
  obtain ⟨inf, z, hI, hsz, _⟩ := hei.info
  obtain ⟨k1, k2, k3, k4⟩ := goIdx (n := ei.size) hi
  have k5 : m * ei.size + ei.size ≤ cap * ei.size := by rw [← k4]; exact Nat.mul_le_mul_right _ hroom
  have hdl : (olds.drop (i * ei.size)).length = (m - i) * ei.size := by rw [List.length_drop, hR.len, k3]
  have hfit1 : (i + 1) * ei.size + (olds.drop (i * ei.size)).length ≤ cur.size := by rw [hdl]; omega
  have hmin : Nat.min (m + 1 - i) (m + 1 - (i + 1)) = m - i := by simp only [Nat.min_def]; split <;> omega
  have hmin1 : Nat.min 1 (m + 1 - i) = 1 := by simp only [Nat.min_def]; split <;> omega
  have hvb : vb ≠ g := hO.ne g rfl (by omega)
  have hg1 := Vy g (olds.drop (i * ei.size)) ((i + 1) * ei.size) w hg
  have hfit2 : i * ei.size + vs.length ≤ (putCells cur ((i + 1) * ei.size) (olds.drop (i * ei.size))).size := by rw [Vg, hO.len]; omega
  refine ⟨fun ty dc sc => ?_, fun W hW ty dc => ?_, fun W hW ho ht hu' => ?_⟩
  · exact copy_run w t t ty e inf g _ _ dc ⟨g, i * ei.size, none⟩ _ sc _ hu hI (by rw [hmin, hdl, hsz]) (olds_cell hg htk) hg hfit1 fun v hv => hR.ones v (List.mem_of_mem_drop hv)
  · refine copy_run W t t ty e inf g _ _ dc ⟨vb, voff, none⟩ _ vc _ hu hI (by rw [hmin1, hO.len, hsz, Nat.one_mul]) (fun j v hj => ?_) (hW ▸ hg1) hfit2 hO.ones
    rw [Addr.add_lit, World.cell?_of_block (w := w) (by rw [hW]; exact Kl g hvb _ _ _)]
    exact hO.cells j v hj
  · obtain ⟨p1, p2, p3⟩ := Ux g vs (i * ei.size) W
    have hg2 := Vy g vs (i * ei.size) W (hW ▸ hg1)
    refine ⟨_, rfl, ⟨p1.trans ho, p2.trans ht, p3.trans hu', ?_, g, cap, _, e0, rfl, hg2, by rw [Vg, Vg]; exact hcs, ?_, hroom, hR.cap, .inl ⟨rfl, by omega, fun b hb => ?_⟩⟩⟩
    · rw [Hw, hW, Hw]; exact Nat.le_refl _
    · have hci : cur.toList.take (i * ei.size) = olds.take (i * ei.size) := by
        rw [← htk, List.take_take]; congr 1; omega
      have hA : ((cur.toList.take ((i + 1) * ei.size) ++ olds.drop (i * ei.size)) ++ cur.toList.drop ((i + 1) * ei.size + (olds.drop (i * ei.size)).length)).take (i * ei.size) = olds.take (i * ei.size) := by
        have hl : (cur.toList.take ((i + 1) * ei.size)).length = (i + 1) * ei.size := by rw [List.length_take, Array.length_toList]; omega
        rw [List.append_assoc, List.take_append_of_le_length (by rw [hl]; omega), List.take_take, ← hci]; congr 1; omega
      have hB : ((cur.toList.take ((i + 1) * ei.size) ++ olds.drop (i * ei.size)) ++ cur.toList.drop ((i + 1) * ei.size + (olds.drop (i * ei.size)).length)).drop (i * ei.size + vs.length) = olds.drop (i * ei.size) ++ cur.toList.drop ((i + 1) * ei.size + (olds.drop (i * ei.size)).length) := by
        have hl : (cur.toList.take ((i + 1) * ei.size)).length = i * ei.size + vs.length := by rw [List.length_take, Array.length_toList, hO.len]; omega
        rw [List.append_assoc, ← hl, List.drop_left]
      rw [Uz hfit2, Uz hfit1, hA, hB]
      have hl3 : (olds.take (i * ei.size) ++ vs ++ olds.drop (i * ei.size)).length = (m + 1) * ei.size := by
        rw [List.length_append, List.length_append, hdl, hO.len, List.length_take, hR.len, k3]; omega
      rw [← List.append_assoc, ← hl3, List.take_left]
    · rw [Kl g hb, hW, Kl g hb]
theorem road_grow {tn : TypeId} (hu : P.underlying t = some (.slice e)) (htn : P.underlying tn = some (.int .i64)) (hei : TiOk P e ei) (hn : 0 < ei.size) (hg : w.heap[g]? = some (.cells cur e0 (0, 0))) (hcs : cur.size = cap * ei.size) (htk : cur.toList.take (m * ei.size) = olds)
    (hR : RowAt w ei.size (some ⟨g, 0, none⟩) m cap olds) (hO : OneAt w ei.size (some ⟨g, 0, none⟩) cap vb voff vs) (hvw : vb < w.heap.size) (hi : i < m) (hroom : cap < m + 1) :
    ∃ G W1, m + 1 ≤ G ∧ G ≤ maxLen ∧ (∀ ty k, k = ((m + 1 - i : Nat) : Int) → (Builtin.append_ #[t, tn] ty #[.slice (some ⟨g, 0, none⟩) i cap, .int .i64 k]).run P w = .ok (.slice (some ⟨w.heap.size, 0, none⟩) (m + 1) G) W1) ∧
    (∀ W : World, W.heap = W1.heap → ∀ ty dc, (Builtin.copy_ #[t, t] ty #[.slice (some ⟨w.heap.size, i * ei.size, none⟩) (m + 1 - i) dc, .slice (some ⟨vb, voff, none⟩) 1 vc]).run P W = .ok (goInt (Nat.min 1 (m + 1 - i))) (W.setCells w.heap.size (i * ei.size) vs)) ∧
    (∀ W : World, W.heap = (W1.setCells w.heap.size (i * ei.size) vs).heap → ∀ ty dc sc, (Builtin.copy_ #[t, t] ty #[.slice (some ⟨w.heap.size, (i + 1) * ei.size, none⟩) (m + 1 - (i + 1)) dc, .slice (some ⟨g, i * ei.size, none⟩) (m - i) sc]).run P W = .ok (goInt (Nat.min (m - i) (m + 1 - (i + 1)))) (W.setCells w.heap.size ((i + 1) * ei.size) (olds.drop (i * ei.size)))) ∧
    (∀ W : World, W.heap = (W1.setCells w.heap.size (i * ei.size) vs).heap → W.os = w.os → W.tape = w.tape → W.output = w.output → InsTo w ei.size i (some ⟨g, 0, none⟩) m cap olds vs (.returned (.slice (some ⟨w.heap.size, 0, none⟩) (m + 1) G)) (W.setCells w.heap.size ((i + 1) * ei.size) (olds.drop (i * ei.size)))) ∧
    W1.os = w.os ∧ W1.tape = w.tape ∧ W1.output = w.output := by
  obtain ⟨inf, z, hI, hsz, hby, hz, hzs, _⟩ := hei.info
  obtain ⟨k1, k2, k3, k4⟩ := goIdx (n := ei.size) hi
  have hlim := hR.lim
  have hle := hR.le
  have hgw : g < w.heap.size := Xz hg
  have hdl : (olds.drop (i * ei.size)).length = (m - i) * ei.size := by rw [List.length_drop, hR.len, k3]
  have htl : (olds.take (i * ei.size)).length = i * ei.size := by rw [List.length_take, hR.len]; omega
  have hmin : Nat.min (m - i) (m + 1 - (i + 1)) = m - i := by simp only [Nat.min_def]; split <;> omega
  have hmin1 : Nat.min 1 (m + 1 - i) = 1 := by simp only [Nat.min_def]; split <;> omega
  have hold : (Builtin.firstCells inf.size i (.slice (some ⟨g, 0, none⟩) i cap)).run P w.drew = .ok (olds.take (i * ei.size)).toArray w.drew := by
    refine run_firstCells_some w.drew inf.size i ⟨g, 0, none⟩ i cap _ (by rw [htl, hsz]) fun j u hj => ?_
    rw [List.getElem?_take] at hj
    split at hj
    · rw [← htk] at hj
      exact Qe4 hg _ j u hj
    · cases hj
  have hik : i + (m + 1 - i) = m + 1 := by omega
  have hbytes : ((m + 1) + (m + 1) / 4 + 192) * inf.bytes ≤ 281474976710656 := Nat.le_trans (Nat.mul_le_mul (show _ ≤ 1342177472 by omega) hby) (by decide)
  have hkb : (m + 1 - i) * inf.bytes ≤ 281474976710656 := Nat.le_trans (Nat.mul_le_mul_right _ (by omega)) hbytes
  have hap : ∀ ty, (Builtin.append_ #[t, tn] ty #[.slice (some ⟨g, 0, none⟩) i cap, .int .i64 ((m + 1 - i : Nat) : Int)]).run P w = _ := fun ty =>
    Lib.run_append_grow_zeros w t tn ty e inf z .i64 .i64 hu htn hI hz (some ⟨g, 0, none⟩) i cap (olds.take (i * ei.size)) hold (m + 1 - i) (by omega) (by omega) (by omega) (by omega) hkb (by rw [hik]; exact growslice_fits_wide hroom hbytes)
  rw [hik] at hap
  obtain ⟨G, hG⟩ : ∃ G, G = grownCap w (m + 1) cap e := ⟨_, rfl⟩
  have hGn : m + 1 ≤ G := by rw [hG]; exact grownCap_ge w _ _ _
  have hGm : G ≤ maxLen := by rw [hG]; exact grownCap_le_maxLen w _ _ _ (by unfold maxLen; omega)
  rw [← hG] at hap
  obtain ⟨ROW, hROW⟩ : ∃ ROW : Array Value, ROW = (olds.take (i * ei.size)).toArray ++ Builtin.zeroCells z.cells (m + 1 - i) ++ Builtin.zeroCells z.cells (G - (m + 1)) := ⟨_, rfl⟩
  rw [← hROW] at hap
  have hRs : ROW.size = G * ei.size := by
    rw [hROW]
    simp only [Array.size_append, List.size_toArray, size_zeroCells, hzs, htl, ← Nat.add_mul]
    congr 1
    omega
  have hRt : ROW.toList.take (i * ei.size) = olds.take (i * ei.size) := by
    rw [hROW, Array.toList_append, Array.toList_append, List.append_assoc]
    show (olds.take (i * ei.size) ++ _).take _ = _
    rw [List.take_append_of_le_length (by rw [htl]; omega), List.take_of_length_le (by rw [htl]; omega)]
  have hGe : (m + 1) * ei.size ≤ G * ei.size := Nat.mul_le_mul_right _ hGn
  obtain ⟨W1, hW1⟩ : ∃ W1, W1 = w.drew.alloc (.cells ROW e) := ⟨_, rfl⟩
  rw [← hW1] at hap
  have hn1 : W1.heap[w.heap.size]? = some (.cells ROW e (0, 0)) := by rw [hW1]; exact heap_alloc_new w.drew _
  have ho1 : ∀ b, b < w.heap.size → W1.heap[b]? = w.heap[b]? := fun b hb => by rw [hW1]; exact heap_alloc_old w.drew _ hb
  have hs1 : W1.heap.size = w.heap.size + 1 := by rw [hW1]; simp
  have hfitA : i * ei.size + vs.length ≤ ROW.size := by rw [hO.len, hRs]; omega
  have hg2 := Vy w.heap.size vs (i * ei.size) W1 hn1
  have hfitB : (i + 1) * ei.size + (olds.drop (i * ei.size)).length ≤ (putCells ROW (i * ei.size) vs).size := by rw [Vg, hdl, hRs]; omega
  refine ⟨G, W1, hGn, hGm, fun ty k hk => by subst hk; exact hap ty, fun W hW ty dc => ?_, fun W hW ty dc sc => ?_, fun W hW ho ht hu' => ?_, by rw [hW1]; rfl, by rw [hW1]; rfl, by rw [hW1]; rfl⟩
  · refine copy_run W t t ty e inf _ _ _ dc ⟨vb, voff, none⟩ _ vc _ hu hI (by rw [hmin1, hO.len, hsz, Nat.one_mul]) (fun j v hj => ?_) (hW ▸ hn1) hfitA hO.ones
    rw [Addr.add_lit, World.cell?_of_block (w := w) (by rw [hW]; exact ho1 _ hvw)]
    exact hO.cells j v hj
  · refine copy_run W t t ty e inf _ _ _ dc ⟨g, i * ei.size, none⟩ _ sc _ hu hI (by rw [hmin, hdl, hsz]) (fun j v hj => ?_) (hW ▸ hg2) hfitB fun v hv => hR.ones v (List.mem_of_mem_drop hv)
    have := olds_cell hg htk j v hj
    rw [Addr.add_lit] at this ⊢
    rw [World.cell?_of_block (w := w) (by rw [hW]; exact (Kl w.heap.size (show g ≠ w.heap.size by omega) _ _ _).trans (ho1 _ hgw))]
    exact this
  · obtain ⟨p1, p2, p3⟩ := Ux w.heap.size (olds.drop (i * ei.size)) ((i + 1) * ei.size) W
    have hg3 := Vy w.heap.size (olds.drop (i * ei.size)) ((i + 1) * ei.size) W (hW ▸ hg2)
    have hsz3 : (W.setCells w.heap.size ((i + 1) * ei.size) (olds.drop (i * ei.size))).heap.size = w.heap.size + 1 := by rw [Hw, hW, Hw, hs1]
    refine ⟨_, rfl, ⟨p1.trans ho, p2.trans ht, p3.trans hu', by omega, w.heap.size, G, _, e, rfl, hg3, by rw [Vg, Vg]; exact hRs, ?_, hGn, hGm, .inr ⟨Nat.le_refl _, by omega, fun b hb => ?_⟩⟩⟩
    · rw [Uz hfitB, Uz hfitA, hRt]
      have hl : (olds.take (i * ei.size) ++ vs).length = (i + 1) * ei.size := by rw [List.length_append, htl, hO.len]; omega
      rw [show ((olds.take (i * ei.size) ++ vs ++ ROW.toList.drop (i * ei.size + vs.length)).take ((i + 1) * ei.size)) = olds.take (i * ei.size) ++ vs from by rw [← hl, List.take_left]]
      have hl3 : (olds.take (i * ei.size) ++ vs ++ olds.drop (i * ei.size)).length = (m + 1) * ei.size := by
        rw [List.length_append, List.length_append, hdl, hO.len, htl, k3]; omega
      rw [← hl3, List.take_left]
    · rw [Kl _ (show b ≠ w.heap.size by omega), hW, Kl _ (show b ≠ w.heap.size by omega)]
      exact ho1 b hb
theorem road_del {z1 : Nat} {z2 : List C} {z3 : List LK} {tt : List (Nat × TI)} (htt : ttOk P tt = true) (g1 : get tt t = some ⟨.sli e, z1, z2, z3⟩) (g2 : get tt e = some ei) (hn : 0 < ei.size) (hg : w.heap[g]? = some (.cells cur e0 (0, 0))) (hcs : cur.size = cap * ei.size) (htk : cur.toList.take (m * ei.size) = olds)
    (hR : RowAt w ei.size (some ⟨g, 0, none⟩) m cap olds) (hi : i < m) :
    ∃ W1, (∀ ty ad, (cap = i + 1 ∨ ad = ⟨g, (i + 1) * ei.size, none⟩) → (Builtin.append_ #[t, t] ty #[.slice (some ⟨g, 0, none⟩) i cap, .slice (some ad) (m - (i + 1)) (cap - (i + 1))]).run P w = .ok (.slice (some ⟨g, 0, none⟩) (m - 1) cap) W1) ∧ W1.os = w.os ∧ W1.tape = w.tape ∧ W1.output = w.output ∧
    ∀ W : World, W.heap = W1.heap → W.os = w.os → W.tape = w.tape → W.output = w.output → ∃ W2 : World, (∀ ty, (Builtin.clear_ #[t] ty #[.slice (some ⟨g, (m - 1) * ei.size, none⟩) (m - (m - 1)) (cap - (m - 1))]).run P W = .ok (.tuple #[]) W2) ∧
      ∀ W3 : World, W3.heap = W2.heap → W3.os = W2.os → W3.tape = W2.tape → W3.output = W2.output → DelTo w ei.size i (some ⟨g, 0, none⟩) m cap olds (.returned (.slice (some ⟨g, 0, none⟩) (m - 1) cap)) W3 := by
  have hei := Zl htt g2
  have hu := (Zl htt g1).sli
  obtain ⟨inf, z, hI, hsz, hby, hz, hzs, _⟩ := hei.info
  obtain ⟨k1, k2, k3, k4⟩ := goIdx (n := ei.size) hi
  have hle := hR.le
  have hlim := hR.lim
  have k6 : m * ei.size ≤ cap * ei.size := Nat.mul_le_mul_right _ hle
  have k7 : (m - 1) * ei.size = m * ei.size - ei.size := by rw [Nat.sub_mul, Nat.one_mul]
  have k8 : (m - (i + 1)) * ei.size = m * ei.size - (i + 1) * ei.size := Nat.sub_mul ..
  have hdl : (olds.drop ((i + 1) * ei.size)).length = (m - (i + 1)) * ei.size := by rw [List.length_drop, hR.len, k8]
  have hfit : i * ei.size + (olds.drop ((i + 1) * ei.size)).length ≤ cur.size := by rw [hdl, hcs]; omega
  have hg1 := Vy g (olds.drop ((i + 1) * ei.size)) (i * ei.size) w hg
  have hcs1 : (putCells cur (i * ei.size) (olds.drop ((i + 1) * ei.size))).size = cap * ei.size := by rw [Vg]; exact hcs
  obtain ⟨q1, q2, q3⟩ := Ux g (olds.drop ((i + 1) * ei.size)) (i * ei.size) w
  have hlist : (putCells cur (i * ei.size) (olds.drop ((i + 1) * ei.size))).toList.take ((m - 1) * ei.size) = olds.take (i * ei.size) ++ olds.drop ((i + 1) * ei.size) := by
    have hci : cur.toList.take (i * ei.size) = olds.take (i * ei.size) := by
      rw [← htk, List.take_take]; congr 1; omega
    have hl : (olds.take (i * ei.size) ++ olds.drop ((i + 1) * ei.size)).length = (m - 1) * ei.size := by
      rw [List.length_append, hdl, List.length_take, hR.len]; omega
    rw [Uz hfit, hci, ← hl, List.take_left]
  refine ⟨w.setCells g (i * ei.size) (olds.drop ((i + 1) * ei.size)), fun ty ad had => ?_, q1, q2, q3, fun W hW ho ht hu' => ?_⟩
  · have hs : Src P inf.size t (.slice (some ad) (m - (i + 1)) (cap - (i + 1))) (m - (i + 1)) (olds.drop ((i + 1) * ei.size)) w := by
      refine Src.ofSlice w hu _ _ _ _ (by rw [hdl, hsz]) (fun j u hj => ?_) fun u hu => hR.ones u (List.mem_of_mem_drop hu)
      rcases had with had | rfl
      · have : (olds.drop ((i + 1) * ei.size)).length = 0 := by rw [hdl, show m - (i + 1) = 0 by omega, Nat.zero_mul]
        rw [List.length_eq_zero_iff.1 this] at hj
        simp at hj
      · exact olds_cell hg htk j u hj
    have hr := run_append_room_src (P := P) w t t ty e inf hu hI g 0 i cap _ _ _ hs (by omega) (fun j hj => by
      rw [hsz]
      have : 0 + i * ei.size + j < cur.size := by omega
      simp only [World.cell?, hg, Array.getElem?_eq_getElem this]; rfl) (fun j hj => by simp [World.frozen?, hg])
    rw [hsz, Nat.zero_add, show i + (m - (i + 1)) = m - 1 by omega] at hr
    exact hr
  · obtain ⟨zs, ps, hzl, hpl, hzv, hrun⟩ := clear_run (P := P) (w := W) (m := m) (i := m - 1) htt g1 g2 rfl (hW ▸ hg1) hcs1 (by omega) hle 0
    refine ⟨_, fun ty => hrun, fun W3 h3 o3 t3 u3 => ?_⟩
    have hgw := setRow_heap W g _ ((putCells cur (i * ei.size) (olds.drop ((i + 1) * ei.size))).toList.take ((m - 1) * ei.size) ++ (List.replicate (m - (m - 1)) zs).flatten ++ (putCells cur (i * ei.size) (olds.drop ((i + 1) * ei.size))).toList.drop ((m - 1) * ei.size + (m - (m - 1)) * ei.size)).toArray e0 (0, 0) (hW ▸ hg1)
    rw [← h3] at hgw
    have hfl : ((List.replicate (m - (m - 1)) zs).flatten).length = (m - (m - 1)) * ei.size := by
      rw [List.length_flatten, List.map_replicate, hzl]; simp
    have h5 : (m - (m - 1)) * ei.size = ei.size := by rw [show m - (m - 1) = 1 by omega, Nat.one_mul]
    refine ⟨_, rfl, ⟨o3.trans ho, t3.trans ht, u3.trans hu', ?_, g, cap, _, e0, rfl, hgw, ?_, ?_, by omega, hR.cap, .inl ⟨rfl, by omega, fun b hb => ?_⟩⟩⟩
    · rw [h3]; simp only [World.setRow, Array.size_modify]; rw [hW, Hw]; exact Nat.le_refl _
    · simp only [List.size_toArray, List.length_append, hfl, List.length_take, List.length_drop, Array.length_toList, hcs1]
      omega
    · show ((_ : List Value) ++ _ ++ _).take _ = _
      have hl : ((putCells cur (i * ei.size) (olds.drop ((i + 1) * ei.size))).toList.take ((m - 1) * ei.size)).length = (m - 1) * ei.size := by
        rw [List.length_take, Array.length_toList, hcs1]; omega
      rw [List.append_assoc, List.take_append_of_le_length (by rw [hl]; omega), List.take_of_length_le (by rw [hl]; omega), hlist]
    · rw [h3, setRow_other W g b _ hb, hW, Kl g hb]
def Qdt {α : Type} (l : List α) (j : Nat) (y : α) : List α := l.take j ++ [y] ++ l.drop j
def delAt {α : Type} (l : List α) (j : Nat) : List α := l.take j ++ l.drop (j + 1)
theorem atake_insT {α : Type} [GoE α] {f n : Nat} (hok : Jr P f) (h0 : 0 < n)
    (hrun : ∀ w oa m cap olds i vb voff vc vs, RowAt w n oa m cap olds → OneAt w n oa cap vb voff vs → i ≤ m → Calls P f #[.slice oa m cap, .int .i64 (i : Int), .slice (some ⟨vb, voff, none⟩) 1 vc] w (InsTo w n i oa m cap olds vs))
    (l : List α) (y : α) {i : Int} (hi : 0 ≤ i) (hj : i ≤ l.length) (hl : l.length < 1073741824) : ATake P f n (eL l) [.one (.int .i64 i), .one (.slc .sh n (eL [y]))] true false (eL (Qdt l i.toNat y)) := by
  have h := atake_ins hok h0 hrun (l := eL l) (x := GoE.enc y) (i := i) (j := i.toNat) (by omega) (by simp [eL]; omega) (by simpa [eL] using hl)
  rw [show eL (Qdt l i.toNat y) = (eL l).take i.toNat ++ [GoE.enc y] ++ (eL l).drop i.toNat by simp [Qdt, eL, List.map_take, List.map_drop]]
  exact h
theorem atake_delT {α : Type} [GoE α] {f n : Nat} (hok : Jr P f)
    (hrun : ∀ w oa m cap olds i, RowAt w n oa m cap olds → i < m → Calls P f #[.slice oa m cap, .int .i64 (i : Int), .int .i64 ((i : Int) + 1)] w (DelTo w n i oa m cap olds))
    (l : List α) {i k : Int} (hi : 0 ≤ i) (hk : k = i + 1) (hj : i < l.length) (hl : l.length < 1073741824) : ATake P f n (eL l) [.one (.int .i64 i), .one (.int .i64 k)] true false (eL (delAt l i.toNat)) := by
  have h := atake_del hok hrun (l := eL l) (i := i) (k := k) (j := i.toNat) (by omega) (by omega) (by simp [eL]; omega) (by simpa [eL] using hl)
  rw [show eL (delAt l i.toNat) = (eL l).take i.toNat ++ (eL l).drop (i.toNat + 1) by simp [delAt, eL, List.map_take, List.map_drop]]
  exact h
end
end Go.Proofs.YtamghcfmhfknmaaGreat
namespace Go.Proofs.YtamghcfmhfknmaaGreat
open Go.RowKit
theorem atake_flat {P : Program} {f n : Nat} {l l' : List (List PV)} {args : List AV} (h : ATake P f n l args true false l') (hf : Qc8 l') : ATake P f n l args false false l' := by
  refine ⟨h.1, fun w F G L v vals hok hFG _ hGs hnd hLG hrow hargs => ?_⟩
  refine (h.2 w G G L v vals hok (fun _ h => h) (fun _ _ h => h) hGs hnd hLG (OwnTop.keep hrow (fun b hb => ⟨hFG b hb, rfl⟩) fun _ _ => rfl) hargs).mono ?_
  rintro e w' ⟨u, rfl, h1, h2, L', h3, h4, h5⟩
  refine ⟨u, rfl, h1, h2, L', h3, h4, ?_⟩
  rcases h5 with h5 | ⟨g, cap, cur, e, rfl, rfl, hg, hs, hr, h5, h6⟩
  · exact .inl h5
  · exact .inr ⟨g, cap, cur, e, rfl, rfl, hg, hs, OR.vr (VR.orr (w' := w') hr hf) fun b hb => (by simp at hb), h5, h6⟩
theorem rng_lc {n : Nat} {hi : Int} (h0 : 0 ≤ hi) (h1 : hi ≤ (n : Int)) : (0 : Int) ≤ 0 ∧ 0 ≤ hi ∧ hi ≤ (n : Int) := ⟨Int.le_refl _, h0, h1⟩
section
variable {α : Type} {p : α → Bool}
def ixF (p : α → Bool) : List α → Int
  | [] => -1
  | a :: l => bif p a then 0 else bif ixF p l == -1 then -1 else ixF p l + 1
theorem ixF_bd (p : α → Bool) : ∀ l : List α, -1 ≤ ixF p l ∧ ixF p l < l.length
  | [] => by simp [ixF]
  | a :: l => by
    have ih := ixF_bd p l
    simp only [ixF, List.length_cons]
    cases p a with
    | true => simp only [cond_true]; omega
    | false =>
      simp only [cond_false]
      cases h : (ixF p l == -1) with
      | true => simp only [cond_true]; omega
      | false => simp only [cond_false]; omega
theorem idx_go {f : Nat → α → Unit → Rd Int Unit Unit} {e : Nat → Unit → Unit} (hf : ∀ k a s, f k a s = bif p a then .ret ((k : Nat) : Int) else .next ()) : ∀ (l : List α) (k : Nat), Xv f e l k () = bif ixF p l == -1 then .brk () else .ret ((k : Int) + ixF p l)
  | [], k => rfl
  | a :: l, k => by
    simp only [Xv, hf, ixF]
    cases p a with
    | true => simp only [cond_true]; rw [show ((0 : Int) == -1) = false from rfl, cond_false, Int.add_zero]
    | false =>
      simp only [cond_false]
      rw [idx_go hf l (k + 1)]
      have hb := ixF_bd p l
      cases h : (ixF p l == -1) with
      | true => simp only [cond_true]; rfl
      | false =>
        have hne : ixF p l ≠ -1 := by simpa using h
        simp only [cond_false]
        rw [show (ixF p l + 1 == -1) = false by simp; omega, cond_false]
        congr 1; omega
theorem idx_eq {f : Nat → α → Unit → Rd Int Unit Unit} {e : Nat → Unit → Unit} (hf : ∀ k a s, f k a s = bif p a then .ret ((k : Nat) : Int) else .next ()) (l : List α) : Out.on (Xv f e l 0 ()) (fun _ => -1) = ixF p l := by
  rw [idx_go hf]
  cases h : (ixF p l == -1) with
  | true => simp only [cond_true, Out.on]; exact (by simpa using h : ixF p l = -1).symm
  | false => simp only [cond_false, Out.on]; omega
theorem ixF_none {l : List α} (h : ixF p l = -1) : ∀ a, a ∈ l → p a = false := by
  induction l with
  | nil => intro a ha; simp at ha
  | cons b l ih =>
    intro a ha
    have hb := ixF_bd p l
    simp only [ixF] at h
    cases hp : p b with
    | true => rw [hp] at h; simp at h
    | false =>
      rw [hp] at h
      simp only [cond_false] at h
      cases h2 : (ixF p l == -1) with
      | true => rcases List.mem_cons.1 ha with rfl | ha
                · exact hp
                · exact ih (by simpa using h2) a ha
      | false => rw [h2] at h; simp only [cond_false] at h; omega
theorem ixF_some {l : List α} {i : Nat} (h : ixF p l = (i : Int)) : (l.take i).filter (fun a => !p a) = l.take i ∧ ∃ a, l[i]? = some a ∧ p a = true := by
  induction l generalizing i with
  | nil => simp [ixF] at h
  | cons b l ih =>
    have hb := ixF_bd p l
    simp only [ixF] at h
    cases hp : p b with
    | true =>
      rw [hp] at h
      simp only [cond_true] at h
      obtain rfl : i = 0 := by omega
      exact ⟨rfl, b, rfl, hp⟩
    | false =>
      rw [hp] at h
      simp only [cond_false] at h
      cases h2 : (ixF p l == -1) with
      | true => rw [h2] at h; simp only [cond_true] at h; omega
      | false =>
        rw [h2] at h
        simp only [cond_false] at h
        have : ixF p l ≠ -1 := by simpa using h2
        obtain ⟨j, rfl⟩ : ∃ j, i = j + 1 := ⟨i - 1, by omega⟩
        obtain ⟨h3, a, h4, h5⟩ := ih (i := j) (by omega)
        exact ⟨by simp [hp, h3], a, by simpa using h4, h5⟩
theorem whl_more {R S T : Type} {f : S → Rd R S T} : ∀ {n m : Nat} {s : S} {x : Out R T}, whl f n s = some x → n ≤ m → whl f m s = some x
  | 0, _, _, _, h, _ => by simp [whl] at h
  | n + 1, 0, _, _, _, hm => absurd hm (Nat.not_succ_le_zero n)
  | n + 1, m + 1, s, x, h, hm => by
    simp only [whl] at h ⊢
    cases hf : f s with
    | brk t => rw [hf] at h; exact h
    | ret r => rw [hf] at h; exact h
    | next s' => rw [hf] at h; exact whl_more h (by omega)
variable [Inhabited α]
def DelStep {R : Type} (f : List α × Int × Int → Rd R (List α × Int × Int) (List α × Int)) (p : α → Bool) : Prop :=
  ∀ (s : List α) (i j : Nat), i < j → j ≤ 1073741824 → f (s, (i : Int), (j : Int)) = bif decide ((j : Int) < (s.length : Int)) then (bif p (nth s j) then .next (s, (i : Int), ((j + 1 : Nat) : Int)) else .next (s.set i (nth s j), ((i + 1 : Nat) : Int), ((j + 1 : Nat) : Int))) else .brk (s, (i : Int))
theorem del_run {R : Type} {f : List α × Int × Int → Rd R (List α × Int × Int) (List α × Int)} (hf : DelStep f p) (o : List α) (ho : o.length ≤ 1073741824) : ∀ (n : Nat) (s : List α) (i j : Nat), j + n = o.length → i < j → s.length = o.length → s.take i = (o.take j).filter (fun a => !p a) → s.drop j = o.drop j →
    ∃ s' i', whl f (n + 1) (s, (i : Int), (j : Int)) = some (.brk (s', ((i' : Nat) : Int))) ∧ s'.take i' = o.filter (fun a => !p a) ∧ i' < o.length ∧ s'.length = o.length
  | 0, s, i, j, hn, hij, hl, ht, hd => by
    refine ⟨s, i, ?_, ?_, by omega, hl⟩
    · simp only [whl, hf s i j hij (by omega)]
      rw [decide_eq_false (by omega)]
      rfl
    · rw [ht, List.take_of_length_le (by omega)]
  | n + 1, s, i, j, hn, hij, hl, ht, hd => by
    have hj : j < s.length := by omega
    have hjo : j < o.length := by omega
    have hx : nth s j = o[j] := by
      have h1 : s[j]? = o[j]? := by
        have := congrArg (fun l => l[0]?) hd
        simpa [List.getElem?_drop] using this
      rw [List.getElem?_eq_getElem hjo] at h1
      simp [nth, List.getD, h1]
    have htj : o.take (j + 1) = o.take j ++ [o[j]] := by rw [List.take_add_one, List.getElem?_eq_getElem hjo]; rfl
    have hd1 : ∀ s2 : List α, s2.drop (j + 1) = s.drop (j + 1) → s2.drop (j + 1) = o.drop (j + 1) := fun s2 h2 => by
      have := congrArg (List.drop 1) hd
      rw [List.drop_drop, List.drop_drop] at this
      exact h2.trans this
    have hst : f (s, (i : Int), (j : Int)) = _ := hf s i j hij (by omega)
    rw [decide_eq_true (by omega), hx] at hst
    simp only [cond_true] at hst
    cases hp : p o[j] with
    | true =>
      rw [hp] at hst
      simp only [whl, hst, cond_true]
      exact del_run hf o ho n s i (j + 1) (by omega) (by omega) hl (by rw [ht, htj, List.filter_append]; simp [hp]) (hd1 s rfl)
    | false =>
      rw [hp] at hst
      simp only [whl, hst, cond_false]
      refine del_run hf o ho n (s.set i o[j]) (i + 1) (j + 1) (by omega) (by omega) (by simpa using hl) ?_ (hd1 _ (List.drop_set_of_lt (by omega)))
      rw [htj, List.filter_append, ← ht]
      rw [List.take_add_one, List.take_set_of_le (Nat.le_refl i), List.getElem?_set_self (by omega)]
      simp [hp]
theorem del_main {R : Type} {f : List α × Int × Int → Rd R (List α × Int × Int) (List α × Int)} (hf : DelStep f p) {o : List α} (ho : o.length ≤ 1073741824) {ix : Int} (hix : ix = ixF p o) (hne : ix ≠ -1) :
    ∃ s' i', whl f (o.length + 1) (o, ix, ix + 1) = some (.brk (s', ((i' : Nat) : Int))) ∧ s'.take i' = o.filter (fun a => !p a) ∧ i' < o.length ∧ s'.length = o.length := by
  have hb := ixF_bd p o
  obtain ⟨i, hi⟩ : ∃ i : Nat, ix = (i : Int) := ⟨ix.toNat, by omega⟩
  obtain ⟨h1, a, h2, h3⟩ := ixF_some (p := p) (l := o) (i := i) (by omega)
  have hio : i < o.length := by omega
  obtain ⟨s', i', h4, h5⟩ := del_run hf o ho (o.length - (i + 1)) o i (i + 1) (by omega) (by omega) rfl (by
    rw [List.take_add_one, h2, List.filter_append, h1]; simp [h3]) rfl
  refine ⟨s', i', ?_, h5⟩
  subst hi
  exact whl_more h4 (by omega)
theorem del_some {R : Type} {f : List α × Int × Int → Rd R (List α × Int × Int) (List α × Int)} (hf : DelStep f p) {o : List α} (ho : o.length ≤ 1073741824) {ix : Int} (hix : ix = ixF p o) (hne : ix ≠ -1) : (whl f (o.length + 1) (o, ix, ix + 1)).isSome = true := by
  obtain ⟨s', i', h, _⟩ := del_main hf ho hix hne
  rw [h]; rfl
theorem del_eq {f : List α × Int × Int → Rd (List α) (List α × Int × Int) (List α × Int)} (hf : DelStep f p) {o : List α} (ho : o.length ≤ 1073741824) {ix : Int} (hix : ix = ixF p o) :
    (bif (ix == (-1 : Int)) then o else Out.on (whlD f (o.length + 1) (o, ix, ix + 1)) (fun y => List.take (Int.toNat y.2) y.1)) = o.filter (fun a => !p a) := by
  cases h : (ix == (-1 : Int)) with
  | true =>
    have h : ix = -1 := by simpa using h
    simp only [cond_true]
    exact (List.filter_eq_self.2 fun a ha => by simp [ixF_none (hix ▸ h) a ha]).symm
  | false =>
    obtain ⟨s', i', h1, h2, _⟩ := del_main hf ho hix (by simpa using h)
    simp only [cond_false, whlD, h1]
    simpa [Out.on] using h2
end
open GoE (enc wide)
set_option maxRecDepth 100000 in
set_option maxHeartbeats 4000000 in
theorem insDir_run (w : World) (oa : Option Addr) (m cap : Nat) (olds : List Value) (i vb voff vc : Nat) (vs : List Value) (hR : RowAt w 2 oa m cap olds) (hO : OneAt w 2 oa cap vb voff vs) (hi : i ≤ m) : Calls Tryz.prog 186 #[.slice oa m cap, .int .i64 (i : Int), .slice (some ⟨vb, voff, none⟩) 1 vc] w (InsTo w 2 i oa m cap olds vs) := by
  have hei := Zl Qb (t := 57) rfl
  have hu := (Zl Qb (t := 43) rfl).sli
  have hui := run_underlying (P := Tryz.prog) hu
  have hsz : ∀ w, (Go.sizeOf 57).run Tryz.prog w = .ok 2 w := fun w => Hi (Zl Qb (t := 57) rfl) w
  have hlim := hR.lim
  have hle := hR.le
  have hcm : cap ≤ 9223372036854775807 := by have := hR.cap; unfold maxLen at this; omega
  have mixed := Js
  have hz1 : ¬ ((1 : Int) = 0) := by omega
  by_cases him : i = m
  · subst him
    obtain ⟨u, w', hrun, u', h1, hT⟩ := road_end (vc := vc) hu hei (by decide) hR hO
    cases h1
    have hc : Calls Tryz.prog 186 #[.slice oa i cap, .int .i64 (i : Int), .slice (some ⟨vb, voff, none⟩) 1 vc] w (fun e w2 => e = .returned u ∧ w2 = w') := by
      clear hT hR hO hei
      go_enter Tryz.func186, Tryz.ntmps186
      cases oa with
      | none =>
        go_wp2_with (at_builtin; refine Lib.wpList_append_run _ rfl _ _ _ _ rfl _ _ rfl rfl _ _ (hrun _) ?_)
        all_goals (go_ret; exact ⟨rfl, rfl⟩)
      | some a =>
        obtain ⟨ab, ao, asp⟩ := a
        go_wp2_with (at_builtin; refine Lib.wpList_append_run _ rfl _ _ _ _ rfl _ _ rfl rfl _ _ (hrun _) ?_)
        all_goals (go_ret; exact ⟨rfl, rfl⟩)
    exact hc.mono (by rintro e w2 ⟨rfl, rfl⟩; exact ⟨_, rfl, hT⟩)
  · rcases hR.row with ⟨_, h0, _⟩ | ⟨g, cur, e0, rfl, hg, hcs, htk⟩
    · omega
    have him2 : i < m := by omega
    have hz2 : ¬ ((i : Int) = (m : Int)) := by omega
    have hw1 : IntKind.i64.wrap ((m : Int) + 1) = (m : Int) + 1 := by rw [IntKind.wrap_i64]; omega
    have hw2 : IntKind.i64.wrap ((i : Int) + 1) = (i : Int) + 1 := by rw [IntKind.wrap_i64]; omega
    have htn : ((i : Int) + 1).toNat = i + 1 := by omega
    have htm : ((m : Int) + 1).toNat = m + 1 := by omega
    have hb1 : (0 : Int) ≤ (i : Int) + 1 := by omega
    have hb3 : (i : Int) ≤ (m : Int) + 1 := by omega
    have hbm : (0 : Int) ≤ (m : Int) + 1 := by omega
    have hin : i ≤ m := hi
    obtain ⟨hvw, arrA, tA, frA, hA, hposA⟩ := hO.block (by decide)
    have hcp : 0 < cap := by omega
    have hvg : vb ≠ g := hO.ne g rfl hcp
    have hov : ∀ o lb cb, (callFunc 232 #[.slice (some ⟨vb, voff, none⟩) 1 vc, .slice (some ⟨g, o, none⟩) lb cb]).run Tryz.prog w = .ok (.value (.bool false)) w := fun o lb cb => by
      rw [run_callFunc_extern Tryz.func232 (by kernel_rfl) (by kernel_rfl) (by kernel_rfl) (e := Extern.SlicesOverlaps.overlaps #[43, 43] #[4]) (by kernel_rfl), overlaps_run w 43 4 57 hu 2 hsz ⟨vb, voff, none⟩ ⟨g, o, none⟩ 1 vc lb cb hvg hA hg (by omega) hposA]
      rfl
    by_cases hroom : m + 1 ≤ cap
    · obtain ⟨q1, q2, q3⟩ := road_room (vc := vc) (w := w) hu hei (by decide) hg hcs htk hR hO him2 hroom
      have hb2 : ¬ (cap = i + 1) := by omega
      have hb4 : ¬ (cap = i) := by omega
      have hng : ¬ ((cap : Int) < (m : Int) + 1) := by omega
      have hmc : ((m : Int) + 1) ≤ (cap : Int) := by omega
      have hc : Calls Tryz.prog 186 #[.slice (some ⟨g, 0, none⟩) m cap, .int .i64 (i : Int), .slice (some ⟨vb, voff, none⟩) 1 vc] w (fun e w2 => e = .returned (.slice (some ⟨g, 0, none⟩) (m + 1) cap) ∧ w2 = (w.drew.setCells g ((i + 1) * 2) (olds.drop (i * 2))).setCells g (i * 2) vs) := by
        obtain ⟨q4, q5, q6⟩ := road_room (vc := vc) (w := w.drew) hu hei (by decide) hg hcs htk ⟨hR.len, hR.row, hR.le, hR.cap, hR.lim, hR.ones⟩ ⟨hO.len, hO.cells, hO.ones, hO.ne⟩ him2 hroom
        clear hR hO hei q1 q2 q3 q6 hg hA hcs htk
        go_enter Tryz.func186, Tryz.ntmps186
        go_wp2_with (simp only [hov])
        go_region_law (refine step_copy_rn rfl _ _ 43 43 rfl (.slice (some ⟨g, (i + 1) * 2, none⟩) (m + 1 - (i + 1)) (cap - (i + 1))) (.slice (some ⟨g, i * 2, none⟩) (m + 1 - i) (cap - i)) (by simp [Act.eval, Act.put]) (by simp [Act.eval, Act.put]) (q4 _ _ _) ?_)
        go_wp2_with (at_builtin; refine wpList_copy_rn rfl _ _ 43 43 rfl (.slice (some ⟨g, i * 2, none⟩) (m + 1 - i) (cap - i)) _ (by simp [Act.eval, Act.put]) rfl (q5 _ rfl _ _) ?_)
        go_ret
        exact ⟨rfl, rfl⟩
      refine hc.mono ?_
      rintro e w2 ⟨rfl, rfl⟩
      obtain ⟨p1, p2, p3⟩ := Ux g (olds.drop (i * 2)) ((i + 1) * 2) w.drew
      exact q3 _ (Qes g _ _ w) p1 p2 p3
    · obtain ⟨G, W1, hG1, hG2, qa, qb, qc, qd, o1, o2, o3⟩ := road_grow (vc := vc) (tn := 3) hu (by kernel_rfl) hei (by decide) hg hcs htk hR hO hvw him2 (by omega)
      have hG63 : G ≤ 9223372036854775807 := by unfold maxLen at hG2; omega
      have hGi : ¬ (G = i) := by omega
      have hGim : ¬ (G = i + 1) := by omega
      have hci : ¬ (cap = i) := by omega
      have hlt : (cap : Int) < (m : Int) + 1 := by omega
      have hw3 : IntKind.i64.wrap ((m : Int) + 1 - (i : Int)) = (m : Int) + 1 - (i : Int) := by rw [IntKind.wrap_i64]; omega
      have hii : (i : Int) ≤ (m : Int) := by omega
      have hqa : ∀ ty, (Builtin.append_ #[43, 3] ty #[.slice (some ⟨g, 0, none⟩) i cap, .int .i64 ((m : Int) + 1 - (i : Int))]).run Tryz.prog w = .ok (.slice (some ⟨w.heap.size, 0, none⟩) (m + 1) G) W1 := fun ty => qa ty _ (by omega)
      have hqb := qb W1 rfl
      have hqc := qc (W1.setCells w.heap.size (i * 2) vs).drew rfl
      have hc : Calls Tryz.prog 186 #[.slice (some ⟨g, 0, none⟩) m cap, .int .i64 (i : Int), .slice (some ⟨vb, voff, none⟩) 1 vc] w (fun e w2 => e = .returned (.slice (some ⟨w.heap.size, 0, none⟩) (m + 1) G) ∧ w2 = (W1.setCells w.heap.size (i * 2) vs).drew.setCells w.heap.size ((i + 1) * 2) (olds.drop (i * 2))) := by
        clear hR hO hei qa qb qc qd hg hA hcs htk hov hG1 hG2
        go_enter Tryz.func186, Tryz.ntmps186
        go_wp2_with (first
          | (at_builtin; refine Lib.wpList_append_run _ rfl _ _ _ _ rfl _ _ rfl rfl _ _ (hqa _) ?_)
          | (at_builtin; refine wpList_copy_rn rfl _ _ 43 43 rfl (.slice (some ⟨w.heap.size, i * 2, none⟩) (m + 1 - i) (G - i)) _ (by simp [Act.eval, Act.put]) rfl (hqb _ _) ?_))
        go_region_law (refine step_copy_rn rfl _ _ 43 43 rfl (.slice (some ⟨w.heap.size, (i + 1) * 2, none⟩) (m + 1 - (i + 1)) (G - (i + 1))) (.slice (some ⟨g, i * 2, none⟩) (m - i) (cap - i)) (by simp [Act.eval, Act.put]) (by simp [Act.eval, Act.put]) (hqc _ _ _) ?_)
        go_wp2
        go_ret
        exact ⟨rfl, rfl⟩
      refine hc.mono ?_
      rintro e w2 ⟨rfl, rfl⟩
      obtain ⟨p1, p2, p3⟩ := Ux w.heap.size vs (i * 2) W1
      exact qd _ rfl (p1.trans o1) (p2.trans o2) (p3.trans o3)
theorem insDir_a (l : List Zt) (y : Zt) {i : Int} (hi : 0 ≤ i) (hj : i ≤ l.length) (hl : l.length < 1073741824) : ATake Tryz.prog 186 2 (eL l) [.one (.int .i64 i), .one (.slc .sh 2 (eL [y]))] true false (eL (Qdt l i.toNat y)) :=
 atake_insT (by unfold Jr; kernel_rfl) (by decide) (fun w oa m cap olds i vb voff vc vs => insDir_run w oa m cap olds i vb voff vc vs) l y hi hj hl
set_option maxRecDepth 100000 in
set_option maxHeartbeats 4000000 in
theorem delDir_run (w : World) (oa : Option Addr) (m cap : Nat) (olds : List Value) (i : Nat) (hR : RowAt w 2 oa m cap olds) (hi : i < m) : Calls Tryz.prog 139 #[.slice oa m cap, .int .i64 (i : Int), .int .i64 ((i : Int) + 1)] w (DelTo w 2 i oa m cap olds) := by
  have hu := (Zl Qb (t := 43) rfl).sli
  have hui := run_underlying (P := Tryz.prog) hu
  have hsz : ∀ w, (Go.sizeOf 57).run Tryz.prog w = .ok 2 w := fun w => Hi (Zl Qb (t := 57) rfl) w
  have hlim := hR.lim
  have hle := hR.le
  have hcm : cap ≤ 9223372036854775807 := by have := hR.cap; unfold maxLen at this; omega
  have mixed := Js
  rcases hR.row with ⟨_, h0, _⟩ | ⟨g, cur, e0, rfl, hg, hcs, htk⟩
  · omega
  obtain ⟨W1, qa, o1, o2, o3, qw⟩ := road_del (w := w.drew) Qb (t := 43) (e := 57) rfl rfl (by decide) hg hcs htk ⟨hR.len, hR.row, hR.le, hR.cap, hR.lim, hR.ones⟩ hi
  obtain ⟨W2, hcl, qd⟩ := qw W1 rfl o1 o2 o3
  have hd : DelTo w 2 i (some ⟨g, 0, none⟩) m cap olds (.returned (.slice (some ⟨g, 0, none⟩) (m - 1) cap)) W2 := by
    obtain ⟨u, h1, h2⟩ := qd W2 rfl rfl rfl rfl
    exact ⟨u, h1, ⟨h2.os, h2.tape, h2.output, h2.size, h2.row⟩⟩
  have hz2 : ¬ ((i : Int) = (i : Int) + 1) := by omega
  have htn : ((i : Int) + 1).toNat = i + 1 := by omega
  have hb1 : (0 : Int) ≤ (i : Int) + 1 := by omega
  have hb2 : (i : Int) ≤ (i : Int) + 1 := by omega
  have hb3 : (i : Int) + 1 ≤ (m : Int) := by omega
  have hb4 : (i : Int) ≤ (cap : Int) := by omega
  have hb5 : (i : Int) + 1 ≤ (cap : Int) := by omega
  have hb6 : (m : Int) ≤ (cap : Int) := by omega
  have hm1 : ((m - 1 : Nat) : Int) = (m : Int) - 1 := by omega
  have hb7 : m - 1 ≤ m := by omega
  have hb8 : ((m - 1 : Nat) : Int) ≤ (m : Int) := by omega
  have hic : ¬ (cap = i) := by omega
  have hcm1 : ¬ (cap = m - 1) := by omega
  have hc : Calls Tryz.prog 139 #[.slice (some ⟨g, 0, none⟩) m cap, .int .i64 (i : Int), .int .i64 ((i : Int) + 1)] w (fun e w2 => e = .returned (.slice (some ⟨g, 0, none⟩) (m - 1) cap) ∧ w2 = W2) := by
    by_cases hc1 : cap = i + 1
    · have hqa : ∀ ty, _ := fun ty => qa ty ⟨g, 0, none⟩ (.inl hc1)
      clear hR hg hcs htk qa qw qd hd hm1
      subst hc1
      go_enter Tryz.func139, Tryz.ntmps139
      go_wp2_with fail
      go_region_law (refine Qdf rfl _ _ 43 43 rfl (.slice (some ⟨g, 0, none⟩) i (i + 1)) (.slice (some ⟨g, 0, none⟩) (m - (i + 1)) (i + 1 - (i + 1))) (by simp [Act.eval, Act.put]) (by first | (simp [Act.eval, Act.put]; done) | (simp [Act.eval, Act.put]; omega)) (hqa _) ?_)
      go_wp2
      go_ret
      exact ⟨rfl, rfl⟩
    · have hqa : ∀ ty, _ := fun ty => qa ty ⟨g, (i + 1) * 2, none⟩ (.inr rfl)
      clear hR hg hcs htk qa qw qd hd hm1
      go_enter Tryz.func139, Tryz.ntmps139
      go_wp2_with fail
      go_region_law (refine Qdf rfl _ _ 43 43 rfl (.slice (some ⟨g, 0, none⟩) i cap) (.slice (some ⟨g, (i + 1) * 2, none⟩) (m - (i + 1)) (cap - (i + 1))) (by simp [Act.eval, Act.put]) (by simp [Act.eval, Act.put, hc1]) (hqa _) ?_)
      go_wp2
      go_ret
      exact ⟨rfl, rfl⟩
  exact hc.mono (by rintro e w2 ⟨rfl, rfl⟩; exact hd)
theorem delDir_a (l : List Zt) {i k : Int} (hi : 0 ≤ i) (hk : k = i + 1) (hj : i < l.length) (hl : l.length < 1073741824) : ATake Tryz.prog 139 2 (eL l) [.one (.int .i64 i), .one (.int .i64 k)] true false (eL (delAt l i.toNat)) :=
 atake_delT (by unfold Jr; kernel_rfl) (fun w oa m cap olds i => delDir_run w oa m cap olds i) l hi hk hj hl
set_option maxRecDepth 100000 in
set_option maxHeartbeats 4000000 in
theorem delFile_run (w : World) (oa : Option Addr) (m cap : Nat) (olds : List Value) (i : Nat) (hR : RowAt w 5 oa m cap olds) (hi : i < m) : Calls Tryz.prog 183 #[.slice oa m cap, .int .i64 (i : Int), .int .i64 ((i : Int) + 1)] w (DelTo w 5 i oa m cap olds) := by
  have hu := (Zl Qb (t := 40) rfl).sli
  have hui := run_underlying (P := Tryz.prog) hu
  have hsz : ∀ w, (Go.sizeOf 54).run Tryz.prog w = .ok 5 w := fun w => Hi (Zl Qb (t := 54) rfl) w
  have hlim := hR.lim
  have hle := hR.le
  have hcm : cap ≤ 9223372036854775807 := by have := hR.cap; unfold maxLen at this; omega
  have mixed := Js
  rcases hR.row with ⟨_, h0, _⟩ | ⟨g, cur, e0, rfl, hg, hcs, htk⟩
  · omega
  obtain ⟨W1, qa, o1, o2, o3, qw⟩ := road_del (w := w.drew) Qb (t := 40) (e := 54) rfl rfl (by decide) hg hcs htk ⟨hR.len, hR.row, hR.le, hR.cap, hR.lim, hR.ones⟩ hi
  obtain ⟨W2, hcl, qd⟩ := qw W1 rfl o1 o2 o3
  have hd : DelTo w 5 i (some ⟨g, 0, none⟩) m cap olds (.returned (.slice (some ⟨g, 0, none⟩) (m - 1) cap)) W2 := by
    obtain ⟨u, h1, h2⟩ := qd W2 rfl rfl rfl rfl
    exact ⟨u, h1, ⟨h2.os, h2.tape, h2.output, h2.size, h2.row⟩⟩
  have hz2 : ¬ ((i : Int) = (i : Int) + 1) := by omega
  have htn : ((i : Int) + 1).toNat = i + 1 := by omega
  have hb1 : (0 : Int) ≤ (i : Int) + 1 := by omega
  have hb2 : (i : Int) ≤ (i : Int) + 1 := by omega
  have hb3 : (i : Int) + 1 ≤ (m : Int) := by omega
  have hb4 : (i : Int) ≤ (cap : Int) := by omega
  have hb5 : (i : Int) + 1 ≤ (cap : Int) := by omega
  have hb6 : (m : Int) ≤ (cap : Int) := by omega
  have hm1 : ((m - 1 : Nat) : Int) = (m : Int) - 1 := by omega
  have hb7 : m - 1 ≤ m := by omega
  have hb8 : ((m - 1 : Nat) : Int) ≤ (m : Int) := by omega
  have hic : ¬ (cap = i) := by omega
  have hcm1 : ¬ (cap = m - 1) := by omega
  have hc : Calls Tryz.prog 183 #[.slice (some ⟨g, 0, none⟩) m cap, .int .i64 (i : Int), .int .i64 ((i : Int) + 1)] w (fun e w2 => e = .returned (.slice (some ⟨g, 0, none⟩) (m - 1) cap) ∧ w2 = W2) := by
    by_cases hc1 : cap = i + 1
    · have hqa : ∀ ty, _ := fun ty => qa ty ⟨g, 0, none⟩ (.inl hc1)
      clear hR hg hcs htk qa qw qd hd hm1
      subst hc1
      go_enter Tryz.func183, Tryz.ntmps183
      go_wp2_with fail
      go_region_law (refine Qdf rfl _ _ 40 40 rfl (.slice (some ⟨g, 0, none⟩) i (i + 1)) (.slice (some ⟨g, 0, none⟩) (m - (i + 1)) (i + 1 - (i + 1))) (by simp [Act.eval, Act.put]) (by first | (simp [Act.eval, Act.put]; done) | (simp [Act.eval, Act.put]; omega)) (hqa _) ?_)
      go_wp2
      go_ret
      exact ⟨rfl, rfl⟩
    · have hqa : ∀ ty, _ := fun ty => qa ty ⟨g, (i + 1) * 5, none⟩ (.inr rfl)
      clear hR hg hcs htk qa qw qd hd hm1
      go_enter Tryz.func183, Tryz.ntmps183
      go_wp2_with fail
      go_region_law (refine Qdf rfl _ _ 40 40 rfl (.slice (some ⟨g, 0, none⟩) i cap) (.slice (some ⟨g, (i + 1) * 5, none⟩) (m - (i + 1)) (cap - (i + 1))) (by simp [Act.eval, Act.put]) (by simp [Act.eval, Act.put, hc1]) (hqa _) ?_)
      go_wp2
      go_ret
      exact ⟨rfl, rfl⟩
  exact hc.mono (by rintro e w2 ⟨rfl, rfl⟩; exact hd)
theorem delFile_a (l : List Zb) {i k : Int} (hi : 0 ≤ i) (hk : k = i + 1) (hj : i < l.length) (hl : l.length < 1073741824) : ATake Tryz.prog 183 5 (eL l) [.one (.int .i64 i), .one (.int .i64 k)] true false (eL (delAt l i.toNat)) :=
 atake_delT (by unfold Jr; kernel_rfl) (fun w oa m cap olds i => delFile_run w oa m cap olds i) l hi hk hj hl
def Ke (id : Int) (q0 : (List Int)) : Bool := (Ja q0 id)
theorem implwithout_1_a (id : Int) (q0 : (List Int)) : ACalls Tryz.prog 66 [.i id, .one (.rptr .sh [.h q0])] (.b (Ke id q0)) := by
 refine Qt (tt := tt) Qb Tryz.func66 (fn := Tryz.f66) rfl (by unfold Jr; kernel_rfl) (Nat.le_of_ble_eq_true rfl) fun w0 F0 hG => ?_
 refine Qa ?_
 refine rk Qb [(3, .b false)] [] [] [] [] (o0) ?_
 refine Qa ?_
 refine rk Qb [(3, .b (Ja q0 id))] [0, 1, 3] [] [] [(2, .val (.b (Ja q0 id)))] (o1 (Qg (Qdx q0 id))) ?_
 refine Qq ?_
 exact Ze [] (congrArg (fun z => (.b z : AV)) (show Ke id q0 = (Ja q0 id) from rfl).symm)
def Z7 (c0 : (List Int)) (k0 : Nat) (a0 : Int) (_ : Unit) : Rd (Int) (Unit) (Unit) := (bif (Ke a0 c0) then (.ret ((k0 : Nat) : Int)) else (.next ()))
def Z8 (_ : Nat) (_ : Unit) : Unit := ()
def Qv (s_ : (List Int)) (c0 : (List Int)) : Int := (Out.on (Xv (Z7 c0) Z8 s_ 0 ()) (fun _ => -1))
theorem K1 (s_ : (List Int)) (c0 : (List Int)) : Qv s_ c0 = ixF (fun a => Ke a c0) s_ := idx_eq (fun _ _ _ => rfl) s_
theorem Qbr (s_ : (List Int)) (c0 : (List Int)) : -1 ≤ Qv s_ c0 ∧ Qv s_ c0 < (List.length s_ : Int) := by rw [K1]; exact ixF_bd _ _
theorem Qb7 (s_ : (List Int)) (c0 : (List Int)) : ACalls Tryz.prog 113 [.h s_, .one (.fnr 66 [[.h c0]])] (.i (Qv s_ c0)) := by
 refine Qt (tt := tt) Qb Tryz.func113 (fn := Tryz.f113) rfl (by unfold Jr; kernel_rfl) (Nat.le_of_ble_eq_true rfl) fun w0 F0 hG => ?_
 refine Qa ?_
 refine rk Qb [(4, .i 0)] [] [] [] [] (o0) ?_
 refine Qa ?_
 refine Qa ?_
 refine rk Qb [(7, .i (s_.length : Int)), (8, .i 0)] [] [] [] [(1, .val (.i (s_.length : Int)))] (o1 (Qi (Xs s_))) ?_
 refine wdT 0 0 .sh s_ (fun hw1 => ?_)
 have hl2 : List.length s_ ≤ 1073741824 := Qx (hw1)
 refine blk (fun (k0 : Nat) (s0 : Unit) => [(8, .i ((k0 : Nat) : Int))]) [8] (fun k0 s0 => []) [] (fun (y0 : Unit) => []) [0, 1, 7, 8] (fun y0 => []) [] (fun (k0 : Nat) (s0 : Unit) => (Xv (Z7 c0) Z8 s_ 0 ()) = Xv (Z7 c0) Z8 (List.drop k0 s_) k0 s0) (fun (y0 : Unit) => (Xv (Z7 c0) Z8 s_ 0 ()) = .brk y0) s_.length () (Qd (by kernel_rfl)) rfl (fun k0 s0 hk0 hI0 => ?_) (fun k0 s0 hk0 hI0 => ?_) (fun y0 hD0 => ?_)
 ·
  obtain ⟨a0, hx0⟩ := Yl (l := s_) (i := k0) hk0
  refine Qa ?_
  refine rk Qb [(9, .b true)] [] [] [] [(0, .val (.b true))] (o1 (Qi (Qh (decide_eq_true (p := ((k0 : Nat) : Int) < (s_.length : Int)) (by omega))))) ?_
  refine Qa ?_
  refine ckT ?_
  refine Qr ?_
  refine Qa ?_
  refine Xf ?_
  refine Qa ?_
  refine rk Qb [(5, .i ((k0 : Nat) : Int))] [9] [] [] [] (o0) ?_
  refine Qa ?_
  refine rk Qb [(16, .b (Ke a0 c0))] [] [] [] [(3, .row [.i a0]), (5, .val (.b (Ke a0 c0)))] (o2 (Qy (X4 (i := ((k0 : Nat) : Int)) (by omega) rfl hx0)) (o1 (Qg (implwithout_1_a a0 c0)))) ?_
  refine ck (Ke a0 c0) (fun h3 => ?_) (fun h3 => ?_)
  ·
   refine Qa ?_
   refine rk Qb [(4, .i ((k0 : Nat) : Int))] [4, 5, 16] [] [] [] (o0) ?_
   refine Qq ?_
   have hr4 : (Xv (Z7 c0) Z8 s_ 0 ()) = .ret ((k0 : Nat) : Int) := Jy hx0 (X8 h3 (rfl)) hI0
   exact Ze [] (congrArg (fun z => (.i z : AV)) (show Qv s_ c0 = ((k0 : Nat) : Int) from on_r hr4).symm)
  ·
   refine Qr ?_
   refine rk Qb [(8, .i ((k0 + 1 : Nat) : Int))] [5, 8, 16] [] [] [(0, .val (.i ((k0 + 1 : Nat) : Int)))] (o1 (Qi (Km (Q8 k0 (by omega))))) ?_
   exact Exists.intro () (And.intro (Qd (by kernel_rfl)) (Xe hx0 (Q6 h3 (rfl)) hI0))
 ·
  refine Qa ?_
  refine rk Qb [(9, .b false)] [] [] [] [(0, .val (.b false))] (o1 (Qi (Qh (decide_eq_false (p := ((k0 : Nat) : Int) < (s_.length : Int)) (by omega))))) ?_
  refine Qa ?_
  refine ckF ?_
  refine Xt ?_
  exact Exists.intro () (And.intro (Qd (by kernel_rfl)) (Ym hk0 (rfl) hI0))
 ·
  refine Qa ?_
  refine rk Qb [(4, .i (-1))] [4] [] [] [] (o0) ?_
  refine Qq ?_
  exact Ze [] (congrArg (fun z => (.i z : AV)) (show Qv s_ c0 = -1 from Hk hD0 (rfl)).symm)
def Y6 (c0 : (List Int)) (s0 : (List Int) × Int × Int) : Rd ((List Int)) ((List Int) × Int × Int) ((List Int) × Int) := (bif decide (s0.2.2 < (s0.1.length : Int)) then (bif (!(Ke (nth s0.1 (Int.toNat s0.2.2)) c0)) then (.next (List.set s0.1 (Int.toNat s0.2.1) (nth s0.1 (Int.toNat s0.2.2)), (s0.2.1 + 1), (s0.2.2 + 1))) else (.next (s0.1, s0.2.1, (s0.2.2 + 1)))) else (.brk (s0.1, s0.2.1)))
def X3 (s_ : (List Int)) (c0 : (List Int)) : (List Int) := (bif ((Qv s_ c0) == (-1 : Int)) then s_ else (Out.on (whlD (Y6 c0) (List.length s_ + 1) (s_, (Qv s_ c0), ((Qv s_ c0) + 1))) (fun y0 => List.take (Int.toNat y0.2) y0.1)))
theorem W8 (c0 : (List Int)) : DelStep (Y6 c0) (fun a => Ke a c0) := by
 intro s i j hij hj
 unfold Y6
 by_cases h : (j : Int) < (s.length : Int) <;> cases hp : Ke (nth s j) c0 <;> simp [h, hp]
theorem Qbs (s_ : (List Int)) (c0 : (List Int)) (hp : List.length s_ ≤ 1073741824) (h : Qv s_ c0 ≠ -1) : (whl (Y6 c0) (List.length s_ + 1) (s_, Qv s_ c0, Qv s_ c0 + 1)).isSome = true := del_some (W8 c0) hp (K1 s_ c0) h
theorem Qbl (s_ : (List Int)) (c0 : (List Int)) (hp : List.length s_ ≤ 1073741824) : X3 s_ c0 = s_.filter (fun a => !(Ke a c0)) := by
 unfold X3
 exact del_eq (W8 c0) hp (K1 s_ c0)
theorem Qbm (s_ : (List Int)) (c0 : (List Int)) (hp : List.length s_ ≤ 1073741824) : List.length (X3 s_ c0) ≤ List.length s_ := by rw [Qbl _ _ hp]; exact List.length_filter_le _ _
theorem Qbt (s_ : (List Int)) (c0 : (List Int)) : ATake Tryz.prog 65 1 (eL s_) [.one (.fnr 66 [[.h c0]])] true false (eL (X3 s_ c0)) := by
 refine atake_of (tt := tt) Qb Tryz.func65 (fn := Tryz.f65) rfl (by unfold Jr; kernel_rfl) (Nat.le_of_ble_eq_true rfl) (by simp [AV.cells, C.key, C.bkeys]) (t := 4) rfl fun w0 F0 hG => ?_
 refine wdT 0 0 (.own false 63) s_ (fun hw1 => ?_)
 have hl2 : List.length s_ ≤ 1073741824 := Qx (hw1)
 have hix := Qbr s_ c0
 refine Qa ?_
 refine rk Qb [(4, .e 0)] [] [] [] [] (o0) ?_
 refine Qa ?_
 refine rk Qb [(5, .i (Qv s_ c0))] [] [] [] [(2, .val (.i (Qv s_ c0)))] (o1 (Qg (Qb7 s_ c0))) ?_
 refine Qa ?_
 refine Qa ?_
 refine rk Qb [(12, .b ((Qv s_ c0) == (-1 : Int)))] [] [] [] [] (o0) ?_
 refine ck ((Qv s_ c0) == (-1 : Int)) (fun h3 => ?_) (fun h3 => ?_)
 ·
  refine Qa ?_
  refine rk Qb [(4, .q 63 s_)] [4, 12] [] [] [] (o0) ?_
  refine Qq ?_
  have hE4 : X3 s_ c0 = s_ := X8 h3 (rfl)
  exact ⟨.inl rfl, 63, by rw [hE4]; kernel_rfl⟩
 ·
  have h3d := Zz h3
  refine Qr ?_
  refine Qa ?_
  refine Qa ?_
  refine rk Qb [(6, .i ((Qv s_ c0) + 1))] [12] [] [] [(1, .val (.i ((Qv s_ c0) + 1)))] (o1 (Qi (Km (IntWalk.i64_in ((Qv s_ c0) + 1) (by omega))))) ?_
  refine blw (fun (s0 : (List Int) × Int × Int) => [(0, .q 63 s0.1), (5, .i s0.2.1), (6, .i s0.2.2)]) [0, 5, 6] (fun s0 => []) [] (fun (y0 : (List Int) × Int) => [(0, .q 63 y0.1), (5, .i y0.2)]) [0, 1, 5, 6] (fun y0 => []) [] (fun (k0 : Nat) (s0 : (List Int) × Int × Int) => whl (Y6 c0) k0 s0 = some (whlD (Y6 c0) (List.length s_ + 1) (s_, (Qv s_ c0), ((Qv s_ c0) + 1))) ∧ 0 ≤ s0.2.1 ∧ s0.2.1 < s0.2.2 ∧ s0.2.2 ≤ (List.length s0.1 : Int) ∧ List.length s0.1 = List.length s_) (fun (y0 : (List Int) × Int) => (whlD (Y6 c0) (List.length s_ + 1) (s_, (Qv s_ c0), ((Qv s_ c0) + 1))) = .brk y0 ∧ 0 ≤ y0.2 ∧ y0.2 < (List.length y0.1 : Int) ∧ List.length y0.1 = List.length s_) (List.length s_ + 1) (s_, (Qv s_ c0), ((Qv s_ c0) + 1)) (Qd (by kernel_rfl)) ⟨whl_some (Qbs s_ c0 hl2 h3d), (by first | omega | (dsimp only; omega) | rfl), (by first | omega | (dsimp only; omega) | rfl), (by first | omega | (dsimp only; omega) | rfl), (by first | omega | (dsimp only; omega) | rfl)⟩ (fun _ h => whl_zero h.1) (fun k0 s0 hI0 => ?_) (fun y0 hD0 => ?_)
  ·
   have hA0_0 := hI0.2.1
   have hA0_1 := hI0.2.2.1
   have hA0_2 := hI0.2.2.2.1
   have hA0_3 := hI0.2.2.2.2
   refine Qa ?_
   refine Qa ?_
   refine rk Qb [(19, .b (decide (s0.2.2 < (s0.1.length : Int))))] [] [] [] [(2, .val (.i (s0.1.length : Int)))] (o1 (Qi (Xs s0.1))) ?_
   refine ck (decide (s0.2.2 < (s0.1.length : Int))) (fun h5 => ?_) (fun h5 => ?_)
   ·
    have h5d := of_decide_eq_true h5
    refine Qr ?_
    refine Qa ?_
    refine Xf ?_
    refine Qa ?_
    refine wdT 0 0 (.own false 63) s0.1 (fun hw7 => ?_)
    have hl8 : List.length s0.1 ≤ 1073741824 := Qx (hw7)
    have hx6 : s0.1[(Int.toNat s0.2.2)]? = some (nth s0.1 (Int.toNat s0.2.2)) := Yj (by omega)
    refine rk Qb [(7, .i (nth s0.1 (Int.toNat s0.2.2)))] [19] [] [] [(2, .rowE [.i (nth s0.1 (Int.toNat s0.2.2))])] (o1 (Qy (X4 (i := s0.2.2) (by omega) rfl hx6))) ?_
    refine Qa ?_
    refine rk Qb [(29, .b (!(Ke (nth s0.1 (Int.toNat s0.2.2)) c0)))] [] [] [] [(2, .val (.b (Ke (nth s0.1 (Int.toNat s0.2.2)) c0)))] (o1 (Qg (implwithout_1_a (nth s0.1 (Int.toNat s0.2.2)) c0))) ?_
    refine ck (!(Ke (nth s0.1 (Int.toNat s0.2.2)) c0)) (fun h9 => ?_) (fun h9 => ?_)
    ·
     refine Qa ?_
     have hx10 : s0.1[(Int.toNat s0.2.1)]? = some (nth s0.1 (Int.toNat s0.2.1)) := Yj (by omega)
     refine rk Qb [(0, .one (.slc (.own false 63) 1 (setRow (eL s0.1) (Int.toNat s0.2.1) 0 [.i (nth s0.1 (Int.toNat s0.2.2))])))] [0, 7, 29] [] [] [(3, .rowE [.i (nth s0.1 (Int.toNat s0.2.1))])] (o1 (Qy (X4 (i := s0.2.1) (by omega) rfl hx10))) ?_
     refine eqn [(0, .q 63 (List.set s0.1 (Int.toNat s0.2.1) (nth s0.1 (Int.toNat s0.2.2))))] [0] [] [] (by rw [K0 (y := (nth s0.1 (Int.toNat s0.2.2))) hx10 rfl]; first | done | kernel_rfl) ?_
     refine rk Qb [(5, .i (s0.2.1 + 1))] [5] [] [] [(1, .val (.i (s0.2.1 + 1)))] (o1 (Qi (Km (IntWalk.i64_in (s0.2.1 + 1) (by omega))))) ?_
     refine rk Qb [(6, .i (s0.2.2 + 1))] [6] [] [] [(1, .val (.i (s0.2.2 + 1)))] (o1 (Qi (Km (IntWalk.i64_in (s0.2.2 + 1) (by omega))))) ?_
     exact Exists.intro (List.set s0.1 (Int.toNat s0.2.1) (nth s0.1 (Int.toNat s0.2.2)), (s0.2.1 + 1), (s0.2.2 + 1)) (And.intro (Qd (by kernel_rfl)) ⟨whl_next (X8 h5 (X8 h9 (rfl))) hI0.1, (by first | omega | (dsimp only; omega) | (simp only [List.length_set]; omega)), (by first | omega | (dsimp only; omega) | (simp only [List.length_set]; omega)), (by first | omega | (dsimp only; omega) | (simp only [List.length_set]; omega)), (by first | omega | (dsimp only; omega) | (simp only [List.length_set]; omega))⟩)
    ·
     refine Qr ?_
     refine rk Qb [(6, .i (s0.2.2 + 1))] [6, 7, 29] [] [] [(1, .val (.i (s0.2.2 + 1)))] (o1 (Qi (Km (IntWalk.i64_in (s0.2.2 + 1) (by omega))))) ?_
     exact Exists.intro (s0.1, s0.2.1, (s0.2.2 + 1)) (And.intro (Qd (by kernel_rfl)) ⟨whl_next (X8 h5 (Q6 h9 (rfl))) hI0.1, (by first | omega | (dsimp only; omega) | (simp only [List.length_set]; omega)), (by first | omega | (dsimp only; omega) | (simp only [List.length_set]; omega)), (by first | omega | (dsimp only; omega) | (simp only [List.length_set]; omega)), (by first | omega | (dsimp only; omega) | (simp only [List.length_set]; omega))⟩)
   ·
    have h5d := of_decide_eq_false h5
    refine Xt ?_
    exact Exists.intro (s0.1, s0.2.1) (And.intro (Qd (by kernel_rfl)) ⟨whl_brk (Q6 h5 (rfl)) hI0.1, by first | omega | (simp only [List.length_set]; omega), by first | omega | (simp only [List.length_set]; omega), by first | omega | (simp only [List.length_set]; omega)⟩)
  ·
   have hD0_0 := hD0.2.1
   have hD0_1 := hD0.2.2.1
   have hD0_2 := hD0.2.2.2
   refine Qa ?_
   refine awp_clear Qb rfl (by kernel_rfl) rfl rfl rfl rfl rfl (by omega) (by rw [Xm]; omega) (fun lc11 hllc11 htlc11 => ?_)
   refine Qa ?_
   refine rk Qb [(4, .q 0 (List.take (Int.toNat y0.2) y0.1))] [0, 5] [] [] [(2, .cut (eL (List.take (Int.toNat y0.2) y0.1)))] (o2 (Qi (show .one (.slc (.own false 0) 1 ((lc11.take (Int.toNat y0.2)).drop (Int.toNat 0))) = .q 0 (List.take (Int.toNat y0.2) y0.1) from (congrArg (fun z => AV.one (.slc (.own false 0) 1 (z.drop (Int.toNat 0)))) htlc11).trans (av_take (.own false 0) 1 (Int.toNat y0.2) y0.2 y0.1 rfl))) (o1 (ob_rng (lo := 0) (hi := y0.2) (n := (List.length lc11)) (rng_lc (by omega) (by rw [hllc11, Xm]; omega))))) ?_
   refine Qq ?_
   have hE12 : X3 s_ c0 = List.take (Int.toNat y0.2) y0.1 := Q6 h3 (Hk hD0.1 (rfl))
   exact ⟨.inl rfl, 0, by rw [hE12]; kernel_rfl⟩
def Hd (a_ : (List Int)) (b : (List Int)) : (List Int) := X3 a_ b
theorem implwithout_a (a_ : (List Int)) (b : (List Int)) : ACalls Tryz.prog 37 [.h a_, .h b] (.o 0 (Hd a_ b)) := by
 refine Qt (tt := tt) Qb Tryz.func37 (fn := Tryz.f37) rfl (by unfold Jr; kernel_rfl) (Nat.le_of_ble_eq_true rfl) fun w0 F0 hG => ?_
 refine Qa ?_
 refine rk Qb [(3, .p 3 0), (4, .e 0)] [1] [(3, [.h b])] [] [] (o0) ?_
 refine Qa ?_
 refine wdT 0 0 .sh a_ (fun hw1 => ?_)
 have hl2 : List.length a_ ≤ 1073741824 := Qx (hw1)
 have hq3 := Qbm a_ b hl2
 refine rk Qb [(4, .o 512 (X3 a_ b))] [0, 3, 4] [] [3] [(1, .val (.o 0 a_)), (3, .take false false (eL (X3 a_ b)))] (o2 (Qg (cloneInt_a a_)) (o2 (ob_take (atake_flat (Qbt a_ b) (Qdu _))) (o2 (Qeb (Qdu a_)) (o1 (Qeb (Qdu (X3 a_ b))))))) ?_
 refine Qq ?_
 exact Ze [] (congrArg (fun z => (.o 0 z : AV)) (show Hd a_ b = X3 a_ b from rfl).symm)
def Qaf (_ : Nat) (a0 : Zb) (s0 : (List Zb)) : Rd ((List Zb)) ((List Zb)) ((List Zb)) := (.next (s0 ++ [(Ql a0)]))
def Uy (_ : Nat) (s0 : (List Zb)) : (List Zb) := s0
def U8 (l : (List Zb)) : (List Zb) := (Out.on (Xv Qaf Uy l 0 []) (fun y0 => y0))
theorem implcopyFiles_a (l : (List Zb)) : ACalls Tryz.prog 127 [.h l] (.o 0 (U8 l)) := by
 refine Qt (tt := tt) Qb Tryz.func127 (fn := Tryz.f127) rfl (by unfold Jr; kernel_rfl) (Nat.le_of_ble_eq_true rfl) fun w0 F0 hG => ?_
 refine Qa ?_
 refine rk Qb [(2, .e 0)] [] [] [] [] (o0) ?_
 refine Qa ?_
 refine rk Qb [(3, .one (.slc (.own true 384) 5 []))] [] [] [] [] (o0) ?_
 refine Qa ?_
 refine Qa ?_
 refine rk Qb [(7, .h l), (8, .i (l.length : Int)), (9, .i 0)] [0] [] [] [(1, .val (.i (l.length : Int)))] (o1 (Qi (Xs l))) ?_
 refine wdT 7 0 .sh l (fun hw1 => ?_)
 have hl2 : List.length l ≤ 1073741824 := Qx (hw1)
 refine blk (fun (k0 : Nat) (s0 : (List Zb)) => [(3, .o 147201 s0), (9, .i ((k0 : Nat) : Int))]) [3, 9] (fun k0 s0 => []) [] (fun (y0 : (List Zb)) => [(3, .o 147351 y0)]) [3, 7, 8, 9] (fun y0 => []) [] (fun (k0 : Nat) (s0 : (List Zb)) => (Xv Qaf Uy l 0 []) = Xv Qaf Uy (List.drop k0 l) k0 s0 ∧ List.length s0 ≤ k0) (fun (y0 : (List Zb)) => (Xv Qaf Uy l 0 []) = .brk y0) l.length [] (Yt [(384, 147201)] (by kernel_rfl)) ⟨rfl, (by simp)⟩ (fun k0 s0 hk0 hI0 => ?_) (fun k0 s0 hk0 hI0 => ?_) (fun y0 hD0 => ?_)
 ·
  have hA0_0 := hI0.2
  obtain ⟨a0, hx0⟩ := Yl (l := l) (i := k0) hk0
  refine Qa ?_
  refine rk Qb [(10, .b true)] [] [] [] [(0, .val (.b true))] (o1 (Qi (Qh (decide_eq_true (p := ((k0 : Nat) : Int) < (l.length : Int)) (by omega))))) ?_
  refine Qa ?_
  refine ckT ?_
  refine Qr ?_
  refine Qa ?_
  refine Xf ?_
  refine Qa ?_
  refine rk Qb [(5, .p 5 0)] [10] [(5, [.i a0.1, .i a0.2.1, .b a0.2.2.1, .i a0.2.2.2.1, .h a0.2.2.2.2])] [] [(0, .row [.i a0.1, .i a0.2.1, .b a0.2.2.1, .i a0.2.2.2.1, .h a0.2.2.2.2])] (o1 (Qy (X4 (i := ((k0 : Nat) : Int)) (by omega) rfl hx0))) ?_
  refine wdT 3 0 (.own true 147201) s0 (fun hw3 => ?_)
  have hl4 : List.length s0 ≤ 1073741824 := Qx (hw3)
  refine rk Qb [(3, .one (.slc (.own true 1088) 5 ((eL s0) ++ [[.i ((Ql a0).1), .i ((Ql a0).2.1), .b ((Ql a0).2.2.1), .i ((Ql a0).2.2.2.1), .h ((Ql a0).2.2.2.2)]])))] [3, 5] [] [5] [(2, .val (.a [.i ((Ql a0).1), .i ((Ql a0).2.1), .b ((Ql a0).2.2.1), .i ((Ql a0).2.2.2.1), .o 0 ((Ql a0).2.2.2.2)]))] (o2 (Qg (Qde a0)) (o1 (V9 (Wi (Xm s0) (Xm [(Ql a0)]) (by first | omega | (simp only [List.length_cons, List.length_nil]; omega) | (simp; omega) | simp))))) ?_
  refine eqn [(3, .o 1088 (s0 ++ [(Ql a0)]))] [3] [] [] (by rw [show ((eL s0) ++ [[.i ((Ql a0).1), .i ((Ql a0).2.1), .b ((Ql a0).2.2.1), .i ((Ql a0).2.2.2.1), .h ((Ql a0).2.2.2.2)]]) = (eL (s0 ++ [(Ql a0)])) from Hj (rfl) (rfl)]; first | done | kernel_rfl) ?_
  refine rk Qb [(9, .i ((k0 + 1 : Nat) : Int))] [9] [] [] [(0, .val (.i ((k0 + 1 : Nat) : Int)))] (o1 (Qi (Km (Q8 k0 (by omega))))) ?_
  exact Exists.intro (s0 ++ [(Ql a0)]) (And.intro (Yt [(1088, 147201)] (by kernel_rfl)) ⟨Xe hx0 (rfl) hI0.1, by first | omega | (simp; omega) | simp⟩)
 ·
  have hA0_0 := hI0.2
  refine Qa ?_
  refine rk Qb [(10, .b false)] [] [] [] [(0, .val (.b false))] (o1 (Qi (Qh (decide_eq_false (p := ((k0 : Nat) : Int) < (l.length : Int)) (by omega))))) ?_
  refine Qa ?_
  refine ckF ?_
  refine Xt ?_
  exact Exists.intro s0 (And.intro (Yt [(147201, 147351)] (by kernel_rfl)) (Ym hk0 (rfl) hI0.1))
 ·
  refine Qa ?_
  refine rk Qb [(2, .o 147351 y0)] [2, 3] [] [] [] (o0) ?_
  refine Qq ?_
  exact Ze [] (congrArg (fun z => (.o 0 z : AV)) (show U8 l = y0 from Hk hD0 (rfl)).symm)
def Qm (s_ : Zp) : Zp := (s_.1, (U8 s_.2.1), s_.2.2)
theorem copyFiles_id (l : List Zb) : U8 l = l := by
 unfold U8
 rw [forL_map (f := Qaf) (e := Uy) (g := id) (fun k a s => rfl) l 0 []]
 simp [Out.on, Uy]
theorem Qfu (s_ : Zp) : (Qm s_).2.1.length = s_.2.1.length := by unfold Qm; rw [copyFiles_id]
theorem Qa3 (s_ : Zp) : ACalls Tryz.prog 75 [.a [.h s_.1, .h s_.2.1, .i s_.2.2]] (.a [.o 0 ((Qm s_).1), .o 1 ((Qm s_).2.1), .i ((Qm s_).2.2)]) := by
 refine Qt (tt := tt) Qb Tryz.func75 (fn := Tryz.f75) rfl (by unfold Jr; kernel_rfl) (Nat.le_of_ble_eq_true rfl) fun w0 F0 hG => ?_
 refine Qa ?_
 refine rk Qb [(1, .p 1 0), (2, .p 2 0)] [0] [(1, [.h s_.1, .h s_.2.1, .i s_.2.2]), (2, [.e 2, .e 5, .i 0])] [] [] (o0) ?_
 refine Qa ?_
 refine rd' Qb Js [] [1] [(2, [.o 320 s_.1, .o 512 (U8 s_.2.1), .i s_.2.2])] [1, 2] [(2, .val (.o 0 s_.1)), (5, .val (.o 0 (U8 s_.2.1)))] (o2 (Qg (cloneField_a s_.1)) (o1 (Qg (implcopyFiles_a s_.2.1)))) ?_
 refine Qq ?_
 exact Ze [] (congrArg (fun z => (.a [.o 0 z.1, .o 1 z.2.1, .i z.2.2] : AV)) (show Qm s_ = (s_.1, (U8 s_.2.1), s_.2.2) from rfl).symm)
def Q9 (s_ : Zp) (f : Zb) : Zp × Int × Bool := (bif ((!(Xb s_)) || (decide ((s_.2.1.length : Int) ≥ (12 : Int)) || (!(Yc s_.1 (s_.2.2, (Ql f).2.1, (Ql f).2.2.1, (Ql f).2.2.2.1, (Ql f).2.2.2.2))))) then ((Qm s_), 0, false) else (((Qm s_).1, (Qm s_).2.1 ++ [(s_.2.2, (Ql f).2.1, (Ql f).2.2.1, (Ql f).2.2.2.1, (Ql f).2.2.2.2)], IntKind.i64.wrap ((Qm s_).2.2 + 1)), s_.2.2, true))
theorem implCreateFile_a (s_ : Zp) (f : Zb) : ACalls Tryz.prog 129 [.a [.h s_.1, .h s_.2.1, .i s_.2.2], .a [.i f.1, .i f.2.1, .b f.2.2.1, .i f.2.2.2.1, .h f.2.2.2.2]] (.tup [(true, [.o 0 ((((Q9 s_ f)).1).1), .o 1 ((((Q9 s_ f)).1).2.1), .i ((((Q9 s_ f)).1).2.2)]), (false, [.i (((Q9 s_ f)).2.1)]), (false, [.b (((Q9 s_ f)).2.2)])]) := by
 refine Qt (tt := tt) Qb Tryz.func129 (fn := Tryz.f129) rfl (by unfold Jr; kernel_rfl) (Nat.le_of_ble_eq_true rfl) fun w0 F0 hG => ?_
 have hcl := Qfu s_
 refine Qa ?_
 refine rk Qb [(2, .p 2 0), (3, .p 3 0), (4, .p 4 0), (5, .i 0), (6, .b false)] [0, 1] [(2, [.h s_.1, .h s_.2.1, .i s_.2.2]), (3, [.i f.1, .i f.2.1, .b f.2.2.1, .i f.2.2.2.1, .h f.2.2.2.2]), (4, [.e 2, .e 5, .i 0])] [] [] (o0) ?_
 refine Qa ?_
 refine rk Qb [(7, .p 7 0)] [] [(7, [.o 576 ((Qm s_).1), .o 577 ((Qm s_).2.1), .i ((Qm s_).2.2)])] [] [(1, .val (.a [.o 0 ((Qm s_).1), .o 1 ((Qm s_).2.1), .i ((Qm s_).2.2)]))] (o1 (Qg (Qa3 s_))) ?_
 refine Qa ?_
 refine rk Qb [] [] [(3, [.i ((Ql f).1), .i ((Ql f).2.1), .b ((Ql f).2.2.1), .i ((Ql f).2.2.2.1), .o 704 ((Ql f).2.2.2.2)])] [3] [(1, .val (.a [.i ((Ql f).1), .i ((Ql f).2.1), .b ((Ql f).2.2.1), .i ((Ql f).2.2.2.1), .o 0 ((Ql f).2.2.2.2)]))] (o1 (Qg (Qde f))) ?_
 refine Qa ?_
 refine rk Qb [] [] [(3, [.i s_.2.2, .i ((Ql f).2.1), .b ((Ql f).2.2.1), .i ((Ql f).2.2.2.1), .o 704 ((Ql f).2.2.2.2)])] [3] [] (o0) ?_
 refine Qa ?_
 refine Qa ?_
 refine jn [(30, .b ((!(Xb s_)) || (decide ((s_.2.1.length : Int) ≥ (12 : Int)) || (!(Yc s_.1 (s_.2.2, (Ql f).2.1, (Ql f).2.2.1, (Ql f).2.2.2.1, (Ql f).2.2.2.2))))))] [2] [] [2] (!(Xb s_)) (fun h1 => ?_) (fun h1 => ?_) ?_
 ·
  have h1n : (Xb s_) = false := Ug h1
  refine rk Qb [(30, .b true)] [2] [] [2] [(1, .val (.b false)), (2, .val (.b true))] (o2 (Qg (cb h1n (Kd s_))) (o1 (Qi (show .b (!false) = .b true from rfl)))) ?_
  exact ⟨rfl, Qd (by rw [h1]; first | done | kernel_rfl)⟩
 ·
  have h1n : (Xb s_) = true := Jn h1
  refine X9 (decide ((s_.2.1.length : Int) ≥ (12 : Int))) (fun h2 => ?_) (fun h2 => ?_)
  ·
   refine rk Qb [(30, .b true)] [2] [] [2] [(1, .val (.b true)), (2, .val (.b false)), (6, .val (.i (s_.2.1.length : Int))), (7, .val (.b true))] (o2 (Qg (cb h1n (Kd s_))) (o2 (Qi (show .b (!true) = .b false from rfl)) (o2 (Qi (Xs s_.2.1)) (o1 (Qi (Qh h2)))))) ?_
   exact ⟨rfl, Qd (by rw [h1, h2]; first | done | kernel_rfl)⟩
  ·
   refine rk Qb [(30, .b (!(Yc s_.1 (s_.2.2, (Ql f).2.1, (Ql f).2.2.1, (Ql f).2.2.2.1, (Ql f).2.2.2.2))))] [2] [] [2] [(1, .val (.b true)), (2, .val (.b false)), (6, .val (.i (s_.2.1.length : Int))), (7, .val (.b false)), (13, .val (.b (Yc s_.1 (s_.2.2, (Ql f).2.1, (Ql f).2.2.1, (Ql f).2.2.2.1, (Ql f).2.2.2.2))))] (o2 (Qg (cb h1n (Kd s_))) (o2 (Qi (show .b (!true) = .b false from rfl)) (o2 (Qi (Xs s_.2.1)) (o2 (Qi (Qh h2)) (o1 (Qg (Ui s_.1 (s_.2.2, (Ql f).2.1, (Ql f).2.2.1, (Ql f).2.2.2.1, (Ql f).2.2.2.2)))))))) ?_
   exact ⟨rfl, Qd (by rw [h1, h2]; first | done | kernel_rfl)⟩
 refine ck ((!(Xb s_)) || (decide ((s_.2.1.length : Int) ≥ (12 : Int)) || (!(Yc s_.1 (s_.2.2, (Ql f).2.1, (Ql f).2.2.1, (Ql f).2.2.2.1, (Ql f).2.2.2.2))))) (fun h3 => ?_) (fun h3 => ?_)
 ·
  refine Qa ?_
  refine rk Qb [] [30] [(4, [.o 576 ((Qm s_).1), .o 577 ((Qm s_).2.1), .i ((Qm s_).2.2)])] [4] [] (o0) ?_
  refine Qq ?_
  exact Ze [] (congrArg (fun z => (.tup [(true, [.o 0 z.1.1, .o 1 z.1.2.1, .i z.1.2.2]), (false, [.i z.2.1]), (false, [.b z.2.2])] : AV)) (show Q9 s_ f = ((Qm s_), 0, false) from X8 h3 (rfl)).symm)
 ·
  have h3r : ((decide ((s_.2.1.length : Int) ≥ (12 : Int)) || (!(Yc s_.1 (s_.2.2, (Ql f).2.1, (Ql f).2.2.1, (Ql f).2.2.2.1, (Ql f).2.2.2.2))))) = false := or_r h3
  have h3rl : (decide ((s_.2.1.length : Int) ≥ (12 : Int))) = false := or_l h3r
  have h3rld := of_decide_eq_false h3rl
  refine Qr ?_
  refine Qa ?_
  refine wdB 7 1 (.own true 577) ((Qm s_).2.1) (fun hw4 => ?_)
  have hl5 : List.length ((Qm s_).2.1) ≤ 1073741824 := Qx (hw4)
  refine rk Qb [] [30] [(3, [.i s_.2.2, .i ((Ql f).2.1), .b ((Ql f).2.2.1), .i ((Ql f).2.2.2.1), .dead]), (7, [.o 576 ((Qm s_).1), .slc (.own true 2304) 5 ((eL ((Qm s_).2.1)) ++ [[.i s_.2.2, .i ((Ql f).2.1), .b ((Ql f).2.2.1), .i ((Ql f).2.2.2.1), .h ((Ql f).2.2.2.2)]]), .i ((Qm s_).2.2)])] [3, 7] [] (o1 (V9 (Wi (Xm ((Qm s_).2.1)) (Xm [(s_.2.2, (Ql f).2.1, (Ql f).2.2.1, (Ql f).2.2.2.1, (Ql f).2.2.2.2)]) (by first | omega | (simp only [List.length_cons, List.length_nil]; omega) | (simp; omega) | simp)))) ?_
  refine eqn [] [] [(7, [.o 576 ((Qm s_).1), .o 2304 ((Qm s_).2.1 ++ [(s_.2.2, (Ql f).2.1, (Ql f).2.2.1, (Ql f).2.2.2.1, (Ql f).2.2.2.2)]), .i ((Qm s_).2.2)])] [7] (by rw [show ((eL ((Qm s_).2.1)) ++ [[.i s_.2.2, .i ((Ql f).2.1), .b ((Ql f).2.2.1), .i ((Ql f).2.2.2.1), .h ((Ql f).2.2.2.2)]]) = (eL ((Qm s_).2.1 ++ [(s_.2.2, (Ql f).2.1, (Ql f).2.2.1, (Ql f).2.2.2.1, (Ql f).2.2.2.2)])) from Hj (rfl) (rfl)]; first | done | kernel_rfl) ?_
  refine Qa ?_
  refine rk Qb [] [] [(7, [.o 576 ((Qm s_).1), .o 2304 ((Qm s_).2.1 ++ [(s_.2.2, (Ql f).2.1, (Ql f).2.2.1, (Ql f).2.2.2.1, (Ql f).2.2.2.2)]), .i (IntKind.i64.wrap ((Qm s_).2.2 + 1))])] [7] [] (o0) ?_
  refine Qa ?_
  refine rd' Qb Js [(5, .i s_.2.2), (6, .b true)] [3, 5, 6, 7] [(4, [.o 576 ((Qm s_).1), .o 2304 ((Qm s_).2.1 ++ [(s_.2.2, (Ql f).2.1, (Ql f).2.2.1, (Ql f).2.2.2.1, (Ql f).2.2.2.2)]), .i (IntKind.i64.wrap ((Qm s_).2.2 + 1))])] [3, 4, 7] [] (o0) ?_
  refine Qq ?_
  exact Ze [] (congrArg (fun z => (.tup [(true, [.o 0 z.1.1, .o 1 z.1.2.1, .i z.1.2.2]), (false, [.i z.2.1]), (false, [.b z.2.2])] : AV)) (show Q9 s_ f = (((Qm s_).1, (Qm s_).2.1 ++ [(s_.2.2, (Ql f).2.1, (Ql f).2.2.1, (Ql f).2.2.2.1, (Ql f).2.2.2.2)], IntKind.i64.wrap ((Qm s_).2.2 + 1)), s_.2.2, true) from Q6 h3 (rfl)).symm)
def Qu (s_ : Zp) (id : Int) : Zb × Bool := (bif decide ((Xn s_ id) ≥ (0 : Int)) then ((Ql (nth s_.2.1 (Int.toNat (Xn s_ id)))), true) else ((0, 0, false, 0, []), false))
theorem find_attrs {s : Zp} (h : Xb s = true) (id : Int) : List.length (Qu s id).1.2.2.2.2 ≤ 5 := by
  unfold Qu
  by_cases hc : Xn s id ≥ (0 : Int)
  · rw [decide_eq_true hc, cond_true]
    have hl := fat_lt s id
    exact vstore_attrs h (List.mem_of_getElem? (Yj (l := s.2.1) (i := Int.toNat (Xn s id)) (by omega)))
  · rw [decide_eq_false hc, cond_false]
    exact Nat.zero_le _
theorem Qez (s_ : Zp) (id : Int) : ACalls Tryz.prog 79 [.a [.h s_.1, .h s_.2.1, .i s_.2.2], .i id] (.tup [(true, [.i ((((Qu s_ id)).1).1), .i ((((Qu s_ id)).1).2.1), .b ((((Qu s_ id)).1).2.2.1), .i ((((Qu s_ id)).1).2.2.2.1), .o 0 ((((Qu s_ id)).1).2.2.2.2)]), (false, [.b (((Qu s_ id)).2)])]) := by
 refine Qt (tt := tt) Qb Tryz.func79 (fn := Tryz.f79) rfl (by unfold Jr; kernel_rfl) (Nat.le_of_ble_eq_true rfl) fun w0 F0 hG => ?_
 refine Qa ?_
 refine rk Qb [(2, .p 2 0), (4, .p 4 0), (5, .b false)] [0] [(2, [.h s_.1, .h s_.2.1, .i s_.2.2]), (4, [.i 0, .i 0, .b false, .i 0, .e 4])] [] [] (o0) ?_
 refine Qa ?_
 refine Qa ?_
 refine rk Qb [(6, .i (Xn s_ id))] [1] [] [] [(2, .val (.i (Xn s_ id)))] (o1 (Qg (implfileAt_a s_ id))) ?_
 refine Qa ?_
 refine rk Qb [(11, .b (decide ((Xn s_ id) ≥ (0 : Int))))] [] [] [] [] (o0) ?_
 refine ck (decide ((Xn s_ id) ≥ (0 : Int))) (fun h1 => ?_) (fun h1 => ?_)
 ·
  have h1p := fat_lt s_ id
  have h1d := of_decide_eq_true h1
  refine Qa ?_
  refine wdB 2 1 .sh s_.2.1 (fun hw3 => ?_)
  have hl4 : List.length s_.2.1 ≤ 1073741824 := Qx (hw3)
  have hx2 : s_.2.1[(Int.toNat (Xn s_ id))]? = some (nth s_.2.1 (Int.toNat (Xn s_ id))) := Yj (by omega)
  refine rk Qb [(5, .b true)] [2, 5, 6, 11] [(4, [.i ((Ql (nth s_.2.1 (Int.toNat (Xn s_ id)))).1), .i ((Ql (nth s_.2.1 (Int.toNat (Xn s_ id)))).2.1), .b ((Ql (nth s_.2.1 (Int.toNat (Xn s_ id)))).2.2.1), .i ((Ql (nth s_.2.1 (Int.toNat (Xn s_ id)))).2.2.2.1), .o 1088 ((Ql (nth s_.2.1 (Int.toNat (Xn s_ id)))).2.2.2.2)])] [2, 4] [(3, .row [.i ((nth s_.2.1 (Int.toNat (Xn s_ id))).1), .i ((nth s_.2.1 (Int.toNat (Xn s_ id))).2.1), .b ((nth s_.2.1 (Int.toNat (Xn s_ id))).2.2.1), .i ((nth s_.2.1 (Int.toNat (Xn s_ id))).2.2.2.1), .h ((nth s_.2.1 (Int.toNat (Xn s_ id))).2.2.2.2)]), (5, .val (.a [.i ((Ql (nth s_.2.1 (Int.toNat (Xn s_ id)))).1), .i ((Ql (nth s_.2.1 (Int.toNat (Xn s_ id)))).2.1), .b ((Ql (nth s_.2.1 (Int.toNat (Xn s_ id)))).2.2.1), .i ((Ql (nth s_.2.1 (Int.toNat (Xn s_ id)))).2.2.2.1), .o 0 ((Ql (nth s_.2.1 (Int.toNat (Xn s_ id)))).2.2.2.2)]))] (o2 (Qy (X4 (i := (Xn s_ id)) (by omega) rfl hx2)) (o1 (Qg (Qde (nth s_.2.1 (Int.toNat (Xn s_ id))))))) ?_
  refine Qq ?_
  exact Ze [] (congrArg (fun z => (.tup [(true, [.i z.1.1, .i z.1.2.1, .b z.1.2.2.1, .i z.1.2.2.2.1, .o 0 z.1.2.2.2.2]), (false, [.b z.2])] : AV)) (show Qu s_ id = ((Ql (nth s_.2.1 (Int.toNat (Xn s_ id)))), true) from X8 h1 (rfl)).symm)
 ·
  refine Qr ?_
  refine Qa ?_
  refine rk Qb [] [2, 6, 11] [] [2] [] (o0) ?_
  refine opn [(true, 4, 4, true, 384000, 4)] ?_
  refine Qq ?_
  exact Ze [] (congrArg (fun z => (.tup [(true, [.i z.1.1, .i z.1.2.1, .b z.1.2.2.1, .i z.1.2.2.2.1, .o 0 z.1.2.2.2.2]), (false, [.b z.2])] : AV)) (show Qu s_ id = ((0, 0, false, 0, []), false) from Q6 h1 (rfl)).symm)
def Xd (s_ : Zp) (f : Zb) : Zp × Bool := (bif ((!(Xb s_)) || (decide ((Xn s_ f.1) < (0 : Int)) || (!(Yc s_.1 f)))) then ((Qm s_), false) else (((Qm s_).1, List.set ((Qm s_).2.1) (Int.toNat (Xn s_ f.1)) (Ql f), (Qm s_).2.2), true))
theorem replace_ok {s : Zp} {f : Zb} (h : (Xd s f).2 = true) : Xb s = true ∧ List.length f.2.2.2.2 ≤ 5 := by
 unfold Xd at h
 cases hv : Xb s with
 | false => rw [hv] at h; simp at h
 | true =>
  refine ⟨rfl, ?_⟩
  cases hf : Yc s.1 f with
  | true => exact vfile_attrs hf
  | false =>
   rw [hv, hf] at h
   simp at h
theorem implReplaceFile_a (s_ : Zp) (f : Zb) : ACalls Tryz.prog 132 [.a [.h s_.1, .h s_.2.1, .i s_.2.2], .a [.i f.1, .i f.2.1, .b f.2.2.1, .i f.2.2.2.1, .h f.2.2.2.2]] (.tup [(true, [.o 0 ((((Xd s_ f)).1).1), .o 1 ((((Xd s_ f)).1).2.1), .i ((((Xd s_ f)).1).2.2)]), (false, [.b (((Xd s_ f)).2)])]) := by
 refine Qt (tt := tt) Qb Tryz.func132 (fn := Tryz.f132) rfl (by unfold Jr; kernel_rfl) (Nat.le_of_ble_eq_true rfl) fun w0 F0 hG => ?_
 have hcl := Qfu s_
 refine Qa ?_
 refine rk Qb [(2, .p 2 0), (3, .p 3 0), (4, .p 4 0), (5, .b false)] [0, 1] [(2, [.h s_.1, .h s_.2.1, .i s_.2.2]), (3, [.i f.1, .i f.2.1, .b f.2.2.1, .i f.2.2.2.1, .h f.2.2.2.2]), (4, [.e 2, .e 5, .i 0])] [] [] (o0) ?_
 refine Qa ?_
 refine rk Qb [(6, .p 6 0)] [] [(6, [.o 576 ((Qm s_).1), .o 577 ((Qm s_).2.1), .i ((Qm s_).2.2)])] [] [(1, .val (.a [.o 0 ((Qm s_).1), .o 1 ((Qm s_).2.1), .i ((Qm s_).2.2)]))] (o1 (Qg (Qa3 s_))) ?_
 refine Qa ?_
 refine rk Qb [(7, .i (Xn s_ f.1))] [] [] [] [(3, .val (.i (Xn s_ f.1)))] (o1 (Qg (implfileAt_a s_ f.1))) ?_
 refine Qa ?_
 refine Qa ?_
 refine jn [(27, .b ((!(Xb s_)) || (decide ((Xn s_ f.1) < (0 : Int)) || (!(Yc s_.1 f)))))] [2] [] [2] (!(Xb s_)) (fun h1 => ?_) (fun h1 => ?_) ?_
 ·
  have h1n : (Xb s_) = false := Ug h1
  refine rk Qb [(27, .b true)] [2] [] [2] [(1, .val (.b false)), (2, .val (.b true))] (o2 (Qg (cb h1n (Kd s_))) (o1 (Qi (show .b (!false) = .b true from rfl)))) ?_
  exact ⟨rfl, Qd (by rw [h1]; first | done | kernel_rfl)⟩
 ·
  have h1n : (Xb s_) = true := Jn h1
  have h1ns := store12 h1n
  refine X9 (decide ((Xn s_ f.1) < (0 : Int))) (fun h2 => ?_) (fun h2 => ?_)
  ·
   refine rk Qb [(27, .b true)] [2] [] [2] [(1, .val (.b true)), (2, .val (.b false)), (5, .val (.b true))] (o2 (Qg (cb h1n (Kd s_))) (o2 (Qi (show .b (!true) = .b false from rfl)) (o1 (Qi (Qh h2))))) ?_
   exact ⟨rfl, Qd (by rw [h1, h2]; first | done | kernel_rfl)⟩
  ·
   have h2p := fat_lt s_ f.1
   refine rk Qb [(27, .b (!(Yc s_.1 f)))] [2] [] [2] [(1, .val (.b true)), (2, .val (.b false)), (5, .val (.b false)), (11, .val (.b (Yc s_.1 f)))] (o2 (Qg (cb h1n (Kd s_))) (o2 (Qi (show .b (!true) = .b false from rfl)) (o2 (Qi (Qh h2)) (o1 (Qg (Ui s_.1 f)))))) ?_
   exact ⟨rfl, Qd (by rw [h1, h2]; first | done | kernel_rfl)⟩
 refine ck ((!(Xb s_)) || (decide ((Xn s_ f.1) < (0 : Int)) || (!(Yc s_.1 f)))) (fun h3 => ?_) (fun h3 => ?_)
 ·
  refine Qa ?_
  refine rk Qb [] [27] [(4, [.o 576 ((Qm s_).1), .o 577 ((Qm s_).2.1), .i ((Qm s_).2.2)])] [4] [] (o0) ?_
  refine Qq ?_
  exact Ze [] (congrArg (fun z => (.tup [(true, [.o 0 z.1.1, .o 1 z.1.2.1, .i z.1.2.2]), (false, [.b z.2])] : AV)) (show Xd s_ f = ((Qm s_), false) from X8 h3 (rfl)).symm)
 ·
  have h3l : ((!(Xb s_))) = false := or_l h3
  have h3ln : (Xb s_) = true := Jn h3l
  have h3lns := store12 h3ln
  have h3r : ((decide ((Xn s_ f.1) < (0 : Int)) || (!(Yc s_.1 f)))) = false := or_r h3
  have h3rl : (decide ((Xn s_ f.1) < (0 : Int))) = false := or_l h3r
  have h3rlp := fat_lt s_ f.1
  have h3rld := of_decide_eq_false h3rl
  refine Qr ?_
  refine Qa ?_
  refine wdB 6 1 (.own true 577) ((Qm s_).2.1) (fun hw5 => ?_)
  have hl6 : List.length ((Qm s_).2.1) ≤ 1073741824 := Qx (hw5)
  have hx4 : ((Qm s_).2.1)[(Int.toNat (Xn s_ f.1))]? = some (nth ((Qm s_).2.1) (Int.toNat (Xn s_ f.1))) := Yj (by omega)
  refine rd' Qb Js [] [3, 7, 27] [(6, [.o 576 ((Qm s_).1), .slc (.own true 577) 5 (setRow (eL ((Qm s_).2.1)) (Int.toNat (Xn s_ f.1)) 0 [.i ((Ql f).1), .i ((Ql f).2.1), .b ((Ql f).2.2.1), .i ((Ql f).2.2.2.1), .h ((Ql f).2.2.2.2)]), .i ((Qm s_).2.2)])] [3, 6] [(4, .val (.a [.i ((Ql f).1), .i ((Ql f).2.1), .b ((Ql f).2.2.1), .i ((Ql f).2.2.2.1), .o 0 ((Ql f).2.2.2.2)])), (5, .rowE [.i ((nth ((Qm s_).2.1) (Int.toNat (Xn s_ f.1))).1), .i ((nth ((Qm s_).2.1) (Int.toNat (Xn s_ f.1))).2.1), .b ((nth ((Qm s_).2.1) (Int.toNat (Xn s_ f.1))).2.2.1), .i ((nth ((Qm s_).2.1) (Int.toNat (Xn s_ f.1))).2.2.2.1), .h ((nth ((Qm s_).2.1) (Int.toNat (Xn s_ f.1))).2.2.2.2)])] (o2 (Qg (Qde f)) (o1 (Qy (X4 (i := (Xn s_ f.1)) (by omega) rfl hx4)))) ?_
  refine eqn [] [] [(6, [.o 576 ((Qm s_).1), .o 577 (List.set ((Qm s_).2.1) (Int.toNat (Xn s_ f.1)) (Ql f)), .i ((Qm s_).2.2)])] [6] (by rw [K0 (y := (Ql f)) hx4 rfl]; first | done | kernel_rfl) ?_
  refine Qa ?_
  refine rk Qb [(5, .b true)] [5, 6] [(4, [.o 576 ((Qm s_).1), .o 577 (List.set ((Qm s_).2.1) (Int.toNat (Xn s_ f.1)) (Ql f)), .i ((Qm s_).2.2)])] [4, 6] [] (o0) ?_
  refine Qq ?_
  exact Ze [] (congrArg (fun z => (.tup [(true, [.o 0 z.1.1, .o 1 z.1.2.1, .i z.1.2.2]), (false, [.b z.2])] : AV)) (show Xd s_ f = (((Qm s_).1, List.set ((Qm s_).2.1) (Int.toNat (Xn s_ f.1)) (Ql f), (Qm s_).2.2), true) from Q6 h3 (rfl)).symm)
def Xp (s_ : Zp) (id : Int) : Zp × Bool := (bif ((!(Xb s_)) || decide ((Xn s_ id) < (0 : Int))) then ((Qm s_), false) else (((Qm s_).1, delAt ((Qm s_).2.1) (Int.toNat (Xn s_ id)), (Qm s_).2.2), true))
theorem implDeleteFile_a (s_ : Zp) (id : Int) : ACalls Tryz.prog 134 [.a [.h s_.1, .h s_.2.1, .i s_.2.2], .i id] (.tup [(true, [.h ((((Xp s_ id)).1).1), .h ((((Xp s_ id)).1).2.1), .i ((((Xp s_ id)).1).2.2)]), (false, [.b (((Xp s_ id)).2)])]) := by
 refine Qt (tt := tt) Qb Tryz.func134 (fn := Tryz.f134) rfl (by unfold Jr; kernel_rfl) (Nat.le_of_ble_eq_true rfl) fun w0 F0 hG => ?_
 have hcl := Qfu s_
 refine Qa ?_
 refine rk Qb [(2, .p 2 0), (4, .p 4 0), (5, .b false)] [0] [(2, [.h s_.1, .h s_.2.1, .i s_.2.2]), (4, [.e 2, .e 5, .i 0])] [] [] (o0) ?_
 refine Qa ?_
 refine rk Qb [(6, .p 6 0)] [] [(6, [.o 576 ((Qm s_).1), .o 577 ((Qm s_).2.1), .i ((Qm s_).2.2)])] [] [(1, .val (.a [.o 0 ((Qm s_).1), .o 1 ((Qm s_).2.1), .i ((Qm s_).2.2)]))] (o1 (Qg (Qa3 s_))) ?_
 refine Qa ?_
 refine rk Qb [(7, .i (Xn s_ id))] [1] [] [] [(2, .val (.i (Xn s_ id)))] (o1 (Qg (implfileAt_a s_ id))) ?_
 refine Qa ?_
 refine Qa ?_
 refine jn [(19, .b ((!(Xb s_)) || decide ((Xn s_ id) < (0 : Int))))] [2] [] [2] (!(Xb s_)) (fun h1 => ?_) (fun h1 => ?_) ?_
 ·
  have h1n : (Xb s_) = false := Ug h1
  refine rk Qb [(19, .b true)] [2] [] [2] [(1, .val (.b false)), (2, .val (.b true))] (o2 (Qg (cb h1n (Kd s_))) (o1 (Qi (show .b (!false) = .b true from rfl)))) ?_
  exact ⟨rfl, Qd (by rw [h1]; first | done | kernel_rfl)⟩
 ·
  have h1n : (Xb s_) = true := Jn h1
  have h1ns := store12 h1n
  refine rk Qb [(19, .b (decide ((Xn s_ id) < (0 : Int))))] [2] [] [2] [(1, .val (.b true)), (2, .val (.b false))] (o2 (Qg (cb h1n (Kd s_))) (o1 (Qi (show .b (!true) = .b false from rfl)))) ?_
  exact ⟨rfl, Qd (by rw [h1]; first | done | kernel_rfl)⟩
 refine ck ((!(Xb s_)) || decide ((Xn s_ id) < (0 : Int))) (fun h2 => ?_) (fun h2 => ?_)
 ·
  refine Qa ?_
  refine rk Qb [] [19] [(4, [.o 576 ((Qm s_).1), .o 577 ((Qm s_).2.1), .i ((Qm s_).2.2)])] [4] [] (o0) ?_
  refine Qq ?_
  exact Ze [576, 577] (congrArg (fun z => (.tup [(true, [.h z.1.1, .h z.1.2.1, .i z.1.2.2]), (false, [.b z.2])] : AV)) (show Xp s_ id = ((Qm s_), false) from X8 h2 (rfl)).symm)
 ·
  have h2l : ((!(Xb s_))) = false := or_l h2
  have h2ln : (Xb s_) = true := Jn h2l
  have h2lns := store12 h2ln
  have h2r : (decide ((Xn s_ id) < (0 : Int))) = false := or_r h2
  have h2rp := fat_lt s_ id
  have h2rd := of_decide_eq_false h2r
  refine Qr ?_
  refine Qa ?_
  refine Qed [577] rfl ?_
  refine wdB 6 1 (.own false 577) ((Qm s_).2.1) (fun hw3 => ?_)
  have hl4 : List.length ((Qm s_).2.1) ≤ 1073741824 := Qx (hw3)
  refine rk Qb [] [7, 19] [(6, [.o 576 ((Qm s_).1), .q 1664 (delAt ((Qm s_).2.1) (Int.toNat (Xn s_ id))), .i ((Qm s_).2.2)])] [6] [(5, .take true false (eL (delAt ((Qm s_).2.1) (Int.toNat (Xn s_ id)))))] (o1 (ob_take (delFile_a ((Qm s_).2.1) (i := (Xn s_ id)) (k := IntKind.i64.wrap ((Xn s_ id) + 1)) (by omega) (by first | omega | exact IntWalk.i64_in _ (by omega)) (by omega) (by omega)))) ?_
  refine Qa ?_
  refine rk Qb [(5, .b true)] [5, 6] [(4, [.o 576 ((Qm s_).1), .q 1664 (delAt ((Qm s_).2.1) (Int.toNat (Xn s_ id))), .i ((Qm s_).2.2)])] [4, 6] [] (o0) ?_
  refine Qq ?_
  exact Ze [576, 1664] (congrArg (fun z => (.tup [(true, [.h z.1.1, .h z.1.2.1, .i z.1.2.2]), (false, [.b z.2])] : AV)) (show Xp s_ id = (((Qm s_).1, delAt ((Qm s_).2.1) (Int.toNat (Xn s_ id)), (Qm s_).2.2), true) from Q6 h2 (rfl)).symm)
end Go.Proofs.YtamghcfmhfknmaaGreat
