/- Texts of this proof, put together by a program: Stc, Stg, Sth, Std, Ste, Isa, Isb, Ckc, Slb, Ev, Ex, Ey. -/
import Derived.Test.YtnhmnfmhnepjmaaGreatP4
import Derived.KernelRfl
set_option linter.unusedVariables false
set_option linter.unusedSimpArgs false
namespace Go.Proofs.YtnhmnfmhnepjmaaGreat
open Go.RowKit
open GoE (enc wide)
def Vr (d : (List Zh)) (strata : (List Int)) (more : Int) (_ : Nat) (a0 : ByteArray) (s0 : Int) : Rd (Int) (Int) (Int) := (bif decide ((Xi d a0) ≥ (0 : Int)) then (.next (max s0 (IntKind.i64.wrap ((nth strata (Int.toNat (Xi d a0))) + more)))) else (.next s0))
def W0 (_ : Nat) (s0 : Int) : Int := s0
def Q8 (d : (List Zh)) (strata : (List Int)) (names : (List ByteArray)) (more : Int) : Int := (Out.on (Xk (Vr d strata more) W0 names 0 0) (fun y0 => y0))
theorem Qdg (d : (List Zh)) (strata : (List Int)) (names : (List ByteArray)) (more : Int) (hp : List.length d ≤ List.length strata) : ACalls Tryz.prog 201 [.h d, .h strata, .h names, .i more] (.i (Q8 d strata names more)) := by
 refine Qn (tt := tt) Qb Tryz.func201 (fn := Tryz.f201) rfl (by unfold Z7; kernel_rfl) (Nat.le_of_ble_eq_true rfl) fun w0 F0 => ?_
 refine Qa ?_
 refine rk Qb [(8, .i 0)] [] [] [] [] (o0) ?_
 refine Qa ?_
 refine rk Qb [(9, .i 0)] [] [] [] [] (o0) ?_
 refine Qa ?_
 refine Qa ?_
 refine rk Qb [(13, .h names), (14, .i (names.length : Int)), (15, .i 0)] [2] [] [] [(1, .val (.i (names.length : Int)))] (o1 (Qf (Xc names))) ?_
 refine wdT 13 0 .sh names (fun hw1 => ?_)
 have hl2 : List.length names ≤ 1073741824 := Qp (hw1)
 refine blk (fun (k0 : Nat) (s0 : Int) => [(9, .i s0), (15, .i ((k0 : Nat) : Int))]) [9, 15] (fun k0 s0 => []) [] (fun (y0 : Int) => [(9, .i y0)]) [0, 1, 3, 9, 13, 14, 15] (fun y0 => []) [] (fun (k0 : Nat) (s0 : Int) => (Xk (Vr d strata more) W0 names 0 0) = Xk (Vr d strata more) W0 (List.drop k0 names) k0 s0) (fun (y0 : Int) => (Xk (Vr d strata more) W0 names 0 0) = .brk y0) names.length 0 (Qc (by kernel_rfl)) rfl (fun k0 s0 hk0 hI0 => ?_) (fun k0 s0 hk0 hI0 => ?_) (fun y0 hD0 => ?_)
 ·
  obtain ⟨a0, hx0⟩ := X8 (l := names) (i := k0) hk0
  refine Qa ?_
  refine rk Qb [(16, .b true)] [] [] [] [(0, .val (.b true))] (o1 (Qf (Qg (decide_eq_true (p := ((k0 : Nat) : Int) < (names.length : Int)) (by omega))))) ?_
  refine Qa ?_
  refine ckT ?_
  refine Qh ?_
  refine Qa ?_
  refine Q4 ?_
  refine Qa ?_
  refine rk Qb [(11, .s a0)] [16] [] [] [(0, .row [.s a0])] (o1 (Ql (Xl (i := ((k0 : Nat) : Int)) (by omega) rfl hx0))) ?_
  refine Qa ?_
  refine rk Qb [(12, .i (Xi d a0))] [11] [] [] [(2, .val (.i (Xi d a0)))] (o1 (Qe (Qrp d a0))) ?_
  refine Qa ?_
  refine rk Qb [(23, .b (decide ((Xi d a0) ≥ (0 : Int))))] [] [] [] [] (o0) ?_
  refine ck (decide ((Xi d a0) ≥ (0 : Int))) (fun h3 => ?_) (fun h3 => ?_)
  ·
   have h3p := Qnk d a0
   have h3d := of_decide_eq_true h3
   refine wdT 1 0 .sh strata (fun hw5 => ?_)
   have hl6 : List.length strata ≤ 1073741824 := Qp (hw5)
   have hx4 : strata[(Int.toNat (Xi d a0))]? = some (nth strata (Int.toNat (Xi d a0))) := X3 (by omega)
   refine rk Qb [(9, .i (max s0 (IntKind.i64.wrap ((nth strata (Int.toNat (Xi d a0))) + more))))] [9, 12, 23] [] [] [(3, .row [.i (nth strata (Int.toNat (Xi d a0)))])] (o1 (Ql (Xl (i := (Xi d a0)) (by omega) rfl hx4))) ?_
   refine rk Qb [(15, .i ((k0 + 1 : Nat) : Int))] [15] [] [] [(0, .val (.i ((k0 + 1 : Nat) : Int)))] (o1 (Qf (Kw (Qs k0 (by omega))))) ?_
   exact Exists.intro (max s0 (IntKind.i64.wrap ((nth strata (Int.toNat (Xi d a0))) + more))) (And.intro (Qc (by kernel_rfl)) (Qw hx0 (Yf h3 (rfl)) hI0))
  ·
   have h3d := of_decide_eq_false h3
   refine Qh ?_
   refine rk Qb [(15, .i ((k0 + 1 : Nat) : Int))] [12, 15, 23] [] [] [(0, .val (.i ((k0 + 1 : Nat) : Int)))] (o1 (Qf (Kw (Qs k0 (by omega))))) ?_
   exact Exists.intro s0 (And.intro (Qc (by kernel_rfl)) (Qw hx0 (Qv h3 (rfl)) hI0))
 ·
  refine Qa ?_
  refine rk Qb [(16, .b false)] [] [] [] [(0, .val (.b false))] (o1 (Qf (Qg (decide_eq_false (p := ((k0 : Nat) : Int) < (names.length : Int)) (by omega))))) ?_
  refine Qa ?_
  refine ckF ?_
  refine Xj ?_
  exact Exists.intro s0 (And.intro (Qc (by kernel_rfl)) (X9 hk0 (rfl) hI0))
 ·
  refine Qa ?_
  refine rk Qb [(8, .i y0)] [8, 9] [] [] [] (o0) ?_
  refine Qi ?_
  exact Zb [] (congrArg (fun z => (.i z : AV)) (show Q8 d strata names more = y0 from Hk hD0 (rfl)).symm)
def Vg (d : (List Zh)) (k0 : Nat) (_ : Nat) (a1 : ByteArray) (s1 : (List Int)) : Rd (Rd ((List Int)) ((List Int)) ((List Int))) ((List Int)) ((List Int)) := (bif (decide ((Qr d a1) ≥ (0 : Int)) && decide ((nth s1 (Int.toNat (Qr d a1))) > (nth s1 k0))) then (.next (List.set s1 k0 (nth s1 (Int.toNat (Qr d a1))))) else (.next s1))
def Wg (_ : Nat) (s1 : (List Int)) : (List Int) := s1
def Vh (d : (List Zh)) (k0 : Nat) (_ : Nat) (a2 : ByteArray) (s2 : (List Int)) : Rd (Rd ((List Int)) ((List Int)) ((List Int))) ((List Int)) ((List Int)) := (bif (decide ((Qr d a2) ≥ (0 : Int)) && decide (IntKind.i64.wrap ((nth s2 (Int.toNat (Qr d a2))) + 1) > (nth s2 k0))) then (.next (List.set s2 k0 (IntKind.i64.wrap ((nth s2 (Int.toNat (Qr d a2))) + 1)))) else (.next s2))
def Ue (_ : Nat) (s2 : (List Int)) : (List Int) := s2
def Ko (d : (List Zh)) (k0 : Nat) (a0 : Zh) (s0 : (List Int)) : Rd ((List Int)) ((List Int)) ((List Int)) := (Out.on (Xk (Vg d k0) Wg (Ya a0.2) 0 s0) (fun y1 => (Out.on (Xk (Vh d k0) Ue (Yb a0.2) 0 y1) (fun y2 => (.next y2)))))
def Uf (_ : Nat) (s0 : (List Int)) : (List Int) := s0
def Z1 (d : (List Zh)) (lev : (List Int)) : (List Int) := (Out.on (Xk (Ko d) Uf d 0 lev) (fun y0 => y0))
theorem Qfj (d : (List Zh)) (lev : (List Int)) (hp : List.length d ≤ List.length lev) : ACalls Tryz.prog 196 [.h d, .h lev] (.o 0 (Z1 d lev)) := by
 refine Qn (tt := tt) Qb Tryz.func196 (fn := Tryz.f196) rfl (by unfold Z7; kernel_rfl) (Nat.le_of_ble_eq_true rfl) fun w0 F0 => ?_
 refine Qa ?_
 refine rk Qb [(4, .e 0)] [] [] [] [] (o0) ?_
 refine Qa ?_
 refine wdT 1 0 .sh lev (fun hw1 => ?_)
 have hl2 : List.length lev ≤ 1073741824 := Qp (hw1)
 refine rk Qb [(5, .o 960 lev)] [1] [] [] [(2, .flat)] (o2 (V8 (n := (([] : List (List PV)).length + ((eL lev) : List (List PV)).length)) (Wq (rfl) (Xa lev) (by first | omega | (simp; omega) | simp))) (o1 (Qam (Hx lev)))) ?_
 refine Qa ?_
 refine Qa ?_
 refine rk Qb [(6, .i 0)] [] [] [] [] (o0) ?_
 refine wdT 0 0 .sh d (fun hw3 => ?_)
 have hl4 : List.length d ≤ 1073741824 := Qp (hw3)
 refine blk (fun (k0 : Nat) (s0 : (List Int)) => [(5, .o 960 s0), (6, .i ((k0 : Nat) : Int))]) [5, 6] (fun k0 s0 => []) [] (fun (y0 : (List Int)) => [(5, .o 960 y0)]) [0, 5, 6] (fun y0 => []) [] (fun (k0 : Nat) (s0 : (List Int)) => (Xk (Ko d) Uf d 0 lev) = Xk (Ko d) Uf (List.drop k0 d) k0 s0 ∧ List.length s0 = List.length lev) (fun (y0 : (List Int)) => (Xk (Ko d) Uf d 0 lev) = .brk y0 ∧ List.length y0 = List.length lev) d.length lev (Qc (by kernel_rfl)) ⟨rfl, (by simp)⟩ (fun k0 s0 hk0 hI0 => ?_) (fun k0 s0 hk0 hI0 => ?_) (fun y0 hD0 => ?_)
 ·
  have hA0_0 := hI0.2
  obtain ⟨a0, hx0⟩ := X8 (l := d) (i := k0) hk0
  refine Qa ?_
  refine Qa ?_
  refine rk Qb [(19, .b true)] [] [] [] [(2, .val (.i (d.length : Int))), (3, .val (.b true))] (o2 (Qf (Xc d)) (o1 (Qf (Qg (decide_eq_true (p := ((k0 : Nat) : Int) < (d.length : Int)) (by omega)))))) ?_
  refine ckT ?_
  refine Qh ?_
  refine Qa ?_
  refine Q4 ?_
  refine Qa ?_
  refine rk Qb [(7, .o 1728 (Ya a0.2))] [19] [] [] [(2, .row [.s a0.1, .h a0.2]), (5, .val (.o 0 (Ya a0.2)))] (o2 (Ql (Xl (i := ((k0 : Nat) : Int)) (by omega) rfl hx0)) (o1 (Qe (Qgy a0.2)))) ?_
  refine Qa ?_
  refine Qa ?_
  refine rk Qb [(8, .i 0)] [] [] [] [] (o0) ?_
  refine wdT 7 0 (.own true 1728) (Ya a0.2) (fun hw5 => ?_)
  have hl6 : List.length (Ya a0.2) ≤ 1073741824 := Qp (hw5)
  refine blk (fun (k1 : Nat) (s1 : (List Int)) => [(5, .o 960 s1), (8, .i ((k1 : Nat) : Int))]) [5, 8] (fun k1 s1 => []) [] (fun (y1 : (List Int)) => [(5, .o 960 y1)]) [5, 7, 8] (fun y1 => []) [] (fun (k1 : Nat) (s1 : (List Int)) => (Xk (Vg d k0) Wg (Ya a0.2) 0 s0) = Xk (Vg d k0) Wg (List.drop k1 (Ya a0.2)) k1 s1 ∧ List.length s1 = List.length s0) (fun (y1 : (List Int)) => (Xk (Vg d k0) Wg (Ya a0.2) 0 s0) = .brk y1 ∧ List.length y1 = List.length s0) ((Ya a0.2).length) s0 (Qc (by kernel_rfl)) ⟨rfl, (by simp)⟩ (fun k1 s1 hk1 hI1 => ?_) (fun k1 s1 hk1 hI1 => ?_) (fun y1 hD1 => ?_)
  ·
   have hA1_0 := hI1.2
   obtain ⟨a1, hx1⟩ := X8 (l := Ya a0.2) (i := k1) hk1
   refine Qa ?_
   refine Qa ?_
   refine rk Qb [(31, .b true)] [] [] [] [(2, .val (.i ((Ya a0.2).length : Int))), (3, .val (.b true))] (o2 (Qf (Xc (Ya a0.2))) (o1 (Qf (Qg (decide_eq_true (p := ((k1 : Nat) : Int) < ((Ya a0.2).length : Int)) (by omega)))))) ?_
   refine ckT ?_
   refine Qh ?_
   refine Qa ?_
   refine Q4 ?_
   refine Qa ?_
   refine rk Qb [(9, .i (Qr d a1))] [31] [] [] [(3, .rowE [.s a1]), (5, .val (.i (Qr d a1)))] (o2 (Ql (Xl (i := ((k1 : Nat) : Int)) (by omega) rfl hx1)) (o1 (Qe (Qfi d a1)))) ?_
   refine Qa ?_
   refine jn [(52, .b (decide ((Qr d a1) ≥ (0 : Int)) && decide ((nth s1 (Int.toNat (Qr d a1))) > (nth s1 k0))))] [] [] [] (decide ((Qr d a1) ≥ (0 : Int))) (fun h7 => ?_) (fun h7 => ?_) ?_
   ·
    have h7p := Qg0 d a1
    have h7d := of_decide_eq_true h7
    refine wdT 5 0 (.own true 960) s1 (fun hw9 => ?_)
    have hl10 : List.length s1 ≤ 1073741824 := Qp (hw9)
    have hx8 : s1[(Int.toNat (Qr d a1))]? = some (nth s1 (Int.toNat (Qr d a1))) := X3 (by omega)
    have hx11 : s1[k0]? = some (nth s1 k0) := X3 (by omega)
    refine rd' Qb Zv [(52, .b (decide ((nth s1 (Int.toNat (Qr d a1))) > (nth s1 k0))))] [] [] [] [(1, .val (.b true)), (5, .rowE [.i (nth s1 (Int.toNat (Qr d a1)))]), (9, .rowE [.i (nth s1 k0)])] (o2 (Qf (Qg h7)) (o2 (Ql (Xl (i := (Qr d a1)) (by omega) rfl hx8)) (o1 (Ql (Xl (i := ((k0 : Nat) : Int)) (by omega) rfl hx11))))) ?_
    exact ⟨rfl, Qc (by rw [h7]; first | done | kernel_rfl)⟩
   ·
    refine rd' Qb Zv [(52, .b false)] [] [] [] [(1, .val (.b false))] (o1 (Qf (Qg h7))) ?_
    exact ⟨rfl, Qc (by rw [h7]; first | done | kernel_rfl)⟩
   refine ck (decide ((Qr d a1) ≥ (0 : Int)) && decide ((nth s1 (Int.toNat (Qr d a1))) > (nth s1 k0))) (fun h12 => ?_) (fun h12 => ?_)
   ·
    have h12l : (decide ((Qr d a1) ≥ (0 : Int))) = true := and_l h12
    have h12lp := Qg0 d a1
    have h12ld := of_decide_eq_true h12l
    have h12r : (decide ((nth s1 (Int.toNat (Qr d a1))) > (nth s1 k0))) = true := Quk h12
    have h12rd := of_decide_eq_true h12r
    refine wdT 5 0 (.own true 960) s1 (fun hw14 => ?_)
    have hl15 : List.length s1 ≤ 1073741824 := Qp (hw14)
    have hx13 : s1[(Int.toNat (Qr d a1))]? = some (nth s1 (Int.toNat (Qr d a1))) := X3 (by omega)
    have hx16 : s1[k0]? = some (nth s1 k0) := X3 (by omega)
    refine rk Qb [(5, .one (.slc (.own true 960) 1 (setRow (eL s1) k0 0 [.i (nth s1 (Int.toNat (Qr d a1)))])))] [5, 9, 52] [] [] [(4, .rowE [.i (nth s1 (Int.toNat (Qr d a1)))]), (6, .rowE [.i (nth s1 k0)])] (o2 (Ql (Xl (i := (Qr d a1)) (by omega) rfl hx13)) (o1 (Ql (Xl (i := ((k0 : Nat) : Int)) (by omega) rfl hx16)))) ?_
    refine eqn [(5, .o 960 (List.set s1 k0 (nth s1 (Int.toNat (Qr d a1)))))] [5] [] [] (by rw [Kd (y := (nth s1 (Int.toNat (Qr d a1)))) hx16 rfl]; first | done | kernel_rfl) ?_
    refine rk Qb [(8, .i ((k1 + 1 : Nat) : Int))] [8] [] [] [(1, .val (.i ((k1 + 1 : Nat) : Int)))] (o1 (Qf (Kw (Qs k1 (by omega))))) ?_
    exact Exists.intro (List.set s1 k0 (nth s1 (Int.toNat (Qr d a1)))) (And.intro (Qc (by kernel_rfl)) ⟨Qw hx1 (Yf h12 (rfl)) hI1.1, (by first | omega | (simp only [List.length_set]; omega))⟩)
   ·
    refine Qh ?_
    refine rk Qb [(8, .i ((k1 + 1 : Nat) : Int))] [8, 9, 52] [] [] [(1, .val (.i ((k1 + 1 : Nat) : Int)))] (o1 (Qf (Kw (Qs k1 (by omega))))) ?_
    exact Exists.intro s1 (And.intro (Qc (by kernel_rfl)) ⟨Qw hx1 (Qv h12 (rfl)) hI1.1, (by first | omega | (simp only [List.length_set]; omega))⟩)
  ·
   have hA1_0 := hI1.2
   refine Qa ?_
   refine Qa ?_
   refine rk Qb [(31, .b false)] [] [] [] [(2, .val (.i ((Ya a0.2).length : Int))), (3, .val (.b false))] (o2 (Qf (Xc (Ya a0.2))) (o1 (Qf (Qg (decide_eq_false (p := ((k1 : Nat) : Int) < ((Ya a0.2).length : Int)) (by omega)))))) ?_
   refine ckF ?_
   refine Xj ?_
   exact Exists.intro s1 (And.intro (Qc (by kernel_rfl)) ⟨X9 hk1 (rfl) hI1.1, by first | omega | (simp only [List.length_set]; omega)⟩)
  ·
   have hD1_0 := hD1.2
   refine Qa ?_
   refine rk Qb [(10, .o 4160 (Yb a0.2))] [] [] [] [(2, .row [.s a0.1, .h a0.2]), (5, .val (.o 0 (Yb a0.2)))] (o2 (Ql (Xl (i := ((k0 : Nat) : Int)) (by omega) rfl hx0)) (o1 (Qe (Qgz a0.2)))) ?_
   refine Qa ?_
   refine rk Qb [(11, .i 0)] [] [] [] [] (o0) ?_
   refine wdT 10 0 (.own true 4160) (Yb a0.2) (fun hw17 => ?_)
   have hl18 : List.length (Yb a0.2) ≤ 1073741824 := Qp (hw17)
   refine blk (fun (k2 : Nat) (s2 : (List Int)) => [(5, .o 960 s2), (11, .i ((k2 : Nat) : Int))]) [5, 11] (fun k2 s2 => []) [] (fun (y2 : (List Int)) => [(5, .o 960 y2)]) [5, 10, 11] (fun y2 => []) [] (fun (k2 : Nat) (s2 : (List Int)) => (Xk (Vh d k0) Ue (Yb a0.2) 0 y1) = Xk (Vh d k0) Ue (List.drop k2 (Yb a0.2)) k2 s2 ∧ List.length s2 = List.length y1) (fun (y2 : (List Int)) => (Xk (Vh d k0) Ue (Yb a0.2) 0 y1) = .brk y2 ∧ List.length y2 = List.length y1) ((Yb a0.2).length) y1 (Qc (by kernel_rfl)) ⟨rfl, (by simp)⟩ (fun k2 s2 hk2 hI2 => ?_) (fun k2 s2 hk2 hI2 => ?_) (fun y2 hD2 => ?_)
   ·
    have hA2_0 := hI2.2
    obtain ⟨a2, hx2⟩ := X8 (l := Yb a0.2) (i := k2) hk2
    refine Qa ?_
    refine Qa ?_
    refine rk Qb [(69, .b true)] [] [] [] [(2, .val (.i ((Yb a0.2).length : Int))), (3, .val (.b true))] (o2 (Qf (Xc (Yb a0.2))) (o1 (Qf (Qg (decide_eq_true (p := ((k2 : Nat) : Int) < ((Yb a0.2).length : Int)) (by omega)))))) ?_
    refine ckT ?_
    refine Qh ?_
    refine Qa ?_
    refine Q4 ?_
    refine Qa ?_
    refine rk Qb [(12, .i (Qr d a2))] [69] [] [] [(3, .rowE [.s a2]), (5, .val (.i (Qr d a2)))] (o2 (Ql (Xl (i := ((k2 : Nat) : Int)) (by omega) rfl hx2)) (o1 (Qe (Qfi d a2)))) ?_
    refine Qa ?_
    refine jn [(91, .b (decide ((Qr d a2) ≥ (0 : Int)) && decide (IntKind.i64.wrap ((nth s2 (Int.toNat (Qr d a2))) + 1) > (nth s2 k0))))] [] [] [] (decide ((Qr d a2) ≥ (0 : Int))) (fun h19 => ?_) (fun h19 => ?_) ?_
    ·
     have h19p := Qg0 d a2
     have h19d := of_decide_eq_true h19
     refine wdT 5 0 (.own true 960) s2 (fun hw21 => ?_)
     have hl22 : List.length s2 ≤ 1073741824 := Qp (hw21)
     have hx20 : s2[(Int.toNat (Qr d a2))]? = some (nth s2 (Int.toNat (Qr d a2))) := X3 (by omega)
     have hx23 : s2[k0]? = some (nth s2 k0) := X3 (by omega)
     refine rd' Qb Zv [(91, .b (decide (IntKind.i64.wrap ((nth s2 (Int.toNat (Qr d a2))) + 1) > (nth s2 k0))))] [] [] [] [(1, .val (.b true)), (5, .rowE [.i (nth s2 (Int.toNat (Qr d a2)))]), (10, .rowE [.i (nth s2 k0)])] (o2 (Qf (Qg h19)) (o2 (Ql (Xl (i := (Qr d a2)) (by omega) rfl hx20)) (o1 (Ql (Xl (i := ((k0 : Nat) : Int)) (by omega) rfl hx23))))) ?_
     exact ⟨rfl, Qc (by rw [h19]; first | done | kernel_rfl)⟩
    ·
     refine rd' Qb Zv [(91, .b false)] [] [] [] [(1, .val (.b false))] (o1 (Qf (Qg h19))) ?_
     exact ⟨rfl, Qc (by rw [h19]; first | done | kernel_rfl)⟩
    refine ck (decide ((Qr d a2) ≥ (0 : Int)) && decide (IntKind.i64.wrap ((nth s2 (Int.toNat (Qr d a2))) + 1) > (nth s2 k0))) (fun h24 => ?_) (fun h24 => ?_)
    ·
     have h24l : (decide ((Qr d a2) ≥ (0 : Int))) = true := and_l h24
     have h24lp := Qg0 d a2
     have h24ld := of_decide_eq_true h24l
     have h24r : (decide (IntKind.i64.wrap ((nth s2 (Int.toNat (Qr d a2))) + 1) > (nth s2 k0))) = true := Quk h24
     have h24rd := of_decide_eq_true h24r
     refine wdT 5 0 (.own true 960) s2 (fun hw26 => ?_)
     have hl27 : List.length s2 ≤ 1073741824 := Qp (hw26)
     have hx25 : s2[(Int.toNat (Qr d a2))]? = some (nth s2 (Int.toNat (Qr d a2))) := X3 (by omega)
     have hx28 : s2[k0]? = some (nth s2 k0) := X3 (by omega)
     refine rk Qb [(5, .one (.slc (.own true 960) 1 (setRow (eL s2) k0 0 [.i (IntKind.i64.wrap ((nth s2 (Int.toNat (Qr d a2))) + 1))])))] [5, 12, 91] [] [] [(4, .rowE [.i (nth s2 (Int.toNat (Qr d a2)))]), (7, .rowE [.i (nth s2 k0)])] (o2 (Ql (Xl (i := (Qr d a2)) (by omega) rfl hx25)) (o1 (Ql (Xl (i := ((k0 : Nat) : Int)) (by omega) rfl hx28)))) ?_
     refine eqn [(5, .o 960 (List.set s2 k0 (IntKind.i64.wrap ((nth s2 (Int.toNat (Qr d a2))) + 1))))] [5] [] [] (by rw [Kd (y := IntKind.i64.wrap ((nth s2 (Int.toNat (Qr d a2))) + 1)) hx28 rfl]; first | done | kernel_rfl) ?_
     refine rk Qb [(11, .i ((k2 + 1 : Nat) : Int))] [11] [] [] [(1, .val (.i ((k2 + 1 : Nat) : Int)))] (o1 (Qf (Kw (Qs k2 (by omega))))) ?_
     exact Exists.intro (List.set s2 k0 (IntKind.i64.wrap ((nth s2 (Int.toNat (Qr d a2))) + 1))) (And.intro (Qc (by kernel_rfl)) ⟨Qw hx2 (Yf h24 (rfl)) hI2.1, (by first | omega | (simp only [List.length_set]; omega))⟩)
    ·
     refine Qh ?_
     refine rk Qb [(11, .i ((k2 + 1 : Nat) : Int))] [11, 12, 91] [] [] [(1, .val (.i ((k2 + 1 : Nat) : Int)))] (o1 (Qf (Kw (Qs k2 (by omega))))) ?_
     exact Exists.intro s2 (And.intro (Qc (by kernel_rfl)) ⟨Qw hx2 (Qv h24 (rfl)) hI2.1, (by first | omega | (simp only [List.length_set]; omega))⟩)
   ·
    have hA2_0 := hI2.2
    refine Qa ?_
    refine Qa ?_
    refine rk Qb [(69, .b false)] [] [] [] [(2, .val (.i ((Yb a0.2).length : Int))), (3, .val (.b false))] (o2 (Qf (Xc (Yb a0.2))) (o1 (Qf (Qg (decide_eq_false (p := ((k2 : Nat) : Int) < ((Yb a0.2).length : Int)) (by omega)))))) ?_
    refine ckF ?_
    refine Xj ?_
    exact Exists.intro s2 (And.intro (Qc (by kernel_rfl)) ⟨X9 hk2 (rfl) hI2.1, by first | omega | (simp only [List.length_set]; omega)⟩)
   ·
    have hD2_0 := hD2.2
    refine rk Qb [(6, .i ((k0 + 1 : Nat) : Int))] [6] [] [] [(1, .val (.i ((k0 + 1 : Nat) : Int)))] (o1 (Qf (Kw (Qs k0 (by omega))))) ?_
    exact Exists.intro y2 (And.intro (Qc (by kernel_rfl)) ⟨Qw hx0 (Hk hD1.1 (Hk hD2.1 (rfl))) hI0.1, (by first | omega | (simp only [List.length_set]; omega))⟩)
 ·
  have hA0_0 := hI0.2
  refine Qa ?_
  refine Qa ?_
  refine rk Qb [(19, .b false)] [] [] [] [(2, .val (.i (d.length : Int))), (3, .val (.b false))] (o2 (Qf (Xc d)) (o1 (Qf (Qg (decide_eq_false (p := ((k0 : Nat) : Int) < (d.length : Int)) (by omega)))))) ?_
  refine ckF ?_
  refine Xj ?_
  exact Exists.intro s0 (And.intro (Qc (by kernel_rfl)) ⟨X9 hk0 (rfl) hI0.1, by first | omega | (simp only [List.length_set]; omega)⟩)
 ·
  have hD0_0 := hD0.2
  refine Qa ?_
  refine rk Qb [(4, .o 960 y0)] [4, 5] [] [] [] (o0) ?_
  refine Qi ?_
  exact Zb [] (congrArg (fun z => (.o 0 z : AV)) (show Z1 d lev = y0 from Hk hD0.1 (rfl)).symm)
end Go.Proofs.YtnhmnfmhnepjmaaGreat
namespace Go.Proofs.YtnhmnfmhnepjmaaGreat
open Go.RowKit
theorem Qi6 {α R S T : Type} {f : Nat → α → S → Rd R S T} {e : Nat → S → T} (I : S → Prop) (h : ∀ k a s, I s → ∃ s', f k a s = .next s' ∧ I s') : ∀ (l : List α) (k : Nat) (s : S), I s → ∃ s', Xk f e l k s = .brk (e (k + l.length) s') ∧ I s'
  | [], k, s, hs => ⟨s, by simp [Xk], hs⟩
  | a :: l, k, s, hs => by
    obtain ⟨s1, h1, h2⟩ := h k a s hs
    obtain ⟨s2, h3, h4⟩ := Qi6 I h l (k + 1) s1 h2
    refine ⟨s2, ?_, h4⟩
    simp only [Xk, h1]
    rw [h3, List.length_cons, show k + 1 + l.length = k + (l.length + 1) by omega]
theorem l13_f1 (d : List Zh) (k0 n : Nat) (k : Nat) (a : ByteArray) (s : List Int) (hs : s.length = n) : ∃ s', Vg d k0 k a s = .next s' ∧ s'.length = n := by
  unfold Vg
  generalize (decide ((Qr d a) ≥ (0 : Int)) && decide ((nth s (Int.toNat (Qr d a))) > (nth s k0))) = c
  cases c <;> exact ⟨_, rfl, by simpa using hs⟩
theorem l13_f2 (d : List Zh) (k0 n : Nat) (k : Nat) (a : ByteArray) (s : List Int) (hs : s.length = n) : ∃ s', Vh d k0 k a s = .next s' ∧ s'.length = n := by
  unfold Vh
  generalize (decide ((Qr d a) ≥ (0 : Int)) && decide (IntKind.i64.wrap ((nth s (Int.toNat (Qr d a))) + 1) > (nth s k0))) = c
  cases c <;> exact ⟨_, rfl, by simpa using hs⟩
theorem l13_f0 (d : List Zh) (n : Nat) (k : Nat) (a : Zh) (s : List Int) (hs : s.length = n) : ∃ s', Ko d k a s = .next s' ∧ s'.length = n := by
  unfold Ko
  obtain ⟨s1, h1, h2⟩ := Qi6 (e := Wg) (fun s : List Int => s.length = n) (l13_f1 d k n) (Ya a.2) 0 s hs
  obtain ⟨s2, h3, h4⟩ := Qi6 (e := Ue) (fun s : List Int => s.length = n) (l13_f2 d k n) (Yb a.2) 0 s1 h2
  refine ⟨s2, ?_, h4⟩
  rw [h1]
  simp only [Out.on, Wg]
  rw [h3]
  rfl
theorem Qpr (d : List Zh) (lev : List Int) : List.length (Z1 d lev) = List.length lev := by
  unfold Z1
  obtain ⟨s1, h1, h2⟩ := Qi6 (e := Uf) (fun s : List Int => s.length = lev.length) (l13_f0 d lev.length) d 0 lev rfl
  rw [h1]
  exact h2
theorem Qcs {d : List Zh} (h : Y4 d = true) : List.length d ≤ 5 := by
  unfold Y4 at h
  cases hf : Xk (Zq d) Js d 0 () with
  | brk t => rw [hf] at h; simp only [Out.on, decide_eq_true_eq] at h; omega
  | ret r =>
    rw [hf] at h
    obtain rfl : r = true := h
    exfalso
    have key : ∀ (l : List Zh) k, Xk (Zq d) Js l k () ≠ .ret true := by
      intro l
      induction l with
      | nil => intro k h; simp [Xk] at h
      | cons a l ih =>
        intro k h
        simp only [Xk] at h
        unfold Zq at h
        split at h
        · rename_i hf; exact ih _ h
        · cases h
        · rename_i r hf; cases h; revert hf; generalize (_ || _ : Bool) = c; cases c <;> simp
    exact key _ _ hf
theorem dirs5 {d : List Zh} (h : Ja d = true) : IntKind.i64.wrap (IntKind.i64.wrap ((d.length : Int) * (d.length : Int)) + 1) = ((List.length d * List.length d + 1 : Nat) : Int) ∧ ((List.length d * List.length d + 1 : Nat) : Int) ≤ 26 := by
  have h5 := Qcs ((Qnj d).trans h)
  generalize List.length d = n at h5 ⊢
  have : n = 0 ∨ n = 1 ∨ n = 2 ∨ n = 3 ∨ n = 4 ∨ n = 5 := by omega
  rcases this with rfl | rfl | rfl | rfl | rfl | rfl <;> decide
end Go.Proofs.YtnhmnfmhnepjmaaGreat
namespace Go.Proofs.YtnhmnfmhnepjmaaGreat
open Go.RowKit
def J0 (d : List Zh) (w : Int) : List ByteArray → Va
  | [] => []
  | s :: r => if 0 ≤ Xi d s then (Int.toNat (Xi d s), w) :: J0 d w r else J0 d w r
theorem Qf3 (d : List Zh) (w : Int) : ∀ (l : List ByteArray) (e : Nat × Int), e ∈ J0 d w l → e.2 = w ∧ e.1 < d.length
  | [], e, h => by simp [J0] at h
  | s :: r, e, h => by
    simp only [J0] at h
    split at h
    · rename_i h0
      rcases List.mem_cons.1 h with rfl | h
      · have := (Qnk d s).2
        exact ⟨rfl, by show Int.toNat _ < _; omega⟩
      · exact Qf3 d w r e h
    · exact Qf3 d w r e h
def Z6 (d : List Zh) (i : Nat) : Va := if i < d.length then J0 d 0 (Xq (nth d i).2) ++ J0 d 1 (Xg (nth d i).2) else []
theorem Qer (d : List Zh) (i : Nat) (e : Nat × Int) (h : e ∈ Z6 d i) : e.2 ≤ 1 ∧ e.1 < d.length ∧ i < d.length := by
  unfold Z6 at h
  split at h
  · rename_i hi
    rcases List.mem_append.1 h with h | h <;> (have := Qf3 d _ _ e h; omega)
  · simp at h
theorem need_app (E1 E2 : Va) (L : List Int) : Qcz (E1 ++ E2) L = max (Qcz E1 L) (Qcz E2 L) := by
  have h1 : Qcz (E1 ++ E2) L ≤ max (Qcz E1 L) (Qcz E2 L) := Qao.2 ⟨by have := Qf0 E1 L; omega, fun e he => by
    rcases List.mem_append.1 he with he | he
    · have := (Qao.1 (Int.le_refl (Qcz E1 L))).2 e he; omega
    · have := (Qao.1 (Int.le_refl (Qcz E2 L))).2 e he; omega⟩
  have h2 := Qao.1 (Int.le_refl (Qcz (E1 ++ E2) L))
  have h3 : Qcz E1 L ≤ Qcz (E1 ++ E2) L := Qao.2 ⟨h2.1, fun e he => h2.2 e (List.mem_append_left _ he)⟩
  have h4 : Qcz E2 L ≤ Qcz (E1 ++ E2) L := Qao.2 ⟨h2.1, fun e he => h2.2 e (List.mem_append_right _ he)⟩
  omega
theorem Qh0 (d : List Zh) (L : List Int) (w : Int) (hw : 0 ≤ w ∧ w ≤ 1) (hL : ∀ j, 0 ≤ nth L j ∧ nth L j ≤ 1000000) : ∀ (l : List ByteArray) (k : Nat) (m : Int), Xk (Vr d L w) W0 l k m = .brk ((J0 d w l).foldl (fun m e => max m (nth L e.1 + e.2)) m)
  | [], k, m => rfl
  | s :: r, k, m => by
    simp only [Xk, Vr, J0]
    have hwr : ∀ j, IntKind.i64.wrap (nth L j + w) = nth L j + w := fun j => IntWalk.i64_in _ (by have := hL j; omega)
    by_cases h : 0 ≤ Xi d s
    · have h' : decide (Xi d s ≥ (0 : Int)) = true := decide_eq_true h
      rw [h', cond_true, if_pos h, hwr]
      exact Qh0 d L w hw hL r (k + 1) _
    · have h' : decide (Xi d s ≥ (0 : Int)) = false := decide_eq_false h
      rw [h', cond_false, if_neg h]
      exact Qh0 d L w hw hL r (k + 1) _
theorem Qtj {d : List Zh} {L : List Int} {w : Int} (hw : 0 ≤ w ∧ w ≤ 1) (hL : ∀ j, 0 ≤ nth L j ∧ nth L j ≤ 1000000) (l : List ByteArray) : Q8 d L l w = Qcz (J0 d w l) L := by
  unfold Q8
  rw [Qh0 d L w hw hL]
  rfl
theorem least_eq {d : List Zh} {L : List Int} (hL : ∀ j, 0 ≤ nth L j ∧ nth L j ≤ 1000000) {i : Nat} (hi : i < d.length) : max (Q8 d L (Xq (nth d i).2) 0) (Q8 d L (Xg (nth d i).2) 1) = Qcz (Z6 d i) L := by
  rw [Qtj (by omega) hL, Qtj (by omega) hL]
  unfold Z6
  rw [if_pos hi, need_app]
abbrev Qtk (d : List Zh) (a : Zh) (L : List Int) : Int := max (Q8 d L (Xq a.2) 0) (Q8 d L (Xg a.2) 1)
abbrev StepD := Nat → Zh → List Int × Bool → Rd (Rd (List Int × Bool) (List Int × Bool) (List Int)) (List Int × Bool) (List Int × Bool)
def StepOk (d : List Zh) (f : StepD) : Prop := ∀ k a s, f k a s = bif decide (Qtk d a s.1 > (d.length : Int)) then .ret (.ret ([], false)) else (bif decide (Qtk d a s.1 > nth s.1 k) then .next (List.set s.1 k (Qtk d a s.1), true) else .next (s.1, s.2))
theorem Qf4 {d : List Zh} {f : StepD} {e : Nat → List Int × Bool → List Int × Bool} (hf : StepOk d f) (he : ∀ k s, e k s = s) (hd : d.length ≤ 1000000) :
    ∀ (l : List Zh) (k : Nat) (L : List Int) (c : Bool), d.drop k = l → L.length = d.length → (∀ j, 0 ≤ nth L j ∧ nth L j ≤ (d.length : Int)) →
      Xk f e l k (L, c) = (match Qbg (Z6 d) d.length (List.range' k l.length) (c, L) with
        | none => .ret (.ret ([], false))
        | some s => .brk (s.2, s.1))
  | [], k, L, c, _, _, _ => by simp [Xk, Qbg, he]
  | a :: l, k, L, c, hl, hlen, hL => by
    have hk : d[k]? = some a := by
      have := congrArg (·[0]?) hl
      simpa using this
    have hkl : k < d.length := (List.getElem?_eq_some_iff.1 hk).1
    have ha : nth d k = a := Ql0 hk
    have hrest : d.drop (k + 1) = l := by rw [← List.drop_drop, hl]; rfl
    have hb : ∀ j, 0 ≤ nth L j ∧ nth L j ≤ 1000000 := fun j => by have := hL j; omega
    have hM : Qtk d a L = Qcz (Z6 d k) L := by rw [← ha]; exact least_eq hb hkl
    simp only [Xk, hf k a (L, c), List.length_cons, List.range'_succ, Qbg, hM]
    by_cases h1 : (d.length : Int) < Qcz (Z6 d k) L
    · rw [decide_eq_true (show Qcz (Z6 d k) L > (d.length : Int) from h1), cond_true, if_pos h1]
    · rw [decide_eq_false (show ¬ Qcz (Z6 d k) L > (d.length : Int) from h1), cond_false, if_neg h1]
      by_cases h2 : nth L k < Qcz (Z6 d k) L
      · rw [decide_eq_true (show Qcz (Z6 d k) L > nth L k from h2), cond_true, if_pos h2]
        refine Qf4 hf he hd l (k + 1) _ true hrest (by rw [List.length_set]; exact hlen) fun j => ?_
        have h0 := Qf0 (Z6 d k) L
        rw [Qf1 _ _ (by omega)]
        split
        · omega
        · exact hL j
      · rw [decide_eq_false (show ¬ Qcz (Z6 d k) L > nth L k from h2), cond_false, if_neg h2]
        exact Qf4 hf he hd l (k + 1) L c hrest hlen hL
def endD : Option (List Int) → Out (List Int × Bool) (List Int)
  | none => .ret ([], false)
  | some L => .brk L
def LoopOk (d : List Zh) (f : StepD) (e : Nat → List Int × Bool → List Int × Bool) (F : List Int × Bool → Rd (List Int × Bool) (List Int × Bool) (List Int)) : Prop := ∀ s, F s = bif s.2 then (Out.on (Xk f e d 0 (s.1, false)) fun y1 => .next (y1.1, y1.2)) else .brk s.1
theorem Qdh {d : List Zh} {f : StepD} {e : Nat → List Int × Bool → List Int × Bool} {F : List Int × Bool → Rd (List Int × Bool) (List Int × Bool) (List Int)} (hf : StepOk d f) (he : ∀ k s, e k s = s) (hF : LoopOk d f e F) (hd : d.length ≤ 1000000) :
    ∀ (n : Nat) (L : List Int) (c : Bool), L.length = d.length → (∀ j, 0 ≤ nth L j ∧ nth L j ≤ (d.length : Int)) → whl F n (L, c) = (Qhw (Z6 d) d.length d.length n (c, L)).map endD
  | 0, L, c, _, _ => rfl
  | n + 1, L, false, _, _ => by
    simp only [whl, hF (L, false), cond_false, Qhw]
    rfl
  | n + 1, L, true, hlen, hL => by
    have hr := Qf4 hf he hd d 0 L false rfl hlen hL
    have e1 : List.range' 0 d.length = List.range d.length := (List.range_eq_range' ..).symm
    rw [e1] at hr
    simp only [whl, hF (L, true), cond_true, hr, Qhw]
    cases hc : Qbg (Z6 d) d.length (List.range d.length) (false, L) with
    | none => rfl
    | some s =>
      obtain ⟨h1, _, _, h4⟩ := Qbu (List.range d.length) false L s (fun i hi => by rw [hlen]; exact Qag hi) hc
      have := Qdh hf he hF hd n s.2 s.1 (by rw [h1, Qe3, hlen]) fun j => ⟨by rw [h1]; exact Int.le_trans (hL j).1 (Qgu (Z6 d) j _ L), h4 (fun j => (hL j).2) j⟩
      exact this
theorem Qah (n : Nat) : (List.replicate n (0 : Int)).length = n ∧ ∀ j, 0 ≤ nth (List.replicate n (0 : Int)) j ∧ nth (List.replicate n (0 : Int)) j ≤ (n : Int) :=
  ⟨by simp, fun j => by rw [Qi2]; omega⟩
theorem Qrq {d : List Zh} {f : StepD} {e : Nat → List Int × Bool → List Int × Bool} {F : List Int × Bool → Rd (List Int × Bool) (List Int × Bool) (List Int)} (hf : StepOk d f) (he : ∀ k s, e k s = s) (hF : LoopOk d f e F) (hd : d.length ≤ 1000000) :
    (whl F (List.length d * List.length d + 3) (List.replicate (Int.toNat (d.length : Int)) (0 : Int), true)).isSome = true := by
  rw [Int.toNat_natCast, Qdh hf he hF hd _ _ _ (Qah _).1 (Qah _).2, Option.isSome_map]
  refine Ql8 _ _ _ (Qah _).1 (fun j => ((Qah _).2 j).2) ?_
  have : ((List.length d * List.length d + 3 : Nat) : Int) = (d.length : Int) * (d.length : Int) + 3 := by rw [Int.natCast_add, Int.natCast_mul]; rfl
  have h0 : (List.replicate d.length (0 : Int)).sum = 0 := by simp
  rw [this, h0]
  omega
open GoE (enc wide)
def W8 (b : (List Int)) (k0 : Nat) (a0 : Int) (_ : Unit) : Rd (Bool) (Unit) (Unit) := (bif (a0 != (nth b k0)) then (.ret false) else (.next ()))
def Uz (_ : Nat) (_ : Unit) : Unit := ()
def Z3 (a_ : (List Int)) (b : (List Int)) : Bool := (bif ((a_.length : Int) != (b.length : Int)) then false else (Out.on (Xk (W8 b) Uz a_ 0 ()) (fun _ => true)))
theorem Qg1 (a_ : (List Int)) (b : (List Int)) : ACalls Tryz.prog 72 [.h a_, .h b] (.b (Z3 a_ b)) := by
 refine Qn (tt := tt) Qb Tryz.func72 (fn := Tryz.f72) rfl (by unfold Z7; kernel_rfl) (Nat.le_of_ble_eq_true rfl) fun w0 F0 => ?_
 refine Qa ?_
 refine rk Qb [(4, .b false)] [] [] [] [] (o0) ?_
 refine Qa ?_
 refine Qa ?_
 refine rk Qb [(10, .b ((a_.length : Int) != (b.length : Int)))] [] [] [] [(1, .val (.i (a_.length : Int))), (3, .val (.i (b.length : Int)))] (o2 (Qf (Xc a_)) (o1 (Qf (Xc b)))) ?_
 refine ck ((a_.length : Int) != (b.length : Int)) (fun h1 => ?_) (fun h1 => ?_)
 ·
  refine Qa ?_
  refine rk Qb [] [10] [] [] [] (o0) ?_
  refine Qi ?_
  exact Zb [] (congrArg (fun z => (.b z : AV)) (show Z3 a_ b = false from Yf h1 (rfl)).symm)
 ·
  have h1d := H4 h1
  refine Qh ?_
  refine Qa ?_
  refine Qa ?_
  refine rk Qb [(5, .i 0)] [10] [] [] [] (o0) ?_
  refine wdT 0 0 .sh a_ (fun hw2 => ?_)
  have hl3 : List.length a_ ≤ 1073741824 := Qp (hw2)
  refine blk (fun (k0 : Nat) (s0 : Unit) => [(5, .i ((k0 : Nat) : Int))]) [5] (fun k0 s0 => []) [] (fun (y0 : Unit) => []) [0, 1, 5] (fun y0 => []) [] (fun (k0 : Nat) (s0 : Unit) => (Xk (W8 b) Uz a_ 0 ()) = Xk (W8 b) Uz (List.drop k0 a_) k0 s0) (fun (y0 : Unit) => (Xk (W8 b) Uz a_ 0 ()) = .brk y0) a_.length () (Qc (by kernel_rfl)) rfl (fun k0 s0 hk0 hI0 => ?_) (fun k0 s0 hk0 hI0 => ?_) (fun y0 hD0 => ?_)
  ·
   obtain ⟨a0, hx0⟩ := X8 (l := a_) (i := k0) hk0
   refine Qa ?_
   refine Qa ?_
   refine rk Qb [(14, .b true)] [] [] [] [(2, .val (.i (a_.length : Int))), (3, .val (.b true))] (o2 (Qf (Xc a_)) (o1 (Qf (Qg (decide_eq_true (p := ((k0 : Nat) : Int) < (a_.length : Int)) (by omega)))))) ?_
   refine ckT ?_
   refine Qh ?_
   refine Qa ?_
   refine Q4 ?_
   refine Qa ?_
   refine wdT 1 0 .sh b (fun hw5 => ?_)
   have hl6 : List.length b ≤ 1073741824 := Qp (hw5)
   have hx4 : b[k0]? = some (nth b k0) := X3 (by omega)
   refine rd' Qb Zv [(25, .b (a0 != (nth b k0)))] [14] [] [] [(2, .row [.i a0]), (6, .row [.i (nth b k0)])] (o2 (Ql (Xl (i := ((k0 : Nat) : Int)) (by omega) rfl hx0)) (o1 (Ql (Xl (i := ((k0 : Nat) : Int)) (by omega) rfl hx4)))) ?_
   refine ck (a0 != (nth b k0)) (fun h7 => ?_) (fun h7 => ?_)
   ·
    refine Qa ?_
    refine rk Qb [] [25] [] [] [] (o0) ?_
    refine Qi ?_
    have hr8 : (Xk (W8 b) Uz a_ 0 ()) = .ret false := Jq hx0 (Yf h7 (rfl)) hI0
    exact Zb [] (congrArg (fun z => (.b z : AV)) (show Z3 a_ b = false from Qv h1 (Qgl hr8)).symm)
   ·
    have h7d := H4 h7
    refine Qh ?_
    refine rk Qb [(5, .i ((k0 + 1 : Nat) : Int))] [5, 25] [] [] [(1, .val (.i ((k0 + 1 : Nat) : Int)))] (o1 (Qf (Kw (Qs k0 (by omega))))) ?_
    exact Exists.intro () (And.intro (Qc (by kernel_rfl)) (Qw hx0 (Qv h7 (rfl)) hI0))
  ·
   refine Qa ?_
   refine Qa ?_
   refine rk Qb [(14, .b false)] [] [] [] [(2, .val (.i (a_.length : Int))), (3, .val (.b false))] (o2 (Qf (Xc a_)) (o1 (Qf (Qg (decide_eq_false (p := ((k0 : Nat) : Int) < (a_.length : Int)) (by omega)))))) ?_
   refine ckF ?_
   refine Xj ?_
   exact Exists.intro () (And.intro (Qc (by kernel_rfl)) (X9 hk0 (rfl) hI0))
  ·
   refine Qa ?_
   refine rk Qb [(4, .b true)] [4] [] [] [] (o0) ?_
   refine Qi ?_
   exact Zb [] (congrArg (fun z => (.b z : AV)) (show Z3 a_ b = true from Qv h1 (Hk hD0 (rfl))).symm)
def Hq (d : (List Zh)) (_ : Nat) (s0 : (List Int)) : Rd ((List Int) × Bool) ((List Int)) ((List Int)) := (.next (Z1 d s0))
def Qa5 (_ : Nat) (s0 : (List Int)) : (List Int) := s0
def Q9 (d : (List Zh)) : (List Int) × Bool := (bif (!(Ja d)) then ([], false) else (Out.on (U5 (Hq d) Qa5 (Int.toNat (IntKind.i64.wrap (IntKind.i64.wrap ((d.length : Int) * (d.length : Int)) + 1) + 1)) 0 (List.replicate (Int.toNat (d.length : Int)) (0 : Int))) (fun y0 => (bif (!(Z3 (Z1 d y0) y0)) then ([], false) else (y0, true)))))
theorem Qik (d : (List Zh)) : ACalls Tryz.prog 168 [.h d] (.tup [(false, [.o 0 (((Q9 d)).1)]), (false, [.b (((Q9 d)).2)])]) := by
 refine Qn (tt := tt) Qb Tryz.func168 (fn := Tryz.f168) rfl (by unfold Z7; kernel_rfl) (Nat.le_of_ble_eq_true rfl) fun w0 F0 => ?_
 refine Qa ?_
 refine rk Qb [(2, .e 0), (3, .b false)] [] [] [] [] (o0) ?_
 refine Qa ?_
 refine Qa ?_
 refine rk Qb [(8, .b (!(Ja d)))] [] [] [] [(1, .val (.b (Ja d)))] (o1 (Qe (Qhz d))) ?_
 refine ck (!(Ja d)) (fun h1 => ?_) (fun h1 => ?_)
 ·
  refine Qa ?_
  refine rk Qb [(2, .one (.slc (.own true 576) 1 []))] [2, 8] [] [] [] (o0) ?_
  refine Qi ?_
  exact Zb [] (congrArg (fun z => (.tup [(false, [.o 0 z.1]), (false, [.b z.2])] : AV)) (show Q9 d = ([], false) from Yf h1 (rfl)).symm)
 ·
  have h1n : (Ja d) = true := Vo h1
  have h1nv := dirs5 h1n
  refine Qh ?_
  refine Qa ?_
  refine wdT 0 0 .sh d (fun hw2 => ?_)
  have hl3 : List.length d ≤ 1073741824 := Qp (hw2)
  refine rk Qb [(4, .one (.slc (.own true 768) 1 (List.replicate (Int.toNat (d.length : Int)) [.i 0])))] [8] [] [] [(1, .val (.i (d.length : Int)))] (o2 (Qf (Xc d)) (o1 (Qid (lo := 0) (hi := (d.length : Int)) (n := 1073741824) (⟨by omega, by omega, by omega⟩)))) ?_
  refine eqn [(4, .o 768 (List.replicate (Int.toNat (d.length : Int)) (0 : Int)))] [4] [] [] (by rw [show (List.replicate (Int.toNat (d.length : Int)) [.i 0]) = (eL (List.replicate (Int.toNat (d.length : Int)) (0 : Int))) from mk_eL _ (0 : Int)]; first | done | kernel_rfl) ?_
  refine Qa ?_
  refine Qa ?_
  refine rk Qb [(5, .i 0)] [] [] [] [] (o0) ?_
  refine blk (fun (k0 : Nat) (s0 : (List Int)) => [(4, .o 147203 s0), (5, .i ((k0 : Nat) : Int))]) [4, 5] (fun k0 s0 => []) [] (fun (y0 : (List Int)) => [(4, .o 147353 y0)]) [4, 5] (fun y0 => []) [] (fun (k0 : Nat) (s0 : (List Int)) => (U5 (Hq d) Qa5 (Int.toNat (IntKind.i64.wrap (IntKind.i64.wrap ((d.length : Int) * (d.length : Int)) + 1) + 1)) 0 (List.replicate (Int.toNat (d.length : Int)) (0 : Int))) = U5 (Hq d) Qa5 ((Int.toNat (IntKind.i64.wrap (IntKind.i64.wrap ((d.length : Int) * (d.length : Int)) + 1) + 1)) - k0) k0 s0 ∧ List.length s0 = List.length d) (fun (y0 : (List Int)) => (U5 (Hq d) Qa5 (Int.toNat (IntKind.i64.wrap (IntKind.i64.wrap ((d.length : Int) * (d.length : Int)) + 1) + 1)) 0 (List.replicate (Int.toNat (d.length : Int)) (0 : Int))) = .brk y0 ∧ List.length y0 = List.length d) (Int.toNat (IntKind.i64.wrap (IntKind.i64.wrap ((d.length : Int) * (d.length : Int)) + 1) + 1)) (List.replicate (Int.toNat (d.length : Int)) (0 : Int)) (Zg [(768, 147203)] (by kernel_rfl)) ⟨rfl, (by simp)⟩ (fun k0 s0 hk0 hI0 => ?_) (fun k0 s0 hk0 hI0 => ?_) (fun y0 hD0 => ?_)
  ·
   have hA0_0 := hI0.2
   refine Qa ?_
   refine Qa ?_
   refine rk Qb [(20, .b true)] [] [] [] [(2, .val (.i (d.length : Int))), (4, .val (.i (d.length : Int))), (7, .val (.b true))] (o2 (Qf (Xc d)) (o2 (Qf (Xc d)) (o1 (Qf (Qg (decide_eq_true (p := ((k0 : Nat) : Int) ≤ IntKind.i64.wrap (IntKind.i64.wrap ((d.length : Int) * (d.length : Int)) + 1)) (by omega))))))) ?_
   refine ckT ?_
   refine Qh ?_
   refine Qa ?_
   refine Q4 ?_
   refine rk Qb [(4, .o 1600 (Z1 d s0))] [4, 20] [] [] [(2, .val (.o 0 (Z1 d s0)))] (o1 (Qe (Qfj d s0 (by omega)))) ?_
   refine rk Qb [(5, .i ((k0 + 1 : Nat) : Int))] [5] [] [] [(1, .val (.i ((k0 + 1 : Nat) : Int)))] (o1 (Qf (Kw (Qs k0 (by omega))))) ?_
   exact Exists.intro (Z1 d s0) (And.intro (Zg [(1600, 147203)] (by kernel_rfl)) ⟨V0 hk0 (rfl) hI0.1, (by have hz := Qpr d s0; omega)⟩)
  ·
   have hA0_0 := hI0.2
   refine Qa ?_
   refine Qa ?_
   refine rk Qb [(20, .b false)] [] [] [] [(2, .val (.i (d.length : Int))), (4, .val (.i (d.length : Int))), (7, .val (.b false))] (o2 (Qf (Xc d)) (o2 (Qf (Xc d)) (o1 (Qf (Qg (decide_eq_false (p := ((k0 : Nat) : Int) ≤ IntKind.i64.wrap (IntKind.i64.wrap ((d.length : Int) * (d.length : Int)) + 1)) (by omega))))))) ?_
   refine ckF ?_
   refine Xj ?_
   exact Exists.intro s0 (And.intro (Zg [(147203, 147353)] (by kernel_rfl)) ⟨Qb8 hk0 (rfl) hI0.1, by first | omega | (simp only [List.length_set]; omega)⟩)
  ·
   have hD0_0 := hD0.2
   refine Qa ?_
   refine Qa ?_
   refine rk Qb [(31, .b (!(Z3 (Z1 d y0) y0)))] [0] [] [] [(2, .val (.o 0 (Z1 d y0))), (4, .val (.b (Z3 (Z1 d y0) y0)))] (o2 (Qe (Qfj d y0 (by omega))) (o1 (Qe (Qg1 (Z1 d y0) y0)))) ?_
   refine ck (!(Z3 (Z1 d y0) y0)) (fun h4 => ?_) (fun h4 => ?_)
   ·
    refine Qa ?_
    refine rk Qb [(2, .one (.slc (.own true 2048) 1 []))] [2, 31] [] [] [] (o0) ?_
    refine Qi ?_
    exact Zb [] (congrArg (fun z => (.tup [(false, [.o 0 z.1]), (false, [.b z.2])] : AV)) (show Q9 d = ([], false) from Qv h1 (Hk hD0.1 (Yf h4 (rfl)))).symm)
   ·
    refine Qh ?_
    refine Qa ?_
    refine rk Qb [(2, .o 147353 y0), (3, .b true)] [2, 3, 4, 31] [] [] [] (o0) ?_
    refine Qi ?_
    exact Zb [] (congrArg (fun z => (.tup [(false, [.o 0 z.1]), (false, [.b z.2])] : AV)) (show Q9 d = (y0, true) from Qv h1 (Hk hD0.1 (Qv h4 (rfl)))).symm)
def Vb (d : (List Zh)) (k1 : Nat) (a1 : Zh) (s1 : (List Int) × Bool) : Rd (Rd ((List Int) × Bool) ((List Int) × Bool) ((List Int))) ((List Int) × Bool) ((List Int) × Bool) := (bif decide ((max (Q8 d s1.1 (Xq a1.2) 0) (Q8 d s1.1 (Xg a1.2) 1)) > (d.length : Int)) then (.ret (.ret ([], false))) else (bif decide ((max (Q8 d s1.1 (Xq a1.2) 0) (Q8 d s1.1 (Xg a1.2) 1)) > (nth s1.1 k1)) then (.next (List.set s1.1 k1 (max (Q8 d s1.1 (Xq a1.2) 0) (Q8 d s1.1 (Xg a1.2) 1)), true)) else (.next (s1.1, s1.2))))
def Vc (_ : Nat) (s1 : (List Int) × Bool) : (List Int) × Bool := (s1.1, s1.2)
def Vd (d : (List Zh)) (s0 : (List Int) × Bool) : Rd ((List Int) × Bool) ((List Int) × Bool) ((List Int)) := (bif s0.2 then (Out.on (Xk (Vb d) Vc d 0 (s0.1, false)) (fun y1 => (.next (y1.1, y1.2)))) else (.brk s0.1))
def Qj (d : (List Zh)) : (List Int) × Bool := (bif (!(Y4 d)) then ([], false) else (Out.on (Qk5 (Vd d) (List.length d * List.length d + 3) ((List.replicate (Int.toNat (d.length : Int)) (0 : Int)), true)) (fun y0 => (y0, true))))
theorem Qbv (d : List Zh) (hd : d.length ≤ 5) : (whl (Vd d) (List.length d * List.length d + 3) (List.replicate (Int.toNat (d.length : Int)) (0 : Int), true)).isSome = true := Qrq (f := Vb d) (e := Vc) (fun _ _ _ => rfl) (fun _ _ => rfl) (fun _ => rfl) (by omega)
theorem Qil (d : (List Zh)) : ACalls Tryz.prog 175 [.h d] (.tup [(false, [.o 0 (((Qj d)).1)]), (false, [.b (((Qj d)).2)])]) := by
 refine Qn (tt := tt) Qb Tryz.func175 (fn := Tryz.f175) rfl (by unfold Z7; kernel_rfl) (Nat.le_of_ble_eq_true rfl) fun w0 F0 => ?_
 refine Qa ?_
 refine rk Qb [(2, .e 0), (3, .b false)] [] [] [] [] (o0) ?_
 refine Qa ?_
 refine Qa ?_
 refine rk Qb [(11, .b (!(Y4 d)))] [] [] [] [(1, .val (.b (Y4 d)))] (o1 (Qe (Qhy d))) ?_
 refine ck (!(Y4 d)) (fun h1 => ?_) (fun h1 => ?_)
 ·
  refine Qa ?_
  refine rk Qb [] [11] [] [] [] (o0) ?_
  refine opn [(false, 2, 0, true, 384000, 1)] ?_
  refine Qi ?_
  exact Zb [] (congrArg (fun z => (.tup [(false, [.o 0 z.1]), (false, [.b z.2])] : AV)) (show Qj d = ([], false) from Yf h1 (rfl)).symm)
 ·
  have h1n : (Y4 d) = true := Vo h1
  refine Qh ?_
  refine Qa ?_
  refine wdT 0 0 .sh d (fun hw2 => ?_)
  have hl3 : List.length d ≤ 1073741824 := Qp (hw2)
  refine rk Qb [(4, .one (.slc (.own true 896) 1 (List.replicate (Int.toNat (d.length : Int)) [.i 0])))] [11] [] [] [(1, .val (.i (d.length : Int)))] (o2 (Qf (Xc d)) (o1 (Qid (lo := 0) (hi := (d.length : Int)) (n := 1073741824) (⟨by omega, by omega, by omega⟩)))) ?_
  refine eqn [(4, .o 896 (List.replicate (Int.toNat (d.length : Int)) (0 : Int)))] [4] [] [] (by rw [show (List.replicate (Int.toNat (d.length : Int)) [.i 0]) = (eL (List.replicate (Int.toNat (d.length : Int)) (0 : Int))) from mk_eL _ (0 : Int)]; first | done | kernel_rfl) ?_
  refine Qa ?_
  refine Qa ?_
  refine rk Qb [(5, .b true)] [] [] [] [] (o0) ?_
  refine blw (fun (s0 : (List Int) × Bool) => [(4, .o 896 s0.1), (5, .b s0.2)]) [4, 5] (fun s0 => []) [] (fun (y0 : (List Int)) => [(4, .o 896 y0)]) [0, 4, 5] (fun y0 => []) [] (fun (k0 : Nat) (s0 : (List Int) × Bool) => whl (Vd d) k0 s0 = some (Qk5 (Vd d) (List.length d * List.length d + 3) ((List.replicate (Int.toNat (d.length : Int)) (0 : Int)), true)) ∧ List.length s0.1 = List.length d) (fun (y0 : (List Int)) => (Qk5 (Vd d) (List.length d * List.length d + 3) ((List.replicate (Int.toNat (d.length : Int)) (0 : Int)), true)) = .brk y0) (List.length d * List.length d + 3) ((List.replicate (Int.toNat (d.length : Int)) (0 : Int)), true) (Qc (by kernel_rfl)) ⟨Qm7 (Qbv d (Qcs (h1n))), (by simp)⟩ (fun _ h => Qm8 h.1) (fun k0 s0 hI0 => ?_) (fun y0 hD0 => ?_)
  ·
   have hA0_0 := hI0.2
   refine Qa ?_
   refine Qa ?_
   refine rk Qb [(15, .b s0.2)] [] [] [] [] (o0) ?_
   refine ck s0.2 (fun h4 => ?_) (fun h4 => ?_)
   ·
    refine Qh ?_
    refine Q4 ?_
    refine Qa ?_
    refine rk Qb [(5, .b false)] [5, 15] [] [] [] (o0) ?_
    refine Qa ?_
    refine rk Qb [(16, .h d), (17, .i (d.length : Int)), (18, .i 0)] [] [] [] [(1, .val (.i (d.length : Int)))] (o1 (Qf (Xc d))) ?_
    refine blk (fun (k1 : Nat) (s1 : (List Int) × Bool) => [(4, .o 896 s1.1), (5, .b s1.2), (18, .i ((k1 : Nat) : Int))]) [4, 5, 18] (fun k1 s1 => []) [] (fun (y1 : (List Int) × Bool) => [(4, .o 896 y1.1), (5, .b y1.2)]) [4, 5, 16, 17, 18] (fun y1 => []) [] (fun (k1 : Nat) (s1 : (List Int) × Bool) => (Xk (Vb d) Vc d 0 (s0.1, false)) = Xk (Vb d) Vc (List.drop k1 d) k1 s1 ∧ List.length s1.1 = List.length s0.1) (fun (y1 : (List Int) × Bool) => (Xk (Vb d) Vc d 0 (s0.1, false)) = .brk y1 ∧ List.length y1.1 = List.length s0.1) d.length (s0.1, false) (Qc (by kernel_rfl)) ⟨rfl, (by simp)⟩ (fun k1 s1 hk1 hI1 => ?_) (fun k1 s1 hk1 hI1 => ?_) (fun y1 hD1 => ?_)
    ·
     have hA1_0 := hI1.2
     obtain ⟨a1, hx1⟩ := X8 (l := d) (i := k1) hk1
     refine Qa ?_
     refine rk Qb [(19, .b true)] [] [] [] [(0, .val (.b true))] (o1 (Qf (Qg (decide_eq_true (p := ((k1 : Nat) : Int) < (d.length : Int)) (by omega))))) ?_
     refine Qa ?_
     refine ckT ?_
     refine Qh ?_
     refine Qa ?_
     refine Q4 ?_
     refine Qa ?_
     refine rk Qb [(6, .i ((k1 : Nat) : Int)), (7, .p 7 0)] [19] [(7, [.s a1.1, .h a1.2])] [] [(1, .row [.s a1.1, .h a1.2])] (o1 (Ql (Xl (i := ((k1 : Nat) : Int)) (by omega) rfl hx1))) ?_
     refine Qa ?_
     refine rd' Qb Zv [(8, .i (max (Q8 d s1.1 (Xq a1.2) 0) (Q8 d s1.1 (Xg a1.2) 1)))] [7] [] [7] [(4, .val (.h (Xq a1.2))), (5, .val (.i (Q8 d s1.1 (Xq a1.2) 0))), (10, .val (.h (Xg a1.2))), (11, .val (.i (Q8 d s1.1 (Xg a1.2) 1)))] (o2 (Qe (Qgw a1.2)) (o2 (Qe (Qdg d s1.1 (Xq a1.2) 0 (by omega))) (o2 (Qe (Qgx a1.2)) (o1 (Qe (Qdg d s1.1 (Xg a1.2) 1 (by omega))))))) ?_
     refine Qa ?_
     refine Qa ?_
     refine rk Qb [(39, .b (decide ((max (Q8 d s1.1 (Xq a1.2) 0) (Q8 d s1.1 (Xg a1.2) 1)) > (d.length : Int))))] [] [] [] [(2, .val (.i (d.length : Int)))] (o1 (Qf (Xc d))) ?_
     refine ck (decide ((max (Q8 d s1.1 (Xq a1.2) 0) (Q8 d s1.1 (Xg a1.2) 1)) > (d.length : Int))) (fun h5 => ?_) (fun h5 => ?_)
     ·
      refine Qa ?_
      refine rk Qb [] [39] [] [] [] (o0) ?_
      refine opn [(false, 2, 0, true, 384000, 1)] ?_
      refine Qi ?_
      have hr6 : (Xk (Vb d) Vc d 0 (s0.1, false)) = .ret (.ret ([], false)) := Jq hx1 (Yf h5 (rfl)) hI1.1
      have hr7 : (Qk5 (Vd d) (List.length d * List.length d + 3) ((List.replicate (Int.toNat (d.length : Int)) (0 : Int)), true)) = .ret ([], false) := whl_ret (Yf h4 (Qgl hr6)) hI0.1
      exact Zb [] (congrArg (fun z => (.tup [(false, [.o 0 z.1]), (false, [.b z.2])] : AV)) (show Qj d = ([], false) from Qv h1 (Qgl hr7)).symm)
     ·
      have h5d := of_decide_eq_false h5
      refine Qh ?_
      refine Qa ?_
      refine wdT 4 0 (.own true 896) s1.1 (fun hw9 => ?_)
      have hl10 : List.length s1.1 ≤ 1073741824 := Qp (hw9)
      have hx8 : s1.1[k1]? = some (nth s1.1 k1) := X3 (by omega)
      refine rk Qb [(45, .b (decide ((max (Q8 d s1.1 (Xq a1.2) 0) (Q8 d s1.1 (Xg a1.2) 1)) > (nth s1.1 k1))))] [39] [] [] [(3, .rowE [.i (nth s1.1 k1)])] (o1 (Ql (Xl (i := ((k1 : Nat) : Int)) (by omega) rfl hx8))) ?_
      refine ck (decide ((max (Q8 d s1.1 (Xq a1.2) 0) (Q8 d s1.1 (Xg a1.2) 1)) > (nth s1.1 k1))) (fun h11 => ?_) (fun h11 => ?_)
      ·
       have h11d := of_decide_eq_true h11
       refine Qa ?_
       refine rk Qb [(4, .one (.slc (.own true 896) 1 (setRow (eL s1.1) k1 0 [.i (max (Q8 d s1.1 (Xq a1.2) 0) (Q8 d s1.1 (Xg a1.2) 1))])))] [4, 6, 8, 45] [] [] [(3, .rowE [.i (nth s1.1 k1)])] (o1 (Ql (Xl (i := ((k1 : Nat) : Int)) (by omega) rfl hx8))) ?_
       refine eqn [(4, .o 896 (List.set s1.1 k1 (max (Q8 d s1.1 (Xq a1.2) 0) (Q8 d s1.1 (Xg a1.2) 1))))] [4] [] [] (by rw [Kd (y := (max (Q8 d s1.1 (Xq a1.2) 0) (Q8 d s1.1 (Xg a1.2) 1))) hx8 rfl]; first | done | kernel_rfl) ?_
       refine rk Qb [(5, .b true)] [5] [] [] [] (o0) ?_
       refine rk Qb [(18, .i ((k1 + 1 : Nat) : Int))] [18] [] [] [(0, .val (.i ((k1 + 1 : Nat) : Int)))] (o1 (Qf (Kw (Qs k1 (by omega))))) ?_
       exact Exists.intro (List.set s1.1 k1 (max (Q8 d s1.1 (Xq a1.2) 0) (Q8 d s1.1 (Xg a1.2) 1)), true) (And.intro (Qc (by kernel_rfl)) ⟨Qw hx1 (Qv h5 (Yf h11 (rfl))) hI1.1, (by first | omega | (simp only [List.length_set]; omega))⟩)
      ·
       have h11d := of_decide_eq_false h11
       refine Qh ?_
       refine rk Qb [(18, .i ((k1 + 1 : Nat) : Int))] [6, 8, 18, 45] [] [] [(0, .val (.i ((k1 + 1 : Nat) : Int)))] (o1 (Qf (Kw (Qs k1 (by omega))))) ?_
       exact Exists.intro (s1.1, s1.2) (And.intro (Qc (by kernel_rfl)) ⟨Qw hx1 (Qv h5 (Qv h11 (rfl))) hI1.1, (by first | omega | (simp only [List.length_set]; omega))⟩)
    ·
     have hA1_0 := hI1.2
     refine Qa ?_
     refine rk Qb [(19, .b false)] [] [] [] [(0, .val (.b false))] (o1 (Qf (Qg (decide_eq_false (p := ((k1 : Nat) : Int) < (d.length : Int)) (by omega))))) ?_
     refine Qa ?_
     refine ckF ?_
     refine Xj ?_
     exact Exists.intro (s1.1, s1.2) (And.intro (Qc (by kernel_rfl)) ⟨X9 hk1 (rfl) hI1.1, by first | omega | (simp only [List.length_set]; omega)⟩)
    ·
     have hD1_0 := hD1.2
     exact Exists.intro (y1.1, y1.2) (And.intro (Qc (by kernel_rfl)) ⟨Qm6 (Yf h4 (Hk hD1.1 (rfl))) hI0.1, (by first | omega | (simp only [List.length_set]; omega))⟩)
   ·
    refine Xj ?_
    exact Exists.intro s0.1 (And.intro (Qc (by kernel_rfl)) (Qq9 (Qv h4 (rfl)) hI0.1))
  ·
   refine Qa ?_
   refine rk Qb [(2, .o 896 y0), (3, .b true)] [2, 3, 4] [] [] [] (o0) ?_
   refine Qi ?_
   exact Zb [] (congrArg (fun z => (.tup [(false, [.o 0 z.1]), (false, [.b z.2])] : AV)) (show Qj d = (y0, true) from Qv h1 (Hk hD0 (rfl))).symm)
end Go.Proofs.YtnhmnfmhnepjmaaGreat
namespace Go.Proofs.YtnhmnfmhnepjmaaGreat
open Go.RowKit
def Low (b : Int) (L : List Int) : Prop := ∀ j, 0 ≤ nth L j ∧ nth L j ≤ b
theorem Qtl {b w : Int} {i : Nat} {L : List Int} {p : Nat} (hi : i < L.length) (hw : 0 ≤ w ∧ w ≤ 1) (h : Low b L) : Low (b + w) (Qhh i L (p, w)) := fun j => by
  rw [Qi4 _ hi]
  have h1 := h j
  have h2 := h p
  have h3 := h i
  split
  · show 0 ≤ max (nth L i) (nth L p + w) ∧ max (nth L i) (nth L p + w) ≤ b + w; omega
  · omega
theorem Qrr (d : List Zh) (k0 : Nat) : ∀ (l : List ByteArray) (k : Nat) (s : List Int) (b : Int), k0 < s.length → Low b s → Xk (Vg d k0) Wg l k s = .brk (Qap k0 (J0 d 0 l) s) ∧ Low b (Qap k0 (J0 d 0 l) s)
  | [], k, s, b, _, h => ⟨rfl, h⟩
  | a :: l, k, s, b, hk, h => by
    have hf : Vg d k0 k a s = (bif (decide (0 ≤ Xi d a) && decide (nth s k0 < nth s (Int.toNat (Xi d a)))) then .next (List.set s k0 (nth s (Int.toNat (Xi d a)))) else .next s) := rfl
    simp only [Xk, hf, J0]
    by_cases h0 : 0 ≤ Xi d a
    · rw [if_pos h0, decide_eq_true h0, Bool.true_and]
      have hb : Low b (Qhh k0 s (Int.toNat (Xi d a), 0)) := by have := Qtl (w := 0) (p := Int.toNat (Xi d a)) hk (by omega) h; simpa using this
      have hbk : Qap k0 ((Int.toNat (Xi d a), 0) :: J0 d 0 l) s = Qap k0 (J0 d 0 l) (Qhh k0 s (Int.toNat (Xi d a), 0)) := rfl
      rw [hbk]
      have ih := Qrr d k0 l (k + 1) (Qhh k0 s (Int.toNat (Xi d a), 0)) b (by rw [Qdy]; exact hk) hb
      by_cases h1 : nth s k0 < nth s (Int.toNat (Xi d a))
      · have e : Qhh k0 s (Int.toNat (Xi d a), 0) = List.set s k0 (nth s (Int.toNat (Xi d a))) := by unfold Qhh; simp [h1]
        rw [decide_eq_true h1, cond_true]
        rw [e] at ih ⊢; exact ih
      · have e : Qhh k0 s (Int.toNat (Xi d a), 0) = s := by unfold Qhh; simp [h1]
        rw [decide_eq_false h1, cond_false]
        rw [e] at ih ⊢; exact ih
    · rw [if_neg h0, decide_eq_false h0, Bool.false_and, cond_false]
      exact Qrr d k0 l (k + 1) s b hk h
theorem Qrs (d : List Zh) (k0 : Nat) : ∀ (l : List ByteArray) (k : Nat) (s : List Int) (b : Int), k0 < s.length → Low b s → b + l.length ≤ 1000000 → Xk (Vh d k0) Ue l k s = .brk (Qap k0 (J0 d 1 l) s) ∧ Low (b + l.length) (Qap k0 (J0 d 1 l) s)
  | [], k, s, b, _, h, _ => ⟨rfl, by show Low (b + ((0 : Nat) : Int)) s; simpa using h⟩
  | a :: l, k, s, b, hk, h, hb => by
    rw [List.length_cons] at hb ⊢
    have hf : Vh d k0 k a s = (bif (decide (0 ≤ Xi d a) && decide (nth s k0 < IntKind.i64.wrap (nth s (Int.toNat (Xi d a)) + 1))) then .next (List.set s k0 (IntKind.i64.wrap (nth s (Int.toNat (Xi d a)) + 1))) else .next s) := rfl
    simp only [Xk, hf, J0]
    have hl : b + ((l.length + 1 : Nat) : Int) = b + 1 + (l.length : Int) := by omega
    have hw : IntKind.i64.wrap (nth s (Int.toNat (Xi d a)) + 1) = nth s (Int.toNat (Xi d a)) + 1 := IntWalk.i64_in _ (by have := h (Int.toNat (Xi d a)); omega)
    rw [hl] at hb ⊢
    by_cases h0 : 0 ≤ Xi d a
    · rw [if_pos h0, decide_eq_true h0, Bool.true_and, hw]
      have hlow := Qtl (w := 1) (p := Int.toNat (Xi d a)) hk (by omega) h
      have hbk : Qap k0 ((Int.toNat (Xi d a), 1) :: J0 d 1 l) s = Qap k0 (J0 d 1 l) (Qhh k0 s (Int.toNat (Xi d a), 1)) := rfl
      rw [hbk]
      have ih := Qrs d k0 l (k + 1) (Qhh k0 s (Int.toNat (Xi d a), 1)) (b + 1) (by rw [Qdy]; exact hk) hlow hb
      by_cases h1 : nth s k0 < nth s (Int.toNat (Xi d a)) + 1
      · have e : Qhh k0 s (Int.toNat (Xi d a), 1) = List.set s k0 (nth s (Int.toNat (Xi d a)) + 1) := by unfold Qhh; rw [if_pos h1]
        rw [decide_eq_true h1, cond_true]
        rw [e] at ih ⊢; exact ih
      · have e : Qhh k0 s (Int.toNat (Xi d a), 1) = s := by unfold Qhh; rw [if_neg h1]
        rw [decide_eq_false h1, cond_false]
        rw [e] at ih ⊢; exact ih
    · rw [if_neg h0, decide_eq_false h0, Bool.false_and, cond_false]
      exact Qrs d k0 l (k + 1) s (b + 1) hk (fun j => by have := h j; omega) hb
theorem Qkf (q : List Yq) (b : Bool) : ∀ (l : List Bool) (k : Nat) (s : List ByteArray), ∃ t, Xk (Ji q b) Kx l k s = .brk t ∧ t.length ≤ s.length + l.length
  | [], k, s => ⟨s, rfl, by simp⟩
  | a :: l, k, s => by
    simp only [Xk, Ji]
    cases (Z9 (nth q k) && (a == b)) with
    | true =>
      obtain ⟨t, h1, h2⟩ := Qkf q b l (k + 1) (s ++ [(nth q k).2.2.2.1])
      exact ⟨t, h1, by simp at h2 ⊢; omega⟩
    | false =>
      obtain ⟨t, h1, h2⟩ := Qkf q b l (k + 1) s
      exact ⟨t, h1, by simp at h2 ⊢; omega⟩
theorem negated9 (q : List Yq) : List.length (Q7 q) ≤ 9 := by
  cases hv : Qm q with
  | true => have := Qfx q; have := (Qj6 hv).2; omega
  | false => unfold Q7; rw [hv]; simp
theorem deps9 (q : List Yq) (b : Bool) : List.length (Zu q b) ≤ 9 := by
  unfold Zu
  obtain ⟨t, h1, h2⟩ := Qkf q b (Q7 q) 0 []
  rw [h1]
  have h3 := negated9 q
  have h4 := compS_len (Qd9 t)
  rw [Qpi] at h4
  show (Qiq (Qd9 t)).length ≤ 9
  simp at h2
  omega
theorem bumps_app (i : Nat) (E1 E2 : Va) (L : List Int) : Qap i (E1 ++ E2) L = Qap i E2 (Qap i E1 L) := List.foldl_append
theorem f0_step {d : List Zh} {k : Nat} {a : Zh} {s : List Int} {b : Int} (hk : d[k]? = some a) (hs : s.length = d.length) (h : Low b s) (hb : b + 9 ≤ 1000000) : Ko d k a s = .next (Qap k (Z6 d k) s) ∧ Low (b + 9) (Qap k (Z6 d k) s) := by
  have hkl : k < d.length := (List.getElem?_eq_some_iff.1 hk).1
  have ha : nth d k = a := Ql0 hk
  obtain ⟨h1, h2⟩ := Qrr d k (Xq a.2) 0 s b (by omega) h
  have h9 : (Xg a.2).length ≤ 9 := deps9 a.2 true
  obtain ⟨h3, h4⟩ := Qrs d k (Xg a.2) 0 (Qap k (J0 d 0 (Xq a.2)) s) b (by rw [Qcr]; omega) h2 (by omega)
  have he : Z6 d k = J0 d 0 (Xq a.2) ++ J0 d 1 (Xg a.2) := by unfold Z6; rw [if_pos hkl, ha]
  rw [he, bumps_app]
  refine ⟨?_, fun j => by have := h4 j; omega⟩
  unfold Ko
  rw [Quv, Quw, h1]
  simp only [Out.on]
  rw [h3]
theorem Qmc {d : List Zh} : ∀ (l : List Zh) (k : Nat) (s : List Int) (b : Int), d.drop k = l → s.length = d.length → Low b s → b + 9 * l.length ≤ 1000000 → Xk (Ko d) Uf l k s = .brk (H0 (Z6 d) (List.range' k l.length) s) ∧ Low (b + 9 * l.length) (H0 (Z6 d) (List.range' k l.length) s)
  | [], k, s, b, _, _, h, _ => ⟨rfl, by show Low (b + 9 * ((0 : Nat) : Int)) s; simpa using h⟩
  | a :: l, k, s, b, hl, hs, h, hb => by
    have hk : d[k]? = some a := by
      have := congrArg (·[0]?) hl
      simpa using this
    have hrest : d.drop (k + 1) = l := by rw [← List.drop_drop, hl]; rfl
    rw [List.length_cons] at hb ⊢
    obtain ⟨h1, h2⟩ := f0_step hk hs h (by omega)
    have e : b + 9 * ((l.length + 1 : Nat) : Int) = b + 9 + 9 * (l.length : Int) := by omega
    rw [e] at hb ⊢
    obtain ⟨h3, h4⟩ := Qmc l (k + 1) (Qap k (Z6 d k) s) (b + 9) hrest (by rw [Qcr]; exact hs) h2 hb
    simp only [Xk, h1, List.range'_succ]
    exact ⟨h3, h4⟩
theorem Qmd {d : List Zh} {s : List Int} {b : Int} (hs : s.length = d.length) (h : Low b s) (hb : b + 9 * d.length ≤ 1000000) : Z1 d s = H0 (Z6 d) (List.range d.length) s ∧ Low (b + 9 * d.length) (H0 (Z6 d) (List.range d.length) s) := by
  obtain ⟨h1, h2⟩ := Qmc d 0 s b rfl hs h hb
  have e1 : List.range' 0 d.length = List.range d.length := (List.range_eq_range' ..).symm
  rw [e1] at h1 h2
  refine ⟨?_, h2⟩
  unfold Z1
  rw [h1]
  rfl
theorem Qkg {d : List Zh} (hd : d.length ≤ 5) : ∀ (n k m : Nat), m + n ≤ 1000 → Low (45 * m) (Hb (Z6 d) d.length m) → U5 (Hq d) Qa5 n k (Hb (Z6 d) d.length m) = .brk (Hb (Z6 d) d.length (m + n)) ∧ Low (45 * (m + n)) (Hb (Z6 d) d.length (m + n))
  | 0, k, m, _, h => ⟨rfl, by simpa using h⟩
  | n + 1, k, m, hm, h => by
    obtain ⟨h1, h2⟩ := Qmd (Qe6 (Z6 d) d.length m) h (by omega)
    have e : Hb (Z6 d) d.length (m + 1) = H0 (Z6 d) (List.range d.length) (Hb (Z6 d) d.length m) := rfl
    simp only [U5, Hq, h1]
    rw [← e] at h2 ⊢
    have := Qkg hd n (k + 1) (m + 1) (by omega) (fun j => by have := h2 j; omega)
    rw [show m + (n + 1) = m + 1 + n by omega]
    refine ⟨this.1, fun j => by have := this.2 j; omega⟩
theorem ints_go (b : List Int) : ∀ (l : List Int) (k : Nat), l.length = (b.drop k).length → Out.on (Xk (W8 b) Uz l k ()) (fun _ => true) = decide (l = b.drop k)
  | [], k, h => by
    have : b.drop k = [] := List.eq_nil_of_length_eq_zero (by rw [← h]; rfl)
    rw [this]; rfl
  | a :: l, k, h => by
    have hk : k < b.length := by simp only [List.length_cons, List.length_drop] at h; omega
    have hd : b.drop k = nth b k :: b.drop (k + 1) := by
      rw [List.drop_eq_getElem_cons hk, show nth b k = b[k] by simp [nth, List.getD, hk]]
    rw [hd] at h ⊢
    simp only [Xk, W8]
    by_cases e : a = nth b k
    · rw [show (a != nth b k) = false by simp [e], cond_false, ints_go b l (k + 1) (by simpa using h)]
      simp [e]
    · rw [show (a != nth b k) = true by simp [e], cond_true]
      simp [e, Out.on]
theorem ints_eq (a b : List Int) (h : a.length = b.length) : Z3 a b = decide (a = b) := by
  unfold Z3
  rw [show ((a.length : Int) != (b.length : Int)) = false by simp [h], cond_false, ints_go b a 0 (by simpa using h), List.drop_zero]
theorem Hc (d : List Zh) : Q9 d = Qj d := by
  unfold Q9 Qj
  rw [← Qnj]
  cases hv : Y4 d with
  | false => rfl
  | true =>
    have h5 := Qcs hv
    obtain ⟨hn, _⟩ := dirs5 ((Qnj d).symm.trans hv)
    simp only [Bool.not_true, cond_false]
    have hz : Hb (Z6 d) d.length 0 = List.replicate (Int.toNat (d.length : Int)) (0 : Int) := by rw [Int.toNat_natCast]; rfl
    have hnn : d.length * d.length ≤ 25 := Nat.le_trans (Nat.mul_le_mul h5 h5) (by decide)
    obtain ⟨h1, h2⟩ := Qkg (d := d) h5 (d.length * d.length + 2) 0 0 (by omega) (fun j => by rw [hz, Int.toNat_natCast, Qi2]; omega)
    rw [hz, Nat.zero_add] at h1
    rw [Nat.zero_add] at h2
    rw [hn, show Int.toNat (((d.length * d.length + 1 : Nat) : Int) + 1) = d.length * d.length + 2 by omega, h1]
    simp only [Out.on]
    have hlen := Qe6 (Z6 d) d.length (d.length * d.length + 2)
    obtain ⟨h3, _⟩ := Qmd (d := d) hlen h2 (by omega)
    rw [h3, ints_eq _ _ (by rw [Qf2])]
    have hw := Qdh (d := d) (f := Vb d) (e := Vc) (F := Vd d) (fun _ _ _ => rfl) (fun _ _ => rfl) (fun _ => rfl) (by omega) (d.length * d.length + 3) (List.replicate d.length 0) true (Qah _).1 (Qah _).2
    have hsome : (Qhw (Z6 d) d.length d.length (d.length * d.length + 3) (true, List.replicate d.length 0)).isSome = true := by
      have := Qbv d h5
      rw [Int.toNat_natCast, hw, Option.isSome_map] at this
      exact this
    obtain ⟨r, hr⟩ := Option.isSome_iff_exists.1 hsome
    unfold Qk5
    rw [Int.toNat_natCast, hw, hr]
    obtain ⟨h6, h7⟩ := strata_eq (E := Z6 d) (n := d.length) (fun i e he => Qer d i e he) hr
    by_cases hfix : H0 (Z6 d) (List.range d.length) (Hb (Z6 d) d.length (d.length * d.length + 2)) = Hb (Z6 d) d.length (d.length * d.length + 2)
    · rw [h6 hfix, decide_eq_true hfix]
      rfl
    · rw [h7 hfix, decide_eq_false hfix]
      rfl
open GoE (enc wide)
def Uo (name : ByteArray) (_ : Nat) (a0 : Jr) (_ : Unit) : Rd (Int) (Unit) (Unit) := (bif (a0.1.toList == name.toList) then (.ret a0.2) else (.next ()))
def Up (_ : Nat) (_ : Unit) : Unit := ()
def V5 (s_ : (List Jr)) (name : ByteArray) : Int := (Out.on (Xk (Uo name) Up s_ 0 ()) (fun _ => 0))
theorem Qkh (s_ : (List Jr)) (name : ByteArray) : ACalls Tryz.prog 199 [.h s_, .s name] (.i (V5 s_ name)) := by
 refine Qn (tt := tt) Qb Tryz.func199 (fn := Tryz.f199) rfl (by unfold Z7; kernel_rfl) (Nat.le_of_ble_eq_true rfl) fun w0 F0 => ?_
 refine Qa ?_
 refine rk Qb [(4, .i 0)] [] [] [] [] (o0) ?_
 refine Qa ?_
 refine Qa ?_
 refine rk Qb [(7, .h s_), (8, .i (s_.length : Int)), (9, .i 0)] [0] [] [] [(1, .val (.i (s_.length : Int)))] (o1 (Qf (Xc s_))) ?_
 refine wdT 7 0 .sh s_ (fun hw1 => ?_)
 have hl2 : List.length s_ ≤ 1073741824 := Qp (hw1)
 refine blk (fun (k0 : Nat) (s0 : Unit) => [(9, .i ((k0 : Nat) : Int))]) [9] (fun k0 s0 => []) [] (fun (y0 : Unit) => []) [1, 7, 8, 9] (fun y0 => []) [] (fun (k0 : Nat) (s0 : Unit) => (Xk (Uo name) Up s_ 0 ()) = Xk (Uo name) Up (List.drop k0 s_) k0 s0) (fun (y0 : Unit) => (Xk (Uo name) Up s_ 0 ()) = .brk y0) s_.length () (Qc (by kernel_rfl)) rfl (fun k0 s0 hk0 hI0 => ?_) (fun k0 s0 hk0 hI0 => ?_) (fun y0 hD0 => ?_)
 ·
  obtain ⟨a0, hx0⟩ := X8 (l := s_) (i := k0) hk0
  refine Qa ?_
  refine rk Qb [(10, .b true)] [] [] [] [(0, .val (.b true))] (o1 (Qf (Qg (decide_eq_true (p := ((k0 : Nat) : Int) < (s_.length : Int)) (by omega))))) ?_
  refine Qa ?_
  refine ckT ?_
  refine Qh ?_
  refine Qa ?_
  refine Q4 ?_
  refine Qa ?_
  refine rk Qb [(6, .p 6 0)] [10] [(6, [.s a0.1, .i a0.2])] [] [(0, .row [.s a0.1, .i a0.2])] (o1 (Ql (Xl (i := ((k0 : Nat) : Int)) (by omega) rfl hx0))) ?_
  refine Qa ?_
  refine rk Qb [(16, .b (a0.1.toList == name.toList))] [] [] [] [] (o0) ?_
  refine ck (a0.1.toList == name.toList) (fun h3 => ?_) (fun h3 => ?_)
  ·
   refine Qa ?_
   refine rk Qb [(4, .i a0.2)] [4, 6, 16] [] [6] [] (o0) ?_
   refine Qi ?_
   have hr4 : (Xk (Uo name) Up s_ 0 ()) = .ret a0.2 := Jq hx0 (Yf h3 (rfl)) hI0
   exact Zb [] (congrArg (fun z => (.i z : AV)) (show V5 s_ name = a0.2 from Qgl hr4).symm)
  ·
   refine Qh ?_
   refine rk Qb [(9, .i ((k0 + 1 : Nat) : Int))] [6, 9, 16] [] [6] [(0, .val (.i ((k0 + 1 : Nat) : Int)))] (o1 (Qf (Kw (Qs k0 (by omega))))) ?_
   exact Exists.intro () (And.intro (Qc (by kernel_rfl)) (Qw hx0 (Qv h3 (rfl)) hI0))
 ·
  refine Qa ?_
  refine rk Qb [(10, .b false)] [] [] [] [(0, .val (.b false))] (o1 (Qf (Qg (decide_eq_false (p := ((k0 : Nat) : Int) < (s_.length : Int)) (by omega))))) ?_
  refine Qa ?_
  refine ckF ?_
  refine Xj ?_
  exact Exists.intro () (And.intro (Qc (by kernel_rfl)) (X9 hk0 (rfl) hI0))
 ·
  refine Qa ?_
  refine rk Qb [] [] [] [] [] (o0) ?_
  refine Qi ?_
  exact Zb [] (congrArg (fun z => (.i z : AV)) (show V5 s_ name = 0 from Hk hD0 (rfl)).symm)
def Yv (s_ : (List Jr)) (name : ByteArray) (v : H5) : Bool := ((Za v) && ((v.1 != (0 : Int)) && (v.1 == (V5 s_ name))))
theorem Qct (s_ : (List Jr)) (name : ByteArray) (v : H5) : ACalls Tryz.prog 173 [.h s_, .s name, .a [.i v.1, .i v.2.1, .s v.2.2]] (.b (Yv s_ name v)) := by
 refine Qn (tt := tt) Qb Tryz.func173 (fn := Tryz.f173) rfl (by unfold Z7; kernel_rfl) (Nat.le_of_ble_eq_true rfl) fun w0 F0 => ?_
 refine Qa ?_
 refine rk Qb [(5, .p 5 0), (6, .b false)] [2] [(5, [.i v.1, .i v.2.1, .s v.2.2])] [] [] (o0) ?_
 refine Qa ?_
 refine jn [(6, .b ((Za v) && ((v.1 != (0 : Int)) && (v.1 == (V5 s_ name)))))] [0, 1, 5, 6] [] [5] (Za v) (fun h1 => ?_) (fun h1 => ?_) ?_
 ·
  refine X4 (v.1 != (0 : Int)) (fun h2 => ?_) (fun h2 => ?_)
  ·
   refine rd' Qb Zv [(6, .b (v.1 == (V5 s_ name)))] [0, 1, 5, 6] [] [5] [(1, .val (.b true)), (5, .val (.b true)), (12, .val (.i (V5 s_ name)))] (o2 (Qe (cb h1 (Kl v))) (o2 (Qf (Qg h2)) (o1 (Qe (Qkh s_ name))))) ?_
   exact ⟨rfl, Qc (by rw [h1, h2]; first | done | kernel_rfl)⟩
  ·
   refine rd' Qb Zv [] [0, 1, 5] [] [5] [(1, .val (.b true)), (5, .val (.b false))] (o2 (Qe (cb h1 (Kl v))) (o1 (Qf (Qg h2)))) ?_
   exact ⟨rfl, Qc (by rw [h1, h2]; first | done | kernel_rfl)⟩
 ·
  refine rd' Qb Zv [] [0, 1, 5] [] [5] [(1, .val (.b false))] (o1 (Qe (cb h1 (Kl v)))) ?_
  exact ⟨rfl, Qc (by rw [h1]; first | done | kernel_rfl)⟩
 refine Qi ?_
 exact Zb [] (congrArg (fun z => (.b z : AV)) (show Yv s_ name v = ((Za v) && ((v.1 != (0 : Int)) && (v.1 == (V5 s_ name)))) from rfl).symm)
def Jy (n : Int) : Bool := (Xd n 0 2)
theorem Hd (n : Int) : ACalls Tryz.prog 94 [.i n] (.b (Jy n)) := by
 refine Qn (tt := tt) Qb Tryz.func94 (fn := Tryz.f94) rfl (by unfold Z7; kernel_rfl) (Nat.le_of_ble_eq_true rfl) fun w0 F0 => ?_
 refine Qa ?_
 refine rk Qb [(2, .b false)] [] [] [] [] (o0) ?_
 refine Qa ?_
 refine rk Qb [(2, .b (Xd n 0 2))] [0, 2] [] [] [(1, .val (.b (Xd n 0 2)))] (o1 (Qe (Z0 n 0 2))) ?_
 refine Qi ?_
 exact Zb [] (congrArg (fun z => (.b z : AV)) (show Jy n = (Xd n 0 2) from rfl).symm)
def Jm (s_ : (List Jr)) (k0 : Nat) (a0 : Jr) (_ : Unit) : Rd (Bool) (Unit) (Unit) := (bif ((!(Xs a0.1)) || (bif (a0.2 != (1 : Int)) then ((a0.2 != (2 : Int)) || (decide (((k0 : Nat) : Int) > (0 : Int)) && (!(Op.bytesLess ((nth s_ (Int.toNat (((k0 : Nat) : Int) - 1))).1).toList a0.1.toList)))) else (decide (((k0 : Nat) : Int) > (0 : Int)) && (!(Op.bytesLess ((nth s_ (Int.toNat (((k0 : Nat) : Int) - 1))).1).toList a0.1.toList))))) then (.ret false) else (.next ()))
def Ku (_ : Nat) (_ : Unit) : Unit := ()
def Yw (s_ : (List Jr)) : Bool := (Out.on (Xk (Jm s_) Ku s_ 0 ()) (fun _ => decide ((s_.length : Int) ≤ (5 : Int))))
theorem Ul (s_ : (List Jr)) : ACalls Tryz.prog 133 [.h s_] (.b (Yw s_)) := by
 refine Qn (tt := tt) Qb Tryz.func133 (fn := Tryz.f133) rfl (by unfold Z7; kernel_rfl) (Nat.le_of_ble_eq_true rfl) fun w0 F0 => ?_
 refine Qa ?_
 refine rk Qb [(2, .b false)] [] [] [] [] (o0) ?_
 refine Qa ?_
 refine Qa ?_
 refine rk Qb [(5, .h s_), (6, .i (s_.length : Int)), (7, .i 0)] [] [] [] [(1, .val (.i (s_.length : Int)))] (o1 (Qf (Xc s_))) ?_
 refine wdT 0 0 .sh s_ (fun hw1 => ?_)
 have hl2 : List.length s_ ≤ 1073741824 := Qp (hw1)
 refine blk (fun (k0 : Nat) (s0 : Unit) => [(7, .i ((k0 : Nat) : Int))]) [7] (fun k0 s0 => []) [] (fun (y0 : Unit) => []) [5, 6, 7] (fun y0 => []) [] (fun (k0 : Nat) (s0 : Unit) => (Xk (Jm s_) Ku s_ 0 ()) = Xk (Jm s_) Ku (List.drop k0 s_) k0 s0) (fun (y0 : Unit) => (Xk (Jm s_) Ku s_ 0 ()) = .brk y0) s_.length () (Qc (by kernel_rfl)) rfl (fun k0 s0 hk0 hI0 => ?_) (fun k0 s0 hk0 hI0 => ?_) (fun y0 hD0 => ?_)
 ·
  obtain ⟨a0, hx0⟩ := X8 (l := s_) (i := k0) hk0
  refine Qa ?_
  refine rk Qb [(8, .b true)] [] [] [] [(0, .val (.b true))] (o1 (Qf (Qg (decide_eq_true (p := ((k0 : Nat) : Int) < (s_.length : Int)) (by omega))))) ?_
  refine Qa ?_
  refine ckT ?_
  refine Qh ?_
  refine Qa ?_
  refine Q4 ?_
  refine Qa ?_
  refine rk Qb [(3, .i ((k0 : Nat) : Int)), (4, .p 4 0)] [8] [(4, [.s a0.1, .i a0.2])] [] [(1, .row [.s a0.1, .i a0.2])] (o1 (Ql (Xl (i := ((k0 : Nat) : Int)) (by omega) rfl hx0))) ?_
  refine Qa ?_
  refine jn [(40, .b ((!(Xs a0.1)) || (bif (a0.2 != (1 : Int)) then ((a0.2 != (2 : Int)) || (decide (((k0 : Nat) : Int) > (0 : Int)) && (!(Op.bytesLess ((nth s_ (Int.toNat (((k0 : Nat) : Int) - 1))).1).toList a0.1.toList)))) else (decide (((k0 : Nat) : Int) > (0 : Int)) && (!(Op.bytesLess ((nth s_ (Int.toNat (((k0 : Nat) : Int) - 1))).1).toList a0.1.toList))))))] [3, 4] [] [4] (!(Xs a0.1)) (fun h3 => ?_) (fun h3 => ?_) ?_
  ·
   have h3n : (Xs a0.1) = false := Qa3 h3
   refine rd' Qb Zv [(40, .b true)] [3, 4] [] [4] [(2, .val (.b false)), (3, .val (.b true))] (o2 (Qe (cb h3n (Yo a0.1))) (o1 (Qf (show .b (!false) = .b true from rfl)))) ?_
   exact ⟨rfl, Qc (by rw [h3]; first | done | kernel_rfl)⟩
  ·
   have h3n : (Xs a0.1) = true := Vo h3
   refine X4 (a0.2 != (1 : Int)) (fun h4 => ?_) (fun h4 => ?_)
   ·
    have h4d := Qj3 h4
    refine X4 (a0.2 != (2 : Int)) (fun h5 => ?_) (fun h5 => ?_)
    ·
     refine rd' Qb Zv [(40, .b true)] [3, 4] [] [4] [(2, .val (.b true)), (3, .val (.b false)), (7, .val (.b true)), (11, .val (.b true))] (o2 (Qe (cb h3n (Yo a0.1))) (o2 (Qf (show .b (!true) = .b false from rfl)) (o2 (Qf (Qg h4)) (o1 (Qf (Qg h5)))))) ?_
     exact ⟨rfl, Qc (by rw [h3, h4, h5]; first | done | kernel_rfl)⟩
    ·
     have h5d := H4 h5
     refine X4 (decide (((k0 : Nat) : Int) > (0 : Int))) (fun h6 => ?_) (fun h6 => ?_)
     ·
      have h6d := of_decide_eq_true h6
      have hx7 : s_[(Int.toNat (((k0 : Nat) : Int) - 1))]? = some (nth s_ (Int.toNat (((k0 : Nat) : Int) - 1))) := X3 (by omega)
      refine rd' Qb Zv [(40, .b (!(Op.bytesLess ((nth s_ (Int.toNat (((k0 : Nat) : Int) - 1))).1).toList a0.1.toList)))] [3, 4] [] [4] [(2, .val (.b true)), (3, .val (.b false)), (7, .val (.b true)), (11, .val (.b false)), (16, .val (.b true)), (20, .val (.i (((k0 : Nat) : Int) - 1))), (21, .row [.s ((nth s_ (Int.toNat (((k0 : Nat) : Int) - 1))).1), .i ((nth s_ (Int.toNat (((k0 : Nat) : Int) - 1))).2)])] (o2 (Qe (cb h3n (Yo a0.1))) (o2 (Qf (show .b (!true) = .b false from rfl)) (o2 (Qf (Qg h4)) (o2 (Qf (Qg h5)) (o2 (Qf (Qg h6)) (o2 (Qf (Kw (IntWalk.i64_in (((k0 : Nat) : Int) - 1) (by omega)))) (o1 (Ql (Xl (i := (((k0 : Nat) : Int) - 1)) (by omega) rfl hx7))))))))) ?_
      exact ⟨rfl, Qc (by rw [h3, h4, h5, h6]; first | done | kernel_rfl)⟩
     ·
      refine rd' Qb Zv [(40, .b false)] [3, 4] [] [4] [(2, .val (.b true)), (3, .val (.b false)), (7, .val (.b true)), (11, .val (.b false)), (16, .val (.b false))] (o2 (Qe (cb h3n (Yo a0.1))) (o2 (Qf (show .b (!true) = .b false from rfl)) (o2 (Qf (Qg h4)) (o2 (Qf (Qg h5)) (o1 (Qf (Qg h6))))))) ?_
      exact ⟨rfl, Qc (by rw [h3, h4, h5, h6]; first | done | kernel_rfl)⟩
   ·
    have h4d := H4 h4
    refine X4 (decide (((k0 : Nat) : Int) > (0 : Int))) (fun h8 => ?_) (fun h8 => ?_)
    ·
     have h8d := of_decide_eq_true h8
     have hx9 : s_[(Int.toNat (((k0 : Nat) : Int) - 1))]? = some (nth s_ (Int.toNat (((k0 : Nat) : Int) - 1))) := X3 (by omega)
     refine rd' Qb Zv [(40, .b (!(Op.bytesLess ((nth s_ (Int.toNat (((k0 : Nat) : Int) - 1))).1).toList a0.1.toList)))] [3, 4] [] [4] [(2, .val (.b true)), (3, .val (.b false)), (7, .val (.b false)), (16, .val (.b true)), (20, .val (.i (((k0 : Nat) : Int) - 1))), (21, .row [.s ((nth s_ (Int.toNat (((k0 : Nat) : Int) - 1))).1), .i ((nth s_ (Int.toNat (((k0 : Nat) : Int) - 1))).2)])] (o2 (Qe (cb h3n (Yo a0.1))) (o2 (Qf (show .b (!true) = .b false from rfl)) (o2 (Qf (Qg h4)) (o2 (Qf (Qg h8)) (o2 (Qf (Kw (IntWalk.i64_in (((k0 : Nat) : Int) - 1) (by omega)))) (o1 (Ql (Xl (i := (((k0 : Nat) : Int) - 1)) (by omega) rfl hx9)))))))) ?_
     exact ⟨rfl, Qc (by rw [h3, h4, h8]; first | done | kernel_rfl)⟩
    ·
     refine rd' Qb Zv [(40, .b false)] [3, 4] [] [4] [(2, .val (.b true)), (3, .val (.b false)), (7, .val (.b false)), (16, .val (.b false))] (o2 (Qe (cb h3n (Yo a0.1))) (o2 (Qf (show .b (!true) = .b false from rfl)) (o2 (Qf (Qg h4)) (o1 (Qf (Qg h8)))))) ?_
     exact ⟨rfl, Qc (by rw [h3, h4, h8]; first | done | kernel_rfl)⟩
  refine ck ((!(Xs a0.1)) || (bif (a0.2 != (1 : Int)) then ((a0.2 != (2 : Int)) || (decide (((k0 : Nat) : Int) > (0 : Int)) && (!(Op.bytesLess ((nth s_ (Int.toNat (((k0 : Nat) : Int) - 1))).1).toList a0.1.toList)))) else (decide (((k0 : Nat) : Int) > (0 : Int)) && (!(Op.bytesLess ((nth s_ (Int.toNat (((k0 : Nat) : Int) - 1))).1).toList a0.1.toList))))) (fun h10 => ?_) (fun h10 => ?_)
  ·
   refine Qa ?_
   refine rk Qb [] [40] [] [] [] (o0) ?_
   refine Qi ?_
   have hr11 : (Xk (Jm s_) Ku s_ 0 ()) = .ret false := Jq hx0 (Yf h10 (rfl)) hI0
   exact Zb [] (congrArg (fun z => (.b z : AV)) (show Yw s_ = false from Qgl hr11).symm)
  ·
   refine Qh ?_
   refine rk Qb [(7, .i ((k0 + 1 : Nat) : Int))] [7, 40] [] [] [(0, .val (.i ((k0 + 1 : Nat) : Int)))] (o1 (Qf (Kw (Qs k0 (by omega))))) ?_
   exact Exists.intro () (And.intro (Qc (by kernel_rfl)) (Qw hx0 (Qv h10 (rfl)) hI0))
 ·
  refine Qa ?_
  refine rk Qb [(8, .b false)] [] [] [] [(0, .val (.b false))] (o1 (Qf (Qg (decide_eq_false (p := ((k0 : Nat) : Int) < (s_.length : Int)) (by omega))))) ?_
  refine Qa ?_
  refine ckF ?_
  refine Xj ?_
  exact Exists.intro () (And.intro (Qc (by kernel_rfl)) (X9 hk0 (rfl) hI0))
 ·
  refine Qa ?_
  refine rk Qb [(2, .b (decide ((s_.length : Int) ≤ (5 : Int))))] [0, 2] [] [] [(1, .val (.i (s_.length : Int)))] (o1 (Qf (Xc s_))) ?_
  refine Qi ?_
  exact Zb [] (congrArg (fun z => (.b z : AV)) (show Yw s_ = decide ((s_.length : Int) ≤ (5 : Int)) from Hk hD0 (rfl)).symm)
def Kp (s_ : (List Jr)) (f : Yt) (k0 : Nat) (a0 : Qdd) (_ : Unit) : Rd (Bool) (Unit) (Unit) := (bif (bif decide (((k0 : Nat) : Int) > (0 : Int)) then ((!(Op.bytesLess ((nth f.2.2.2.2 (Int.toNat (((k0 : Nat) : Int) - 1))).1).toList a0.1.toList)) || (!(Yv s_ a0.1 a0.2))) else (!(Yv s_ a0.1 a0.2))) then (.ret false) else (.next ()))
def Vs (_ : Nat) (_ : Unit) : Unit := ()
def Jc (s_ : (List Jr)) (f : Yt) : Bool := (Out.on (Xk (Kp s_ f) Vs f.2.2.2.2 0 ()) (fun _ => ((Xd f.1 1 60) && ((Jy f.2.1) && ((Xd f.2.2.2.1 0 60) && (Yw s_))))))
theorem Hs (s_ : (List Jr)) (f : Yt) : ACalls Tryz.prog 132 [.h s_, .a [.i f.1, .i f.2.1, .b f.2.2.1, .i f.2.2.2.1, .h f.2.2.2.2]] (.b (Jc s_ f)) := by
 refine Qn (tt := tt) Qb Tryz.func132 (fn := Tryz.f132) rfl (by unfold Z7; kernel_rfl) (Nat.le_of_ble_eq_true rfl) fun w0 F0 => ?_
 refine Qa ?_
 refine rk Qb [(3, .p 3 0), (4, .b false)] [1] [(3, [.i f.1, .i f.2.1, .b f.2.2.1, .i f.2.2.2.1, .h f.2.2.2.2])] [] [] (o0) ?_
 refine Qa ?_
 refine Qa ?_
 refine rk Qb [(8, .h f.2.2.2.2), (9, .i (f.2.2.2.2.length : Int)), (10, .i 0)] [] [] [] [(2, .val (.i (f.2.2.2.2.length : Int)))] (o1 (Qf (Xc f.2.2.2.2))) ?_
 refine wdT 8 0 .sh f.2.2.2.2 (fun hw1 => ?_)
 have hl2 : List.length f.2.2.2.2 ≤ 1073741824 := Qp (hw1)
 refine blk (fun (k0 : Nat) (s0 : Unit) => [(10, .i ((k0 : Nat) : Int))]) [10] (fun k0 s0 => []) [] (fun (y0 : Unit) => []) [8, 9, 10] (fun y0 => []) [] (fun (k0 : Nat) (s0 : Unit) => (Xk (Kp s_ f) Vs f.2.2.2.2 0 ()) = Xk (Kp s_ f) Vs (List.drop k0 f.2.2.2.2) k0 s0) (fun (y0 : Unit) => (Xk (Kp s_ f) Vs f.2.2.2.2 0 ()) = .brk y0) f.2.2.2.2.length () (Qc (by kernel_rfl)) rfl (fun k0 s0 hk0 hI0 => ?_) (fun k0 s0 hk0 hI0 => ?_) (fun y0 hD0 => ?_)
 ·
  obtain ⟨a0, hx0⟩ := X8 (l := f.2.2.2.2) (i := k0) hk0
  refine Qa ?_
  refine rk Qb [(11, .b true)] [] [] [] [(0, .val (.b true))] (o1 (Qf (Qg (decide_eq_true (p := ((k0 : Nat) : Int) < (f.2.2.2.2.length : Int)) (by omega))))) ?_
  refine Qa ?_
  refine ckT ?_
  refine Qh ?_
  refine Qa ?_
  refine Q4 ?_
  refine Qa ?_
  refine rk Qb [(5, .i ((k0 : Nat) : Int)), (6, .p 6 0)] [11] [(6, [.s a0.1, .i a0.2.1, .i a0.2.2.1, .s a0.2.2.2])] [] [(1, .row [.s a0.1, .i a0.2.1, .i a0.2.2.1, .s a0.2.2.2])] (o1 (Ql (Xl (i := ((k0 : Nat) : Int)) (by omega) rfl hx0))) ?_
  refine Qa ?_
  refine jn [(37, .b (bif decide (((k0 : Nat) : Int) > (0 : Int)) then ((!(Op.bytesLess ((nth f.2.2.2.2 (Int.toNat (((k0 : Nat) : Int) - 1))).1).toList a0.1.toList)) || (!(Yv s_ a0.1 a0.2))) else (!(Yv s_ a0.1 a0.2))))] [5, 6] [] [6] (decide (((k0 : Nat) : Int) > (0 : Int))) (fun h3 => ?_) (fun h3 => ?_) ?_
  ·
   have h3d := of_decide_eq_true h3
   refine X4 (!(Op.bytesLess ((nth f.2.2.2.2 (Int.toNat (((k0 : Nat) : Int) - 1))).1).toList a0.1.toList)) (fun h4 => ?_) (fun h4 => ?_)
   ·
    have hx5 : f.2.2.2.2[(Int.toNat (((k0 : Nat) : Int) - 1))]? = some (nth f.2.2.2.2 (Int.toNat (((k0 : Nat) : Int) - 1))) := X3 (by omega)
    refine rd' Qb Zv [(37, .b true)] [5, 6] [] [6] [(1, .val (.b true)), (6, .val (.i (((k0 : Nat) : Int) - 1))), (7, .row [.s ((nth f.2.2.2.2 (Int.toNat (((k0 : Nat) : Int) - 1))).1), .i ((nth f.2.2.2.2 (Int.toNat (((k0 : Nat) : Int) - 1))).2.1), .i ((nth f.2.2.2.2 (Int.toNat (((k0 : Nat) : Int) - 1))).2.2.1), .s ((nth f.2.2.2.2 (Int.toNat (((k0 : Nat) : Int) - 1))).2.2.2)]), (12, .val (.b true))] (o2 (Qf (Qg h3)) (o2 (Qf (Kw (IntWalk.i64_in (((k0 : Nat) : Int) - 1) (by omega)))) (o2 (Ql (Xl (i := (((k0 : Nat) : Int) - 1)) (by omega) rfl hx5)) (o1 (Qf (Qg h4)))))) ?_
    exact ⟨rfl, Qc (by rw [h3, h4]; first | done | kernel_rfl)⟩
   ·
    have hx6 : f.2.2.2.2[(Int.toNat (((k0 : Nat) : Int) - 1))]? = some (nth f.2.2.2.2 (Int.toNat (((k0 : Nat) : Int) - 1))) := X3 (by omega)
    refine rd' Qb Zv [(37, .b (!(Yv s_ a0.1 a0.2)))] [5, 6] [] [6] [(1, .val (.b true)), (6, .val (.i (((k0 : Nat) : Int) - 1))), (7, .row [.s ((nth f.2.2.2.2 (Int.toNat (((k0 : Nat) : Int) - 1))).1), .i ((nth f.2.2.2.2 (Int.toNat (((k0 : Nat) : Int) - 1))).2.1), .i ((nth f.2.2.2.2 (Int.toNat (((k0 : Nat) : Int) - 1))).2.2.1), .s ((nth f.2.2.2.2 (Int.toNat (((k0 : Nat) : Int) - 1))).2.2.2)]), (12, .val (.b false)), (20, .val (.b (Yv s_ a0.1 a0.2)))] (o2 (Qf (Qg h3)) (o2 (Qf (Kw (IntWalk.i64_in (((k0 : Nat) : Int) - 1) (by omega)))) (o2 (Ql (Xl (i := (((k0 : Nat) : Int) - 1)) (by omega) rfl hx6)) (o2 (Qf (Qg h4)) (o1 (Qe (Qct s_ a0.1 a0.2))))))) ?_
    exact ⟨rfl, Qc (by rw [h3, h4]; first | done | kernel_rfl)⟩
  ·
   refine rd' Qb Zv [(37, .b (!(Yv s_ a0.1 a0.2)))] [5, 6] [] [6] [(1, .val (.b false)), (20, .val (.b (Yv s_ a0.1 a0.2)))] (o2 (Qf (Qg h3)) (o1 (Qe (Qct s_ a0.1 a0.2)))) ?_
   exact ⟨rfl, Qc (by rw [h3]; first | done | kernel_rfl)⟩
  refine ck (bif decide (((k0 : Nat) : Int) > (0 : Int)) then ((!(Op.bytesLess ((nth f.2.2.2.2 (Int.toNat (((k0 : Nat) : Int) - 1))).1).toList a0.1.toList)) || (!(Yv s_ a0.1 a0.2))) else (!(Yv s_ a0.1 a0.2))) (fun h7 => ?_) (fun h7 => ?_)
  ·
   refine Qa ?_
   refine rk Qb [] [37] [] [] [] (o0) ?_
   refine Qi ?_
   have hr8 : (Xk (Kp s_ f) Vs f.2.2.2.2 0 ()) = .ret false := Jq hx0 (Yf h7 (rfl)) hI0
   exact Zb [] (congrArg (fun z => (.b z : AV)) (show Jc s_ f = false from Qgl hr8).symm)
  ·
   refine Qh ?_
   refine rk Qb [(10, .i ((k0 + 1 : Nat) : Int))] [10, 37] [] [] [(0, .val (.i ((k0 + 1 : Nat) : Int)))] (o1 (Qf (Kw (Qs k0 (by omega))))) ?_
   exact Exists.intro () (And.intro (Qc (by kernel_rfl)) (Qw hx0 (Qv h7 (rfl)) hI0))
 ·
  refine Qa ?_
  refine rk Qb [(11, .b false)] [] [] [] [(0, .val (.b false))] (o1 (Qf (Qg (decide_eq_false (p := ((k0 : Nat) : Int) < (f.2.2.2.2.length : Int)) (by omega))))) ?_
  refine Qa ?_
  refine ckF ?_
  refine Xj ?_
  exact Exists.intro () (And.intro (Qc (by kernel_rfl)) (X9 hk0 (rfl) hI0))
 ·
  refine Qa ?_
  refine jn [(4, .b ((Xd f.1 1 60) && ((Jy f.2.1) && ((Xd f.2.2.2.1 0 60) && (Yw s_)))))] [0, 3, 4] [] [3] (Xd f.1 1 60) (fun h9 => ?_) (fun h9 => ?_) ?_
  ·
   have h9w := Qhv.1 h9
   refine X4 (Jy f.2.1) (fun h10 => ?_) (fun h10 => ?_)
   ·
    refine X4 (Xd f.2.2.2.1 0 60) (fun h11 => ?_) (fun h11 => ?_)
    ·
     have h11w := Qhv.1 h11
     refine rk Qb [(4, .b (Yw s_))] [0, 3, 4] [] [3] [(2, .val (.b true)), (6, .val (.b true)), (11, .val (.b true)), (15, .val (.b (Yw s_)))] (o2 (Qe (cb h9 (Z0 f.1 1 60))) (o2 (Qe (cb h10 (Hd f.2.1))) (o2 (Qe (cb h11 (Z0 f.2.2.2.1 0 60))) (o1 (Qe (Ul s_)))))) ?_
     exact ⟨rfl, Qc (by rw [h9, h10, h11]; first | done | kernel_rfl)⟩
    ·
     refine rk Qb [] [0, 3] [] [3] [(2, .val (.b true)), (6, .val (.b true)), (11, .val (.b false))] (o2 (Qe (cb h9 (Z0 f.1 1 60))) (o2 (Qe (cb h10 (Hd f.2.1))) (o1 (Qe (cb h11 (Z0 f.2.2.2.1 0 60)))))) ?_
     exact ⟨rfl, Qc (by rw [h9, h10, h11]; first | done | kernel_rfl)⟩
   ·
    refine rk Qb [] [0, 3] [] [3] [(2, .val (.b true)), (6, .val (.b false))] (o2 (Qe (cb h9 (Z0 f.1 1 60))) (o1 (Qe (cb h10 (Hd f.2.1))))) ?_
    exact ⟨rfl, Qc (by rw [h9, h10]; first | done | kernel_rfl)⟩
  ·
   refine rk Qb [] [0, 3] [] [3] [(2, .val (.b false))] (o1 (Qe (cb h9 (Z0 f.1 1 60)))) ?_
   exact ⟨rfl, Qc (by rw [h9]; first | done | kernel_rfl)⟩
  refine Qi ?_
  exact Zb [] (congrArg (fun z => (.b z : AV)) (show Jc s_ f = ((Xd f.1 1 60) && ((Jy f.2.1) && ((Xd f.2.2.2.1 0 60) && (Yw s_)))) from Hk hD0 (rfl)).symm)
def Zm (s_ : X7) (k0 : Nat) (a0 : Yt) (_ : Unit) : Rd (Bool) (Unit) (Unit) := (bif ((!(Jc s_.1 a0)) || (decide (a0.1 ≥ s_.2.2) || (decide (((k0 : Nat) : Int) > (0 : Int)) && decide ((nth s_.2.1 (Int.toNat (((k0 : Nat) : Int) - 1))).1 ≥ a0.1)))) then (.ret false) else (.next ()))
def Jd (_ : Nat) (_ : Unit) : Unit := ()
def Xm (s_ : X7) : Bool := (Out.on (Xk (Zm s_) Jd s_.2.1 0 ()) (fun _ => ((Yw s_.1) && (decide ((s_.2.1.length : Int) ≤ (12 : Int)) && (Xd s_.2.2 1 61)))))
theorem Qa6 (s_ : X7) : ACalls Tryz.prog 93 [.a [.h s_.1, .h s_.2.1, .i s_.2.2]] (.b (Xm s_)) := by
 refine Qn (tt := tt) Qb Tryz.func93 (fn := Tryz.f93) rfl (by unfold Z7; kernel_rfl) (Nat.le_of_ble_eq_true rfl) fun w0 F0 => ?_
 refine Qa ?_
 refine rk Qb [(1, .p 1 0), (2, .b false)] [0] [(1, [.h s_.1, .h s_.2.1, .i s_.2.2])] [] [] (o0) ?_
 refine Qa ?_
 refine Qa ?_
 refine rk Qb [(6, .h s_.2.1), (7, .i (s_.2.1.length : Int)), (8, .i 0)] [] [] [] [(2, .val (.i (s_.2.1.length : Int)))] (o1 (Qf (Xc s_.2.1))) ?_
 refine wdT 6 0 .sh s_.2.1 (fun hw1 => ?_)
 have hl2 : List.length s_.2.1 ≤ 1073741824 := Qp (hw1)
 refine blk (fun (k0 : Nat) (s0 : Unit) => [(8, .i ((k0 : Nat) : Int))]) [8] (fun k0 s0 => []) [] (fun (y0 : Unit) => []) [6, 7, 8] (fun y0 => []) [] (fun (k0 : Nat) (s0 : Unit) => (Xk (Zm s_) Jd s_.2.1 0 ()) = Xk (Zm s_) Jd (List.drop k0 s_.2.1) k0 s0) (fun (y0 : Unit) => (Xk (Zm s_) Jd s_.2.1 0 ()) = .brk y0) s_.2.1.length () (Qc (by kernel_rfl)) rfl (fun k0 s0 hk0 hI0 => ?_) (fun k0 s0 hk0 hI0 => ?_) (fun y0 hD0 => ?_)
 ·
  obtain ⟨a0, hx0⟩ := X8 (l := s_.2.1) (i := k0) hk0
  refine Qa ?_
  refine rk Qb [(9, .b true)] [] [] [] [(0, .val (.b true))] (o1 (Qf (Qg (decide_eq_true (p := ((k0 : Nat) : Int) < (s_.2.1.length : Int)) (by omega))))) ?_
  refine Qa ?_
  refine ckT ?_
  refine Qh ?_
  refine Qa ?_
  refine Q4 ?_
  refine Qa ?_
  refine rk Qb [(3, .i ((k0 : Nat) : Int)), (4, .p 4 0)] [9] [(4, [.i a0.1, .i a0.2.1, .b a0.2.2.1, .i a0.2.2.2.1, .h a0.2.2.2.2])] [] [(1, .row [.i a0.1, .i a0.2.1, .b a0.2.2.1, .i a0.2.2.2.1, .h a0.2.2.2.2])] (o1 (Ql (Xl (i := ((k0 : Nat) : Int)) (by omega) rfl hx0))) ?_
  refine Qa ?_
  refine jn [(40, .b ((!(Jc s_.1 a0)) || (decide (a0.1 ≥ s_.2.2) || (decide (((k0 : Nat) : Int) > (0 : Int)) && decide ((nth s_.2.1 (Int.toNat (((k0 : Nat) : Int) - 1))).1 ≥ a0.1)))))] [3, 4] [] [4] (!(Jc s_.1 a0)) (fun h3 => ?_) (fun h3 => ?_) ?_
  ·
   have h3n : (Jc s_.1 a0) = false := Qa3 h3
   refine rd' Qb Zv [(40, .b true)] [3, 4] [] [4] [(3, .val (.b false)), (4, .val (.b true))] (o2 (Qe (cb h3n (Hs s_.1 a0))) (o1 (Qf (show .b (!false) = .b true from rfl)))) ?_
   exact ⟨rfl, Qc (by rw [h3]; first | done | kernel_rfl)⟩
  ·
   have h3n : (Jc s_.1 a0) = true := Vo h3
   refine X4 (decide (a0.1 ≥ s_.2.2)) (fun h4 => ?_) (fun h4 => ?_)
   ·
    refine rd' Qb Zv [(40, .b true)] [3, 4] [] [4] [(3, .val (.b true)), (4, .val (.b false)), (10, .val (.b true))] (o2 (Qe (cb h3n (Hs s_.1 a0))) (o2 (Qf (show .b (!true) = .b false from rfl)) (o1 (Qf (Qg h4))))) ?_
    exact ⟨rfl, Qc (by rw [h3, h4]; first | done | kernel_rfl)⟩
   ·
    have h4d := of_decide_eq_false h4
    refine X4 (decide (((k0 : Nat) : Int) > (0 : Int))) (fun h5 => ?_) (fun h5 => ?_)
    ·
     have h5d := of_decide_eq_true h5
     have hx6 : s_.2.1[(Int.toNat (((k0 : Nat) : Int) - 1))]? = some (nth s_.2.1 (Int.toNat (((k0 : Nat) : Int) - 1))) := X3 (by omega)
     refine rd' Qb Zv [(40, .b (decide ((nth s_.2.1 (Int.toNat (((k0 : Nat) : Int) - 1))).1 ≥ a0.1)))] [3, 4] [] [4] [(3, .val (.b true)), (4, .val (.b false)), (10, .val (.b false)), (14, .val (.b true)), (19, .val (.i (((k0 : Nat) : Int) - 1))), (20, .row [.i ((nth s_.2.1 (Int.toNat (((k0 : Nat) : Int) - 1))).1), .i ((nth s_.2.1 (Int.toNat (((k0 : Nat) : Int) - 1))).2.1), .b ((nth s_.2.1 (Int.toNat (((k0 : Nat) : Int) - 1))).2.2.1), .i ((nth s_.2.1 (Int.toNat (((k0 : Nat) : Int) - 1))).2.2.2.1), .h ((nth s_.2.1 (Int.toNat (((k0 : Nat) : Int) - 1))).2.2.2.2)])] (o2 (Qe (cb h3n (Hs s_.1 a0))) (o2 (Qf (show .b (!true) = .b false from rfl)) (o2 (Qf (Qg h4)) (o2 (Qf (Qg h5)) (o2 (Qf (Kw (IntWalk.i64_in (((k0 : Nat) : Int) - 1) (by omega)))) (o1 (Ql (Xl (i := (((k0 : Nat) : Int) - 1)) (by omega) rfl hx6)))))))) ?_
     exact ⟨rfl, Qc (by rw [h3, h4, h5]; first | done | kernel_rfl)⟩
    ·
     refine rd' Qb Zv [(40, .b false)] [3, 4] [] [4] [(3, .val (.b true)), (4, .val (.b false)), (10, .val (.b false)), (14, .val (.b false))] (o2 (Qe (cb h3n (Hs s_.1 a0))) (o2 (Qf (show .b (!true) = .b false from rfl)) (o2 (Qf (Qg h4)) (o1 (Qf (Qg h5)))))) ?_
     exact ⟨rfl, Qc (by rw [h3, h4, h5]; first | done | kernel_rfl)⟩
  refine ck ((!(Jc s_.1 a0)) || (decide (a0.1 ≥ s_.2.2) || (decide (((k0 : Nat) : Int) > (0 : Int)) && decide ((nth s_.2.1 (Int.toNat (((k0 : Nat) : Int) - 1))).1 ≥ a0.1)))) (fun h7 => ?_) (fun h7 => ?_)
  ·
   refine Qa ?_
   refine rk Qb [] [40] [] [] [] (o0) ?_
   refine Qi ?_
   have hr8 : (Xk (Zm s_) Jd s_.2.1 0 ()) = .ret false := Jq hx0 (Yf h7 (rfl)) hI0
   exact Zb [] (congrArg (fun z => (.b z : AV)) (show Xm s_ = false from Qgl hr8).symm)
  ·
   have h7r : ((decide (a0.1 ≥ s_.2.2) || (decide (((k0 : Nat) : Int) > (0 : Int)) && decide ((nth s_.2.1 (Int.toNat (((k0 : Nat) : Int) - 1))).1 ≥ a0.1)))) = false := Qul h7
   have h7rl : (decide (a0.1 ≥ s_.2.2)) = false := Qra h7r
   have h7rld := of_decide_eq_false h7rl
   refine Qh ?_
   refine rk Qb [(8, .i ((k0 + 1 : Nat) : Int))] [8, 40] [] [] [(0, .val (.i ((k0 + 1 : Nat) : Int)))] (o1 (Qf (Kw (Qs k0 (by omega))))) ?_
   exact Exists.intro () (And.intro (Qc (by kernel_rfl)) (Qw hx0 (Qv h7 (rfl)) hI0))
 ·
  refine Qa ?_
  refine rk Qb [(9, .b false)] [] [] [] [(0, .val (.b false))] (o1 (Qf (Qg (decide_eq_false (p := ((k0 : Nat) : Int) < (s_.2.1.length : Int)) (by omega))))) ?_
  refine Qa ?_
  refine ckF ?_
  refine Xj ?_
  exact Exists.intro () (And.intro (Qc (by kernel_rfl)) (X9 hk0 (rfl) hI0))
 ·
  refine Qa ?_
  refine jn [(2, .b ((Yw s_.1) && (decide ((s_.2.1.length : Int) ≤ (12 : Int)) && (Xd s_.2.2 1 61))))] [1, 2] [] [1] (Yw s_.1) (fun h9 => ?_) (fun h9 => ?_) ?_
  ·
   refine X4 (decide ((s_.2.1.length : Int) ≤ (12 : Int))) (fun h10 => ?_) (fun h10 => ?_)
   ·
    refine rk Qb [(2, .b (Xd s_.2.2 1 61))] [1, 2] [] [1] [(2, .val (.b true)), (6, .val (.i (s_.2.1.length : Int))), (7, .val (.b true)), (12, .val (.b (Xd s_.2.2 1 61)))] (o2 (Qe (cb h9 (Ul s_.1))) (o2 (Qf (Xc s_.2.1)) (o2 (Qf (Qg h10)) (o1 (Qe (Z0 s_.2.2 1 61)))))) ?_
    exact ⟨rfl, Qc (by rw [h9, h10]; first | done | kernel_rfl)⟩
   ·
    refine rk Qb [] [1] [] [1] [(2, .val (.b true)), (6, .val (.i (s_.2.1.length : Int))), (7, .val (.b false))] (o2 (Qe (cb h9 (Ul s_.1))) (o2 (Qf (Xc s_.2.1)) (o1 (Qf (Qg h10))))) ?_
    exact ⟨rfl, Qc (by rw [h9, h10]; first | done | kernel_rfl)⟩
  ·
   refine rk Qb [] [1] [] [1] [(2, .val (.b false))] (o1 (Qe (cb h9 (Ul s_.1)))) ?_
   exact ⟨rfl, Qc (by rw [h9]; first | done | kernel_rfl)⟩
  refine Qi ?_
  exact Zb [] (congrArg (fun z => (.b z : AV)) (show Xm s_ = ((Yw s_.1) && (decide ((s_.2.1.length : Int) ≤ (12 : Int)) && (Xd s_.2.2 1 61))) from Hk hD0 (rfl)).symm)
def Uq (name : ByteArray) (_ : Nat) (a0 : Jr) (_ : Unit) : Rd (Int) (Unit) (Unit) := (bif (a0.1.toList == name.toList) then (.ret a0.2) else (.next ()))
def Ur (_ : Nat) (_ : Unit) : Unit := ()
def V6 (s_ : (List Jr)) (name : ByteArray) : Int := (Out.on (Xk (Uq name) Ur s_ 0 ()) (fun _ => 0))
theorem Qki (s_ : (List Jr)) (name : ByteArray) : ACalls Tryz.prog 193 [.h s_, .s name] (.i (V6 s_ name)) := by
 refine Qn (tt := tt) Qb Tryz.func193 (fn := Tryz.f193) rfl (by unfold Z7; kernel_rfl) (Nat.le_of_ble_eq_true rfl) fun w0 F0 => ?_
 refine Qa ?_
 refine rk Qb [(4, .i 0)] [] [] [] [] (o0) ?_
 refine Qa ?_
 refine Qa ?_
 refine rk Qb [(5, .i 0)] [] [] [] [] (o0) ?_
 refine wdT 0 0 .sh s_ (fun hw1 => ?_)
 have hl2 : List.length s_ ≤ 1073741824 := Qp (hw1)
 refine blk (fun (k0 : Nat) (s0 : Unit) => [(5, .i ((k0 : Nat) : Int))]) [5] (fun k0 s0 => []) [] (fun (y0 : Unit) => []) [0, 1, 5] (fun y0 => []) [] (fun (k0 : Nat) (s0 : Unit) => (Xk (Uq name) Ur s_ 0 ()) = Xk (Uq name) Ur (List.drop k0 s_) k0 s0) (fun (y0 : Unit) => (Xk (Uq name) Ur s_ 0 ()) = .brk y0) s_.length () (Qc (by kernel_rfl)) rfl (fun k0 s0 hk0 hI0 => ?_) (fun k0 s0 hk0 hI0 => ?_) (fun y0 hD0 => ?_)
 ·
  obtain ⟨a0, hx0⟩ := X8 (l := s_) (i := k0) hk0
  refine Qa ?_
  refine Qa ?_
  refine rk Qb [(9, .b true)] [] [] [] [(2, .val (.i (s_.length : Int))), (3, .val (.b true))] (o2 (Qf (Xc s_)) (o1 (Qf (Qg (decide_eq_true (p := ((k0 : Nat) : Int) < (s_.length : Int)) (by omega)))))) ?_
  refine ckT ?_
  refine Qh ?_
  refine Qa ?_
  refine Q4 ?_
  refine Qa ?_
  refine rk Qb [(18, .b (a0.1.toList == name.toList))] [9] [] [] [(2, .row [.s a0.1, .i a0.2])] (o1 (Ql (Xl (i := ((k0 : Nat) : Int)) (by omega) rfl hx0))) ?_
  refine ck (a0.1.toList == name.toList) (fun h3 => ?_) (fun h3 => ?_)
  ·
   refine Qa ?_
   refine rk Qb [(4, .i a0.2)] [4, 18] [] [] [(2, .row [.s a0.1, .i a0.2])] (o1 (Ql (Xl (i := ((k0 : Nat) : Int)) (by omega) rfl hx0))) ?_
   refine Qi ?_
   have hr4 : (Xk (Uq name) Ur s_ 0 ()) = .ret a0.2 := Jq hx0 (Yf h3 (rfl)) hI0
   exact Zb [] (congrArg (fun z => (.i z : AV)) (show V6 s_ name = a0.2 from Qgl hr4).symm)
  ·
   refine Qh ?_
   refine rk Qb [(5, .i ((k0 + 1 : Nat) : Int))] [5, 18] [] [] [(1, .val (.i ((k0 + 1 : Nat) : Int)))] (o1 (Qf (Kw (Qs k0 (by omega))))) ?_
   exact Exists.intro () (And.intro (Qc (by kernel_rfl)) (Qw hx0 (Qv h3 (rfl)) hI0))
 ·
  refine Qa ?_
  refine Qa ?_
  refine rk Qb [(9, .b false)] [] [] [] [(2, .val (.i (s_.length : Int))), (3, .val (.b false))] (o2 (Qf (Xc s_)) (o1 (Qf (Qg (decide_eq_false (p := ((k0 : Nat) : Int) < (s_.length : Int)) (by omega)))))) ?_
  refine ckF ?_
  refine Xj ?_
  exact Exists.intro () (And.intro (Qc (by kernel_rfl)) (X9 hk0 (rfl) hI0))
 ·
  refine Qa ?_
  refine rk Qb [] [] [] [] [] (o0) ?_
  refine Qi ?_
  exact Zb [] (congrArg (fun z => (.i z : AV)) (show V6 s_ name = 0 from Hk hD0 (rfl)).symm)
def Zy (s_ : (List Jr)) (name : ByteArray) (v : H5) : Bool := ((Yi v) && ((v.1 != (0 : Int)) && (v.1 == (V6 s_ name))))
theorem Qaq (s_ : (List Jr)) (name : ByteArray) (v : H5) : ACalls Tryz.prog 166 [.h s_, .s name, .a [.i v.1, .i v.2.1, .s v.2.2]] (.b (Zy s_ name v)) := by
 refine Qn (tt := tt) Qb Tryz.func166 (fn := Tryz.f166) rfl (by unfold Z7; kernel_rfl) (Nat.le_of_ble_eq_true rfl) fun w0 F0 => ?_
 refine Qa ?_
 refine rk Qb [(5, .p 5 0), (6, .b false)] [2] [(5, [.i v.1, .i v.2.1, .s v.2.2])] [] [] (o0) ?_
 refine Qa ?_
 refine jn [(6, .b ((Yi v) && ((v.1 != (0 : Int)) && (v.1 == (V6 s_ name)))))] [0, 1, 5, 6] [] [5] (Yi v) (fun h1 => ?_) (fun h1 => ?_) ?_
 ·
  refine X4 (v.1 != (0 : Int)) (fun h2 => ?_) (fun h2 => ?_)
  ·
   refine rd' Qb Zv [(6, .b (v.1 == (V6 s_ name)))] [0, 1, 5, 6] [] [5] [(1, .val (.b true)), (5, .val (.b true)), (12, .val (.i (V6 s_ name)))] (o2 (Qe (cb h1 (Zj v))) (o2 (Qf (Qg h2)) (o1 (Qe (Qki s_ name))))) ?_
   exact ⟨rfl, Qc (by rw [h1, h2]; first | done | kernel_rfl)⟩
  ·
   refine rd' Qb Zv [] [0, 1, 5] [] [5] [(1, .val (.b true)), (5, .val (.b false))] (o2 (Qe (cb h1 (Zj v))) (o1 (Qf (Qg h2)))) ?_
   exact ⟨rfl, Qc (by rw [h1, h2]; first | done | kernel_rfl)⟩
 ·
  refine rd' Qb Zv [] [0, 1, 5] [] [5] [(1, .val (.b false))] (o1 (Qe (cb h1 (Zj v)))) ?_
  exact ⟨rfl, Qc (by rw [h1]; first | done | kernel_rfl)⟩
 refine Qi ?_
 exact Zb [] (congrArg (fun z => (.b z : AV)) (show Zy s_ name v = ((Yi v) && ((v.1 != (0 : Int)) && (v.1 == (V6 s_ name)))) from rfl).symm)
def Jn (s_ : (List Jr)) (k0 : Nat) (a0 : Jr) (_ : Unit) : Rd (Bool) (Unit) (Unit) := (bif ((!(Xf a0.1)) || ((!(Qt a0.2 1 2)) || (decide (((k0 : Nat) : Int) > (0 : Int)) && (!(Op.bytesLess ((nth s_ (Int.toNat (((k0 : Nat) : Int) - 1))).1).toList a0.1.toList))))) then (.ret false) else (.next ()))
def Kv (_ : Nat) (_ : Unit) : Unit := ()
def Y9 (s_ : (List Jr)) : Bool := (Out.on (Xk (Jn s_) Kv s_ 0 ()) (fun _ => decide ((s_.length : Int) ≤ (5 : Int))))
theorem J9 (s_ : (List Jr)) : ACalls Tryz.prog 125 [.h s_] (.b (Y9 s_)) := by
 refine Qn (tt := tt) Qb Tryz.func125 (fn := Tryz.f125) rfl (by unfold Z7; kernel_rfl) (Nat.le_of_ble_eq_true rfl) fun w0 F0 => ?_
 refine Qa ?_
 refine rk Qb [(2, .b false)] [] [] [] [] (o0) ?_
 refine Qa ?_
 refine Qa ?_
 refine rk Qb [(3, .i 0)] [] [] [] [] (o0) ?_
 refine wdT 0 0 .sh s_ (fun hw1 => ?_)
 have hl2 : List.length s_ ≤ 1073741824 := Qp (hw1)
 refine blk (fun (k0 : Nat) (s0 : Unit) => [(3, .i ((k0 : Nat) : Int))]) [3] (fun k0 s0 => []) [] (fun (y0 : Unit) => []) [3] (fun y0 => []) [] (fun (k0 : Nat) (s0 : Unit) => (Xk (Jn s_) Kv s_ 0 ()) = Xk (Jn s_) Kv (List.drop k0 s_) k0 s0) (fun (y0 : Unit) => (Xk (Jn s_) Kv s_ 0 ()) = .brk y0) s_.length () (Qc (by kernel_rfl)) rfl (fun k0 s0 hk0 hI0 => ?_) (fun k0 s0 hk0 hI0 => ?_) (fun y0 hD0 => ?_)
 ·
  obtain ⟨a0, hx0⟩ := X8 (l := s_) (i := k0) hk0
  refine Qa ?_
  refine Qa ?_
  refine rk Qb [(7, .b true)] [] [] [] [(2, .val (.i (s_.length : Int))), (3, .val (.b true))] (o2 (Qf (Xc s_)) (o1 (Qf (Qg (decide_eq_true (p := ((k0 : Nat) : Int) < (s_.length : Int)) (by omega)))))) ?_
  refine ckT ?_
  refine Qh ?_
  refine Qa ?_
  refine Q4 ?_
  refine Qa ?_
  refine jn [(43, .b ((!(Xf a0.1)) || ((!(Qt a0.2 1 2)) || (decide (((k0 : Nat) : Int) > (0 : Int)) && (!(Op.bytesLess ((nth s_ (Int.toNat (((k0 : Nat) : Int) - 1))).1).toList a0.1.toList))))))] [7] [] [] (!(Xf a0.1)) (fun h3 => ?_) (fun h3 => ?_) ?_
  ·
   have h3n : (Xf a0.1) = false := Qa3 h3
   refine rd' Qb Zv [(43, .b true)] [7] [] [] [(2, .row [.s a0.1, .i a0.2]), (5, .val (.b false)), (6, .val (.b true))] (o2 (Ql (Xl (i := ((k0 : Nat) : Int)) (by omega) rfl hx0)) (o2 (Qe (cb h3n (Xv a0.1))) (o1 (Qf (show .b (!false) = .b true from rfl))))) ?_
   exact ⟨rfl, Qc (by rw [h3]; first | done | kernel_rfl)⟩
  ·
   have h3n : (Xf a0.1) = true := Vo h3
   refine X4 (!(Qt a0.2 1 2)) (fun h4 => ?_) (fun h4 => ?_)
   ·
    have h4n : (Qt a0.2 1 2) = false := Qa3 h4
    refine rd' Qb Zv [(43, .b true)] [7] [] [] [(2, .row [.s a0.1, .i a0.2]), (5, .val (.b true)), (6, .val (.b false)), (10, .row [.s a0.1, .i a0.2]), (13, .val (.b false)), (14, .val (.b true))] (o2 (Ql (Xl (i := ((k0 : Nat) : Int)) (by omega) rfl hx0)) (o2 (Qe (cb h3n (Xv a0.1))) (o2 (Qf (show .b (!true) = .b false from rfl)) (o2 (Ql (Xl (i := ((k0 : Nat) : Int)) (by omega) rfl hx0)) (o2 (Qe (cb h4n (Y5 a0.2 1 2))) (o1 (Qf (show .b (!false) = .b true from rfl)))))))) ?_
    exact ⟨rfl, Qc (by rw [h3, h4]; first | done | kernel_rfl)⟩
   ·
    have h4n : (Qt a0.2 1 2) = true := Vo h4
    have h4nw := Qcp.1 h4n
    refine X4 (decide (((k0 : Nat) : Int) > (0 : Int))) (fun h5 => ?_) (fun h5 => ?_)
    ·
     have h5d := of_decide_eq_true h5
     have hx6 : s_[(Int.toNat (((k0 : Nat) : Int) - 1))]? = some (nth s_ (Int.toNat (((k0 : Nat) : Int) - 1))) := X3 (by omega)
     refine rd' Qb Zv [(43, .b (!(Op.bytesLess ((nth s_ (Int.toNat (((k0 : Nat) : Int) - 1))).1).toList a0.1.toList)))] [7] [] [] [(2, .row [.s a0.1, .i a0.2]), (5, .val (.b true)), (6, .val (.b false)), (10, .row [.s a0.1, .i a0.2]), (13, .val (.b true)), (14, .val (.b false)), (18, .val (.b true)), (22, .val (.i (((k0 : Nat) : Int) - 1))), (23, .row [.s ((nth s_ (Int.toNat (((k0 : Nat) : Int) - 1))).1), .i ((nth s_ (Int.toNat (((k0 : Nat) : Int) - 1))).2)]), (28, .row [.s a0.1, .i a0.2])] (o2 (Ql (Xl (i := ((k0 : Nat) : Int)) (by omega) rfl hx0)) (o2 (Qe (cb h3n (Xv a0.1))) (o2 (Qf (show .b (!true) = .b false from rfl)) (o2 (Ql (Xl (i := ((k0 : Nat) : Int)) (by omega) rfl hx0)) (o2 (Qe (cb h4n (Y5 a0.2 1 2))) (o2 (Qf (show .b (!true) = .b false from rfl)) (o2 (Qf (Qg h5)) (o2 (Qf (Kw (IntWalk.i64_in (((k0 : Nat) : Int) - 1) (by omega)))) (o2 (Ql (Xl (i := (((k0 : Nat) : Int) - 1)) (by omega) rfl hx6)) (o1 (Ql (Xl (i := ((k0 : Nat) : Int)) (by omega) rfl hx0)))))))))))) ?_
     exact ⟨rfl, Qc (by rw [h3, h4, h5]; first | done | kernel_rfl)⟩
    ·
     have h5d := of_decide_eq_false h5
     refine rd' Qb Zv [(43, .b false)] [7] [] [] [(2, .row [.s a0.1, .i a0.2]), (5, .val (.b true)), (6, .val (.b false)), (10, .row [.s a0.1, .i a0.2]), (13, .val (.b true)), (14, .val (.b false)), (18, .val (.b false))] (o2 (Ql (Xl (i := ((k0 : Nat) : Int)) (by omega) rfl hx0)) (o2 (Qe (cb h3n (Xv a0.1))) (o2 (Qf (show .b (!true) = .b false from rfl)) (o2 (Ql (Xl (i := ((k0 : Nat) : Int)) (by omega) rfl hx0)) (o2 (Qe (cb h4n (Y5 a0.2 1 2))) (o2 (Qf (show .b (!true) = .b false from rfl)) (o1 (Qf (Qg h5))))))))) ?_
     exact ⟨rfl, Qc (by rw [h3, h4, h5]; first | done | kernel_rfl)⟩
  refine ck ((!(Xf a0.1)) || ((!(Qt a0.2 1 2)) || (decide (((k0 : Nat) : Int) > (0 : Int)) && (!(Op.bytesLess ((nth s_ (Int.toNat (((k0 : Nat) : Int) - 1))).1).toList a0.1.toList))))) (fun h7 => ?_) (fun h7 => ?_)
  ·
   refine Qa ?_
   refine rk Qb [] [43] [] [] [] (o0) ?_
   refine Qi ?_
   have hr8 : (Xk (Jn s_) Kv s_ 0 ()) = .ret false := Jq hx0 (Yf h7 (rfl)) hI0
   exact Zb [] (congrArg (fun z => (.b z : AV)) (show Y9 s_ = false from Qgl hr8).symm)
  ·
   have h7r : (((!(Qt a0.2 1 2)) || (decide (((k0 : Nat) : Int) > (0 : Int)) && (!(Op.bytesLess ((nth s_ (Int.toNat (((k0 : Nat) : Int) - 1))).1).toList a0.1.toList))))) = false := Qul h7
   have h7rl : ((!(Qt a0.2 1 2))) = false := Qra h7r
   have h7rln : (Qt a0.2 1 2) = true := Vo h7rl
   have h7rlnw := Qcp.1 h7rln
   refine Qh ?_
   refine rk Qb [(3, .i ((k0 + 1 : Nat) : Int))] [3, 43] [] [] [(1, .val (.i ((k0 + 1 : Nat) : Int)))] (o1 (Qf (Kw (Qs k0 (by omega))))) ?_
   exact Exists.intro () (And.intro (Qc (by kernel_rfl)) (Qw hx0 (Qv h7 (rfl)) hI0))
 ·
  refine Qa ?_
  refine Qa ?_
  refine rk Qb [(7, .b false)] [] [] [] [(2, .val (.i (s_.length : Int))), (3, .val (.b false))] (o2 (Qf (Xc s_)) (o1 (Qf (Qg (decide_eq_false (p := ((k0 : Nat) : Int) < (s_.length : Int)) (by omega)))))) ?_
  refine ckF ?_
  refine Xj ?_
  exact Exists.intro () (And.intro (Qc (by kernel_rfl)) (X9 hk0 (rfl) hI0))
 ·
  refine Qa ?_
  refine rk Qb [(2, .b (decide ((s_.length : Int) ≤ (5 : Int))))] [0, 2] [] [] [(1, .val (.i (s_.length : Int)))] (o1 (Qf (Xc s_))) ?_
  refine Qi ?_
  exact Zb [] (congrArg (fun z => (.b z : AV)) (show Y9 s_ = decide ((s_.length : Int) ≤ (5 : Int)) from Hk hD0 (rfl)).symm)
def Kq (s_ : (List Jr)) (f : Yt) (k0 : Nat) (a0 : Qdd) (_ : Unit) : Rd (Bool) (Unit) (Unit) := (bif ((!(Zy s_ a0.1 a0.2)) || (decide (((k0 : Nat) : Int) > (0 : Int)) && (!(Op.bytesLess ((nth f.2.2.2.2 (Int.toNat (((k0 : Nat) : Int) - 1))).1).toList a0.1.toList)))) then (.ret false) else (.next ()))
def Vt (_ : Nat) (_ : Unit) : Unit := ()
def Je (s_ : (List Jr)) (f : Yt) : Bool := (Out.on (Xk (Kq s_ f) Vt f.2.2.2.2 0 ()) (fun _ => ((Y9 s_) && ((Qt f.1 1 60) && ((Qt f.2.1 0 2) && (Qt f.2.2.2.1 0 60))))))
theorem Ht (s_ : (List Jr)) (f : Yt) : ACalls Tryz.prog 124 [.h s_, .a [.i f.1, .i f.2.1, .b f.2.2.1, .i f.2.2.2.1, .h f.2.2.2.2]] (.b (Je s_ f)) := by
 refine Qn (tt := tt) Qb Tryz.func124 (fn := Tryz.f124) rfl (by unfold Z7; kernel_rfl) (Nat.le_of_ble_eq_true rfl) fun w0 F0 => ?_
 refine Qa ?_
 refine rk Qb [(3, .p 3 0), (4, .b false)] [1] [(3, [.i f.1, .i f.2.1, .b f.2.2.1, .i f.2.2.2.1, .h f.2.2.2.2])] [] [] (o0) ?_
 refine Qa ?_
 refine Qa ?_
 refine rk Qb [(5, .i 0)] [] [] [] [] (o0) ?_
 refine wdB 3 4 .sh f.2.2.2.2 (fun hw1 => ?_)
 have hl2 : List.length f.2.2.2.2 ≤ 1073741824 := Qp (hw1)
 refine blk (fun (k0 : Nat) (s0 : Unit) => [(5, .i ((k0 : Nat) : Int))]) [5] (fun k0 s0 => []) [] (fun (y0 : Unit) => []) [5] (fun y0 => []) [] (fun (k0 : Nat) (s0 : Unit) => (Xk (Kq s_ f) Vt f.2.2.2.2 0 ()) = Xk (Kq s_ f) Vt (List.drop k0 f.2.2.2.2) k0 s0) (fun (y0 : Unit) => (Xk (Kq s_ f) Vt f.2.2.2.2 0 ()) = .brk y0) f.2.2.2.2.length () (Qc (by kernel_rfl)) rfl (fun k0 s0 hk0 hI0 => ?_) (fun k0 s0 hk0 hI0 => ?_) (fun y0 hD0 => ?_)
 ·
  obtain ⟨a0, hx0⟩ := X8 (l := f.2.2.2.2) (i := k0) hk0
  refine Qa ?_
  refine Qa ?_
  refine rk Qb [(10, .b true)] [] [] [] [(3, .val (.i (f.2.2.2.2.length : Int))), (4, .val (.b true))] (o2 (Qf (Xc f.2.2.2.2)) (o1 (Qf (Qg (decide_eq_true (p := ((k0 : Nat) : Int) < (f.2.2.2.2.length : Int)) (by omega)))))) ?_
  refine ckT ?_
  refine Qh ?_
  refine Qa ?_
  refine Q4 ?_
  refine Qa ?_
  refine jn [(47, .b ((!(Zy s_ a0.1 a0.2)) || (decide (((k0 : Nat) : Int) > (0 : Int)) && (!(Op.bytesLess ((nth f.2.2.2.2 (Int.toNat (((k0 : Nat) : Int) - 1))).1).toList a0.1.toList)))))] [10] [] [] (!(Zy s_ a0.1 a0.2)) (fun h3 => ?_) (fun h3 => ?_) ?_
  ·
   have h3n : (Zy s_ a0.1 a0.2) = false := Qa3 h3
   refine rd' Qb Zv [(47, .b true)] [10] [] [] [(4, .row [.s a0.1, .i a0.2.1, .i a0.2.2.1, .s a0.2.2.2]), (10, .row [.s a0.1, .i a0.2.1, .i a0.2.2.1, .s a0.2.2.2]), (13, .val (.b false)), (14, .val (.b true))] (o2 (Ql (Xl (i := ((k0 : Nat) : Int)) (by omega) rfl hx0)) (o2 (Ql (Xl (i := ((k0 : Nat) : Int)) (by omega) rfl hx0)) (o2 (Qe (cb h3n (Qaq s_ a0.1 a0.2))) (o1 (Qf (show .b (!false) = .b true from rfl)))))) ?_
   exact ⟨rfl, Qc (by rw [h3]; first | done | kernel_rfl)⟩
  ·
   have h3n : (Zy s_ a0.1 a0.2) = true := Vo h3
   refine X4 (decide (((k0 : Nat) : Int) > (0 : Int))) (fun h4 => ?_) (fun h4 => ?_)
   ·
    have h4d := of_decide_eq_true h4
    have hx5 : f.2.2.2.2[(Int.toNat (((k0 : Nat) : Int) - 1))]? = some (nth f.2.2.2.2 (Int.toNat (((k0 : Nat) : Int) - 1))) := X3 (by omega)
    refine rd' Qb Zv [(47, .b (!(Op.bytesLess ((nth f.2.2.2.2 (Int.toNat (((k0 : Nat) : Int) - 1))).1).toList a0.1.toList)))] [10] [] [] [(4, .row [.s a0.1, .i a0.2.1, .i a0.2.2.1, .s a0.2.2.2]), (10, .row [.s a0.1, .i a0.2.1, .i a0.2.2.1, .s a0.2.2.2]), (13, .val (.b true)), (14, .val (.b false)), (17, .val (.b true)), (22, .val (.i (((k0 : Nat) : Int) - 1))), (23, .row [.s ((nth f.2.2.2.2 (Int.toNat (((k0 : Nat) : Int) - 1))).1), .i ((nth f.2.2.2.2 (Int.toNat (((k0 : Nat) : Int) - 1))).2.1), .i ((nth f.2.2.2.2 (Int.toNat (((k0 : Nat) : Int) - 1))).2.2.1), .s ((nth f.2.2.2.2 (Int.toNat (((k0 : Nat) : Int) - 1))).2.2.2)]), (29, .row [.s a0.1, .i a0.2.1, .i a0.2.2.1, .s a0.2.2.2])] (o2 (Ql (Xl (i := ((k0 : Nat) : Int)) (by omega) rfl hx0)) (o2 (Ql (Xl (i := ((k0 : Nat) : Int)) (by omega) rfl hx0)) (o2 (Qe (cb h3n (Qaq s_ a0.1 a0.2))) (o2 (Qf (show .b (!true) = .b false from rfl)) (o2 (Qf (Qg h4)) (o2 (Qf (Kw (IntWalk.i64_in (((k0 : Nat) : Int) - 1) (by omega)))) (o2 (Ql (Xl (i := (((k0 : Nat) : Int) - 1)) (by omega) rfl hx5)) (o1 (Ql (Xl (i := ((k0 : Nat) : Int)) (by omega) rfl hx0)))))))))) ?_
    exact ⟨rfl, Qc (by rw [h3, h4]; first | done | kernel_rfl)⟩
   ·
    have h4d := of_decide_eq_false h4
    refine rd' Qb Zv [(47, .b false)] [10] [] [] [(4, .row [.s a0.1, .i a0.2.1, .i a0.2.2.1, .s a0.2.2.2]), (10, .row [.s a0.1, .i a0.2.1, .i a0.2.2.1, .s a0.2.2.2]), (13, .val (.b true)), (14, .val (.b false)), (17, .val (.b false))] (o2 (Ql (Xl (i := ((k0 : Nat) : Int)) (by omega) rfl hx0)) (o2 (Ql (Xl (i := ((k0 : Nat) : Int)) (by omega) rfl hx0)) (o2 (Qe (cb h3n (Qaq s_ a0.1 a0.2))) (o2 (Qf (show .b (!true) = .b false from rfl)) (o1 (Qf (Qg h4))))))) ?_
    exact ⟨rfl, Qc (by rw [h3, h4]; first | done | kernel_rfl)⟩
  refine ck ((!(Zy s_ a0.1 a0.2)) || (decide (((k0 : Nat) : Int) > (0 : Int)) && (!(Op.bytesLess ((nth f.2.2.2.2 (Int.toNat (((k0 : Nat) : Int) - 1))).1).toList a0.1.toList)))) (fun h6 => ?_) (fun h6 => ?_)
  ·
   refine Qa ?_
   refine rk Qb [] [47] [] [] [] (o0) ?_
   refine Qi ?_
   have hr7 : (Xk (Kq s_ f) Vt f.2.2.2.2 0 ()) = .ret false := Jq hx0 (Yf h6 (rfl)) hI0
   exact Zb [] (congrArg (fun z => (.b z : AV)) (show Je s_ f = false from Qgl hr7).symm)
  ·
   refine Qh ?_
   refine rk Qb [(5, .i ((k0 + 1 : Nat) : Int))] [5, 47] [] [] [(1, .val (.i ((k0 + 1 : Nat) : Int)))] (o1 (Qf (Kw (Qs k0 (by omega))))) ?_
   exact Exists.intro () (And.intro (Qc (by kernel_rfl)) (Qw hx0 (Qv h6 (rfl)) hI0))
 ·
  refine Qa ?_
  refine Qa ?_
  refine rk Qb [(10, .b false)] [] [] [] [(3, .val (.i (f.2.2.2.2.length : Int))), (4, .val (.b false))] (o2 (Qf (Xc f.2.2.2.2)) (o1 (Qf (Qg (decide_eq_false (p := ((k0 : Nat) : Int) < (f.2.2.2.2.length : Int)) (by omega)))))) ?_
  refine ckF ?_
  refine Xj ?_
  exact Exists.intro () (And.intro (Qc (by kernel_rfl)) (X9 hk0 (rfl) hI0))
 ·
  refine Qa ?_
  refine jn [(4, .b ((Y9 s_) && ((Qt f.1 1 60) && ((Qt f.2.1 0 2) && (Qt f.2.2.2.1 0 60)))))] [0, 3, 4] [] [3] (Y9 s_) (fun h8 => ?_) (fun h8 => ?_) ?_
  ·
   refine X4 (Qt f.1 1 60) (fun h9 => ?_) (fun h9 => ?_)
   ·
    have h9w := Qcp.1 h9
    refine X4 (Qt f.2.1 0 2) (fun h10 => ?_) (fun h10 => ?_)
    ·
     have h10w := Qcp.1 h10
     refine rk Qb [(4, .b (Qt f.2.2.2.1 0 60))] [0, 3, 4] [] [3] [(1, .val (.b true)), (5, .val (.b true)), (10, .val (.b true)), (15, .val (.b (Qt f.2.2.2.1 0 60)))] (o2 (Qe (cb h8 (J9 s_))) (o2 (Qe (cb h9 (Y5 f.1 1 60))) (o2 (Qe (cb h10 (Y5 f.2.1 0 2))) (o1 (Qe (Y5 f.2.2.2.1 0 60)))))) ?_
     exact ⟨rfl, Qc (by rw [h8, h9, h10]; first | done | kernel_rfl)⟩
    ·
     refine rk Qb [] [0, 3] [] [3] [(1, .val (.b true)), (5, .val (.b true)), (10, .val (.b false))] (o2 (Qe (cb h8 (J9 s_))) (o2 (Qe (cb h9 (Y5 f.1 1 60))) (o1 (Qe (cb h10 (Y5 f.2.1 0 2)))))) ?_
     exact ⟨rfl, Qc (by rw [h8, h9, h10]; first | done | kernel_rfl)⟩
   ·
    refine rk Qb [] [0, 3] [] [3] [(1, .val (.b true)), (5, .val (.b false))] (o2 (Qe (cb h8 (J9 s_))) (o1 (Qe (cb h9 (Y5 f.1 1 60))))) ?_
    exact ⟨rfl, Qc (by rw [h8, h9]; first | done | kernel_rfl)⟩
  ·
   refine rk Qb [] [0, 3] [] [3] [(1, .val (.b false))] (o1 (Qe (cb h8 (J9 s_)))) ?_
   exact ⟨rfl, Qc (by rw [h8]; first | done | kernel_rfl)⟩
  refine Qi ?_
  exact Zb [] (congrArg (fun z => (.b z : AV)) (show Je s_ f = ((Y9 s_) && ((Qt f.1 1 60) && ((Qt f.2.1 0 2) && (Qt f.2.2.2.1 0 60)))) from Hk hD0 (rfl)).symm)
def Ka (s_ : X7) (k0 : Nat) (a0 : Yt) (_ : Unit) : Rd (Bool) (Unit) (Unit) := (bif ((!(Je s_.1 a0)) || (decide (a0.1 ≥ s_.2.2) || (decide (((k0 : Nat) : Int) > (0 : Int)) && decide ((nth s_.2.1 (Int.toNat (((k0 : Nat) : Int) - 1))).1 ≥ a0.1)))) then (.ret false) else (.next ()))
def K4 (_ : Nat) (_ : Unit) : Unit := ()
def Yp (s_ : X7) : Bool := (Out.on (Xk (Ka s_) K4 s_.2.1 0 ()) (fun _ => ((Y9 s_.1) && (decide ((s_.2.1.length : Int) ≤ (12 : Int)) && (Qt s_.2.2 1 61)))))
theorem Qc0 (s_ : X7) : ACalls Tryz.prog 87 [.a [.h s_.1, .h s_.2.1, .i s_.2.2]] (.b (Yp s_)) := by
 refine Qn (tt := tt) Qb Tryz.func87 (fn := Tryz.f87) rfl (by unfold Z7; kernel_rfl) (Nat.le_of_ble_eq_true rfl) fun w0 F0 => ?_
 refine Qa ?_
 refine rk Qb [(1, .p 1 0), (2, .b false)] [0] [(1, [.h s_.1, .h s_.2.1, .i s_.2.2])] [] [] (o0) ?_
 refine Qa ?_
 refine Qa ?_
 refine rk Qb [(3, .i 0)] [] [] [] [] (o0) ?_
 refine wdB 1 1 .sh s_.2.1 (fun hw1 => ?_)
 have hl2 : List.length s_.2.1 ≤ 1073741824 := Qp (hw1)
 refine blk (fun (k0 : Nat) (s0 : Unit) => [(3, .i ((k0 : Nat) : Int))]) [3] (fun k0 s0 => []) [] (fun (y0 : Unit) => []) [3] (fun y0 => []) [] (fun (k0 : Nat) (s0 : Unit) => (Xk (Ka s_) K4 s_.2.1 0 ()) = Xk (Ka s_) K4 (List.drop k0 s_.2.1) k0 s0) (fun (y0 : Unit) => (Xk (Ka s_) K4 s_.2.1 0 ()) = .brk y0) s_.2.1.length () (Qc (by kernel_rfl)) rfl (fun k0 s0 hk0 hI0 => ?_) (fun k0 s0 hk0 hI0 => ?_) (fun y0 hD0 => ?_)
 ·
  obtain ⟨a0, hx0⟩ := X8 (l := s_.2.1) (i := k0) hk0
  refine Qa ?_
  refine Qa ?_
  refine rk Qb [(8, .b true)] [] [] [] [(3, .val (.i (s_.2.1.length : Int))), (4, .val (.b true))] (o2 (Qf (Xc s_.2.1)) (o1 (Qf (Qg (decide_eq_true (p := ((k0 : Nat) : Int) < (s_.2.1.length : Int)) (by omega)))))) ?_
  refine ckT ?_
  refine Qh ?_
  refine Qa ?_
  refine Q4 ?_
  refine Qa ?_
  refine jn [(50, .b ((!(Je s_.1 a0)) || (decide (a0.1 ≥ s_.2.2) || (decide (((k0 : Nat) : Int) > (0 : Int)) && decide ((nth s_.2.1 (Int.toNat (((k0 : Nat) : Int) - 1))).1 ≥ a0.1)))))] [8] [] [] (!(Je s_.1 a0)) (fun h3 => ?_) (fun h3 => ?_) ?_
  ·
   have h3n : (Je s_.1 a0) = false := Qa3 h3
   refine rd' Qb Zv [(50, .b true)] [8] [] [] [(5, .row [.i a0.1, .i a0.2.1, .b a0.2.2.1, .i a0.2.2.2.1, .h a0.2.2.2.2]), (7, .val (.b false)), (8, .val (.b true))] (o2 (Ql (Xl (i := ((k0 : Nat) : Int)) (by omega) rfl hx0)) (o2 (Qe (cb h3n (Ht s_.1 a0))) (o1 (Qf (show .b (!false) = .b true from rfl))))) ?_
   exact ⟨rfl, Qc (by rw [h3]; first | done | kernel_rfl)⟩
  ·
   have h3n : (Je s_.1 a0) = true := Vo h3
   refine X4 (decide (a0.1 ≥ s_.2.2)) (fun h4 => ?_) (fun h4 => ?_)
   ·
    have h4d := of_decide_eq_true h4
    refine rd' Qb Zv [(50, .b true)] [8] [] [] [(5, .row [.i a0.1, .i a0.2.1, .b a0.2.2.1, .i a0.2.2.2.1, .h a0.2.2.2.2]), (7, .val (.b true)), (8, .val (.b false)), (13, .row [.i a0.1, .i a0.2.1, .b a0.2.2.1, .i a0.2.2.2.1, .h a0.2.2.2.2]), (18, .val (.b true))] (o2 (Ql (Xl (i := ((k0 : Nat) : Int)) (by omega) rfl hx0)) (o2 (Qe (cb h3n (Ht s_.1 a0))) (o2 (Qf (show .b (!true) = .b false from rfl)) (o2 (Ql (Xl (i := ((k0 : Nat) : Int)) (by omega) rfl hx0)) (o1 (Qf (Qg h4))))))) ?_
    exact ⟨rfl, Qc (by rw [h3, h4]; first | done | kernel_rfl)⟩
   ·
    have h4d := of_decide_eq_false h4
    refine X4 (decide (((k0 : Nat) : Int) > (0 : Int))) (fun h5 => ?_) (fun h5 => ?_)
    ·
     have h5d := of_decide_eq_true h5
     have hx6 : s_.2.1[(Int.toNat (((k0 : Nat) : Int) - 1))]? = some (nth s_.2.1 (Int.toNat (((k0 : Nat) : Int) - 1))) := X3 (by omega)
     refine rd' Qb Zv [(50, .b (decide ((nth s_.2.1 (Int.toNat (((k0 : Nat) : Int) - 1))).1 ≥ a0.1)))] [8] [] [] [(5, .row [.i a0.1, .i a0.2.1, .b a0.2.2.1, .i a0.2.2.2.1, .h a0.2.2.2.2]), (7, .val (.b true)), (8, .val (.b false)), (13, .row [.i a0.1, .i a0.2.1, .b a0.2.2.1, .i a0.2.2.2.1, .h a0.2.2.2.2]), (18, .val (.b false)), (22, .val (.b true)), (27, .val (.i (((k0 : Nat) : Int) - 1))), (28, .row [.i ((nth s_.2.1 (Int.toNat (((k0 : Nat) : Int) - 1))).1), .i ((nth s_.2.1 (Int.toNat (((k0 : Nat) : Int) - 1))).2.1), .b ((nth s_.2.1 (Int.toNat (((k0 : Nat) : Int) - 1))).2.2.1), .i ((nth s_.2.1 (Int.toNat (((k0 : Nat) : Int) - 1))).2.2.2.1), .h ((nth s_.2.1 (Int.toNat (((k0 : Nat) : Int) - 1))).2.2.2.2)]), (34, .row [.i a0.1, .i a0.2.1, .b a0.2.2.1, .i a0.2.2.2.1, .h a0.2.2.2.2])] (o2 (Ql (Xl (i := ((k0 : Nat) : Int)) (by omega) rfl hx0)) (o2 (Qe (cb h3n (Ht s_.1 a0))) (o2 (Qf (show .b (!true) = .b false from rfl)) (o2 (Ql (Xl (i := ((k0 : Nat) : Int)) (by omega) rfl hx0)) (o2 (Qf (Qg h4)) (o2 (Qf (Qg h5)) (o2 (Qf (Kw (IntWalk.i64_in (((k0 : Nat) : Int) - 1) (by omega)))) (o2 (Ql (Xl (i := (((k0 : Nat) : Int) - 1)) (by omega) rfl hx6)) (o1 (Ql (Xl (i := ((k0 : Nat) : Int)) (by omega) rfl hx0))))))))))) ?_
     exact ⟨rfl, Qc (by rw [h3, h4, h5]; first | done | kernel_rfl)⟩
    ·
     have h5d := of_decide_eq_false h5
     refine rd' Qb Zv [(50, .b false)] [8] [] [] [(5, .row [.i a0.1, .i a0.2.1, .b a0.2.2.1, .i a0.2.2.2.1, .h a0.2.2.2.2]), (7, .val (.b true)), (8, .val (.b false)), (13, .row [.i a0.1, .i a0.2.1, .b a0.2.2.1, .i a0.2.2.2.1, .h a0.2.2.2.2]), (18, .val (.b false)), (22, .val (.b false))] (o2 (Ql (Xl (i := ((k0 : Nat) : Int)) (by omega) rfl hx0)) (o2 (Qe (cb h3n (Ht s_.1 a0))) (o2 (Qf (show .b (!true) = .b false from rfl)) (o2 (Ql (Xl (i := ((k0 : Nat) : Int)) (by omega) rfl hx0)) (o2 (Qf (Qg h4)) (o1 (Qf (Qg h5)))))))) ?_
     exact ⟨rfl, Qc (by rw [h3, h4, h5]; first | done | kernel_rfl)⟩
  refine ck ((!(Je s_.1 a0)) || (decide (a0.1 ≥ s_.2.2) || (decide (((k0 : Nat) : Int) > (0 : Int)) && decide ((nth s_.2.1 (Int.toNat (((k0 : Nat) : Int) - 1))).1 ≥ a0.1)))) (fun h7 => ?_) (fun h7 => ?_)
  ·
   refine Qa ?_
   refine rk Qb [] [50] [] [] [] (o0) ?_
   refine Qi ?_
   have hr8 : (Xk (Ka s_) K4 s_.2.1 0 ()) = .ret false := Jq hx0 (Yf h7 (rfl)) hI0
   exact Zb [] (congrArg (fun z => (.b z : AV)) (show Yp s_ = false from Qgl hr8).symm)
  ·
   have h7r : ((decide (a0.1 ≥ s_.2.2) || (decide (((k0 : Nat) : Int) > (0 : Int)) && decide ((nth s_.2.1 (Int.toNat (((k0 : Nat) : Int) - 1))).1 ≥ a0.1)))) = false := Qul h7
   have h7rl : (decide (a0.1 ≥ s_.2.2)) = false := Qra h7r
   have h7rld := of_decide_eq_false h7rl
   refine Qh ?_
   refine rk Qb [(3, .i ((k0 + 1 : Nat) : Int))] [3, 50] [] [] [(1, .val (.i ((k0 + 1 : Nat) : Int)))] (o1 (Qf (Kw (Qs k0 (by omega))))) ?_
   exact Exists.intro () (And.intro (Qc (by kernel_rfl)) (Qw hx0 (Qv h7 (rfl)) hI0))
 ·
  refine Qa ?_
  refine Qa ?_
  refine rk Qb [(8, .b false)] [] [] [] [(3, .val (.i (s_.2.1.length : Int))), (4, .val (.b false))] (o2 (Qf (Xc s_.2.1)) (o1 (Qf (Qg (decide_eq_false (p := ((k0 : Nat) : Int) < (s_.2.1.length : Int)) (by omega)))))) ?_
  refine ckF ?_
  refine Xj ?_
  exact Exists.intro () (And.intro (Qc (by kernel_rfl)) (X9 hk0 (rfl) hI0))
 ·
  refine Qa ?_
  refine jn [(2, .b ((Y9 s_.1) && (decide ((s_.2.1.length : Int) ≤ (12 : Int)) && (Qt s_.2.2 1 61))))] [1, 2] [] [1] (Y9 s_.1) (fun h9 => ?_) (fun h9 => ?_) ?_
  ·
   refine X4 (decide ((s_.2.1.length : Int) ≤ (12 : Int))) (fun h10 => ?_) (fun h10 => ?_)
   ·
    refine rk Qb [(2, .b (Qt s_.2.2 1 61))] [1, 2] [] [1] [(2, .val (.b true)), (6, .val (.i (s_.2.1.length : Int))), (7, .val (.b true)), (12, .val (.b (Qt s_.2.2 1 61)))] (o2 (Qe (cb h9 (J9 s_.1))) (o2 (Qf (Xc s_.2.1)) (o2 (Qf (Qg h10)) (o1 (Qe (Y5 s_.2.2 1 61)))))) ?_
    exact ⟨rfl, Qc (by rw [h9, h10]; first | done | kernel_rfl)⟩
   ·
    refine rk Qb [] [1] [] [1] [(2, .val (.b true)), (6, .val (.i (s_.2.1.length : Int))), (7, .val (.b false))] (o2 (Qe (cb h9 (J9 s_.1))) (o2 (Qf (Xc s_.2.1)) (o1 (Qf (Qg h10))))) ?_
    exact ⟨rfl, Qc (by rw [h9, h10]; first | done | kernel_rfl)⟩
  ·
   refine rk Qb [] [1] [] [1] [(2, .val (.b false))] (o1 (Qe (cb h9 (J9 s_.1)))) ?_
   exact ⟨rfl, Qc (by rw [h9]; first | done | kernel_rfl)⟩
  refine Qi ?_
  exact Zb [] (congrArg (fun z => (.b z : AV)) (show Yp s_ = ((Y9 s_.1) && (decide ((s_.2.1.length : Int) ≤ (12 : Int)) && (Qt s_.2.2 1 61))) from Hk hD0 (rfl)).symm)
end Go.Proofs.YtnhmnfmhnepjmaaGreat
namespace Go.Proofs.YtnhmnfmhnepjmaaGreat
open Go.RowKit
theorem kind_eq (s : List Jr) (n : ByteArray) : V6 s n = V5 s n := rfl
theorem Qk7 (s : List Jr) (n : ByteArray) (v : H5) : Zy s n v = Yv s n v := by
  unfold Zy Yv
  rw [vval_eq, kind_eq]
theorem Qps (s : List Jr) : Y9 s = Yw s := by
  unfold Y9 Yw
  rw [Qdr (f := Jn s) (g := Jm s) (e := Kv) (e' := Ku) (fun k a u => by
    unfold Jn Jm
    rw [Qs5]
    have h : (!(Qt a.2 1 2)) = ((a.2 != 1) && (a.2 != 2)) := by
      unfold Qt
      rw [Bool.eq_iff_iff]; simp; omega
    rw [h]
    generalize (!(Op.bytesLess ((nth s (Int.toNat (((k : Nat) : Int) - 1))).1).toList a.1.toList)) = x
    cases Xf a.1 <;> cases (a.2 != (1 : Int)) <;> cases (a.2 != (2 : Int)) <;> cases decide (((k : Nat) : Int) > (0 : Int)) <;> cases x <;> rfl) (fun _ _ => rfl)]
theorem file_eq (s : List Jr) (f : Yt) : Je s f = Jc s f := by
  unfold Je Jc
  rw [Qdr (f := Kq s f) (g := Kp s f) (e := Vt) (e' := Vs) (fun k a u => by
    unfold Kq Kp
    rw [Qk7]
    generalize (!(Op.bytesLess ((nth f.2.2.2.2 (Int.toNat (((k : Nat) : Int) - 1))).1).toList a.1.toList)) = x
    cases Yv s a.1 a.2 <;> cases decide (((k : Nat) : Int) > (0 : Int)) <;> cases x <;> rfl) (fun _ _ => rfl), Qps]
  congr 1
  funext y
  unfold Jy
  simp only [← Qpe]
  cases Yw s <;> cases Xd f.1 1 60 <;> cases Xd f.2.1 0 2 <;> cases Xd f.2.2.2.1 0 60 <;> rfl
theorem Qtm (s : X7) : Yp s = Xm s := by
  unfold Yp Xm
  rw [Qdr (f := Ka s) (g := Zm s) (e := K4) (e' := Jd) (fun k a u => by
    unfold Ka Zm
    rw [file_eq]) (fun _ _ => rfl), Qps]
  rfl
open GoE (enc wide)
def H6 (name : ByteArray) (_ : Nat) (a0 : Qdd) (_ : Unit) : Rd (H5) (Unit) (Unit) := (bif (a0.1.toList == name.toList) then (.ret a0.2) else (.next ()))
def H7 (_ : Nat) (_ : Unit) : Unit := ()
def X2 (f : Yt) (name : ByteArray) : H5 := (Out.on (Xk (H6 name) H7 f.2.2.2.2 0 ()) (fun _ => (0, 0, ⟨#[]⟩)))
theorem Qdz (f : Yt) (name : ByteArray) : ACalls Tryz.prog 230 [.a [.i f.1, .i f.2.1, .b f.2.2.1, .i f.2.2.2.1, .h f.2.2.2.2], .s name] (.a [.i ((X2 f name).1), .i ((X2 f name).2.1), .s ((X2 f name).2.2)]) := by
 refine Qn (tt := tt) Qb Tryz.func230 (fn := Tryz.f230) rfl (by unfold Z7; kernel_rfl) (Nat.le_of_ble_eq_true rfl) fun w0 F0 => ?_
 refine Qa ?_
 refine rk Qb [(2, .p 2 0), (4, .p 4 0)] [0] [(2, [.i f.1, .i f.2.1, .b f.2.2.1, .i f.2.2.2.1, .h f.2.2.2.2]), (4, [.i 0, .i 0, .s ⟨#[]⟩])] [] [] (o0) ?_
 refine Qa ?_
 refine Qa ?_
 refine rk Qb [(8, .h f.2.2.2.2), (9, .i (f.2.2.2.2.length : Int)), (10, .i 0)] [2] [] [2] [(2, .val (.i (f.2.2.2.2.length : Int)))] (o1 (Qf (Xc f.2.2.2.2))) ?_
 refine wdT 8 0 .sh f.2.2.2.2 (fun hw1 => ?_)
 have hl2 : List.length f.2.2.2.2 ≤ 1073741824 := Qp (hw1)
 refine blk (fun (k0 : Nat) (s0 : Unit) => [(10, .i ((k0 : Nat) : Int))]) [10] (fun k0 s0 => []) [] (fun (y0 : Unit) => []) [1, 8, 9, 10] (fun y0 => []) [] (fun (k0 : Nat) (s0 : Unit) => (Xk (H6 name) H7 f.2.2.2.2 0 ()) = Xk (H6 name) H7 (List.drop k0 f.2.2.2.2) k0 s0) (fun (y0 : Unit) => (Xk (H6 name) H7 f.2.2.2.2 0 ()) = .brk y0) f.2.2.2.2.length () (Qc (by kernel_rfl)) rfl (fun k0 s0 hk0 hI0 => ?_) (fun k0 s0 hk0 hI0 => ?_) (fun y0 hD0 => ?_)
 ·
  obtain ⟨a0, hx0⟩ := X8 (l := f.2.2.2.2) (i := k0) hk0
  refine Qa ?_
  refine rk Qb [(11, .b true)] [] [] [] [(0, .val (.b true))] (o1 (Qf (Qg (decide_eq_true (p := ((k0 : Nat) : Int) < (f.2.2.2.2.length : Int)) (by omega))))) ?_
  refine Qa ?_
  refine ckT ?_
  refine Qh ?_
  refine Qa ?_
  refine Q4 ?_
  refine Qa ?_
  refine rk Qb [(6, .p 6 0)] [11] [(6, [.s a0.1, .i a0.2.1, .i a0.2.2.1, .s a0.2.2.2])] [] [(0, .row [.s a0.1, .i a0.2.1, .i a0.2.2.1, .s a0.2.2.2])] (o1 (Ql (Xl (i := ((k0 : Nat) : Int)) (by omega) rfl hx0))) ?_
  refine Qa ?_
  refine rk Qb [(17, .b (a0.1.toList == name.toList))] [] [] [] [] (o0) ?_
  refine ck (a0.1.toList == name.toList) (fun h3 => ?_) (fun h3 => ?_)
  ·
   refine Qa ?_
   refine rk Qb [] [6, 17] [(4, [.i a0.2.1, .i a0.2.2.1, .s a0.2.2.2])] [4, 6] [] (o0) ?_
   refine Qi ?_
   have hr4 : (Xk (H6 name) H7 f.2.2.2.2 0 ()) = .ret a0.2 := Jq hx0 (Yf h3 (rfl)) hI0
   exact Zb [] (congrArg (fun z => (.a [.i z.1, .i z.2.1, .s z.2.2] : AV)) (show X2 f name = a0.2 from Qgl hr4).symm)
  ·
   refine Qh ?_
   refine rk Qb [(10, .i ((k0 + 1 : Nat) : Int))] [6, 10, 17] [] [6] [(0, .val (.i ((k0 + 1 : Nat) : Int)))] (o1 (Qf (Kw (Qs k0 (by omega))))) ?_
   exact Exists.intro () (And.intro (Qc (by kernel_rfl)) (Qw hx0 (Qv h3 (rfl)) hI0))
 ·
  refine Qa ?_
  refine rk Qb [(11, .b false)] [] [] [] [(0, .val (.b false))] (o1 (Qf (Qg (decide_eq_false (p := ((k0 : Nat) : Int) < (f.2.2.2.2.length : Int)) (by omega))))) ?_
  refine Qa ?_
  refine ckF ?_
  refine Xj ?_
  exact Exists.intro () (And.intro (Qc (by kernel_rfl)) (X9 hk0 (rfl) hI0))
 ·
  refine Qa ?_
  refine rk Qb [] [] [] [] [] (o0) ?_
  refine Qi ?_
  exact Zb [] (congrArg (fun z => (.a [.i z.1, .i z.2.1, .s z.2.2] : AV)) (show X2 f name = (0, 0, ⟨#[]⟩) from Hk hD0 (rfl)).symm)
def Jf (f : Yt) (name : ByteArray) : Int × Bool := (bif ((X2 f name).1 != (1 : Int)) then (0, false) else ((X2 f name).2.1, true))
theorem Qnl (f : Yt) (name : ByteArray) : ACalls Tryz.prog 231 [.a [.i f.1, .i f.2.1, .b f.2.2.1, .i f.2.2.2.1, .h f.2.2.2.2], .s name] (.tup [(false, [.i (((Jf f name)).1)]), (false, [.b (((Jf f name)).2)])]) := by
 refine Qn (tt := tt) Qb Tryz.func231 (fn := Tryz.f231) rfl (by unfold Z7; kernel_rfl) (Nat.le_of_ble_eq_true rfl) fun w0 F0 => ?_
 refine Qa ?_
 refine rk Qb [(2, .p 2 0), (4, .i 0), (5, .b false)] [0] [(2, [.i f.1, .i f.2.1, .b f.2.2.1, .i f.2.2.2.1, .h f.2.2.2.2])] [] [] (o0) ?_
 refine Qa ?_
 refine rk Qb [(6, .p 6 0)] [1, 2] [(6, [.i ((X2 f name).1), .i ((X2 f name).2.1), .s ((X2 f name).2.2)])] [2] [(2, .val (.a [.i ((X2 f name).1), .i ((X2 f name).2.1), .s ((X2 f name).2.2)]))] (o1 (Qe (Qdz f name))) ?_
 refine Qa ?_
 refine Qa ?_
 refine rk Qb [(12, .b ((X2 f name).1 != (1 : Int)))] [] [] [] [] (o0) ?_
 refine ck ((X2 f name).1 != (1 : Int)) (fun h1 => ?_) (fun h1 => ?_)
 ·
  refine Qa ?_
  refine rk Qb [] [12] [] [] [] (o0) ?_
  refine Qi ?_
  exact Zb [] (congrArg (fun z => (.tup [(false, [.i z.1]), (false, [.b z.2])] : AV)) (show Jf f name = (0, false) from Yf h1 (rfl)).symm)
 ·
  refine Qh ?_
  refine Qa ?_
  refine rk Qb [(4, .i ((X2 f name).2.1)), (5, .b true)] [4, 5, 6, 12] [] [6] [] (o0) ?_
  refine Qi ?_
  exact Zb [] (congrArg (fun z => (.tup [(false, [.i z.1]), (false, [.b z.2])] : AV)) (show Jf f name = ((X2 f name).2.1, true) from Qv h1 (rfl)).symm)
def Zw (name : ByteArray) (_ : Nat) (a0 : Qk) (_ : Unit) : Rd ((List Int)) (Unit) (Unit) := (bif (a0.1.toList == name.toList) then (.ret a0.2) else (.next ()))
def J3 (_ : Nat) (_ : Unit) : Unit := ()
def Xb (r : (List Qk)) (name : ByteArray) : (List Int) := (Out.on (Xk (Zw name) J3 r 0 ()) (fun _ => []))
theorem Qa7 (r : (List Qk)) (name : ByteArray) : ACalls Tryz.prog 104 [.h r, .s name] (.o 0 (Xb r name)) := by
 refine Qn (tt := tt) Qb Tryz.func104 (fn := Tryz.f104) rfl (by unfold Z7; kernel_rfl) (Nat.le_of_ble_eq_true rfl) fun w0 F0 => ?_
 refine Qa ?_
 refine rk Qb [(4, .e 0)] [] [] [] [] (o0) ?_
 refine Qa ?_
 refine Qa ?_
 refine rk Qb [(7, .h r), (8, .i (r.length : Int)), (9, .i 0)] [0] [] [] [(1, .val (.i (r.length : Int)))] (o1 (Qf (Xc r))) ?_
 refine wdT 7 0 .sh r (fun hw1 => ?_)
 have hl2 : List.length r ≤ 1073741824 := Qp (hw1)
 refine blk (fun (k0 : Nat) (s0 : Unit) => [(9, .i ((k0 : Nat) : Int))]) [9] (fun k0 s0 => []) [] (fun (y0 : Unit) => []) [1, 7, 8, 9] (fun y0 => []) [] (fun (k0 : Nat) (s0 : Unit) => (Xk (Zw name) J3 r 0 ()) = Xk (Zw name) J3 (List.drop k0 r) k0 s0) (fun (y0 : Unit) => (Xk (Zw name) J3 r 0 ()) = .brk y0) r.length () (Qc (by kernel_rfl)) rfl (fun k0 s0 hk0 hI0 => ?_) (fun k0 s0 hk0 hI0 => ?_) (fun y0 hD0 => ?_)
 ·
  obtain ⟨a0, hx0⟩ := X8 (l := r) (i := k0) hk0
  refine Qa ?_
  refine rk Qb [(10, .b true)] [] [] [] [(0, .val (.b true))] (o1 (Qf (Qg (decide_eq_true (p := ((k0 : Nat) : Int) < (r.length : Int)) (by omega))))) ?_
  refine Qa ?_
  refine ckT ?_
  refine Qh ?_
  refine Qa ?_
  refine Q4 ?_
  refine Qa ?_
  refine rk Qb [(6, .p 6 0)] [10] [(6, [.s a0.1, .h a0.2])] [] [(0, .row [.s a0.1, .h a0.2])] (o1 (Ql (Xl (i := ((k0 : Nat) : Int)) (by omega) rfl hx0))) ?_
  refine Qa ?_
  refine rk Qb [(16, .b (a0.1.toList == name.toList))] [] [] [] [] (o0) ?_
  refine ck (a0.1.toList == name.toList) (fun h3 => ?_) (fun h3 => ?_)
  ·
   refine Qa ?_
   refine rk Qb [(4, .o 1216 a0.2)] [4, 6, 16] [] [6] [(2, .val (.o 0 a0.2))] (o1 (Qe (Qde a0.2))) ?_
   refine Qi ?_
   have hr4 : (Xk (Zw name) J3 r 0 ()) = .ret a0.2 := Jq hx0 (Yf h3 (rfl)) hI0
   exact Zb [] (congrArg (fun z => (.o 0 z : AV)) (show Xb r name = a0.2 from Qgl hr4).symm)
  ·
   refine Qh ?_
   refine rk Qb [(9, .i ((k0 + 1 : Nat) : Int))] [6, 9, 16] [] [6] [(0, .val (.i ((k0 + 1 : Nat) : Int)))] (o1 (Qf (Kw (Qs k0 (by omega))))) ?_
   exact Exists.intro () (And.intro (Qc (by kernel_rfl)) (Qw hx0 (Qv h3 (rfl)) hI0))
 ·
  refine Qa ?_
  refine rk Qb [(10, .b false)] [] [] [] [(0, .val (.b false))] (o1 (Qf (Qg (decide_eq_false (p := ((k0 : Nat) : Int) < (r.length : Int)) (by omega))))) ?_
  refine Qa ?_
  refine ckF ?_
  refine Xj ?_
  exact Exists.intro () (And.intro (Qc (by kernel_rfl)) (X9 hk0 (rfl) hI0))
 ·
  refine Qa ?_
  refine rk Qb [] [] [] [] [] (o0) ?_
  refine opn [(false, 4, 0, true, 384000, 1)] ?_
  refine Qi ?_
  exact Zb [] (congrArg (fun z => (.o 0 z : AV)) (show Xb r name = [] from Hk hD0 (rfl)).symm)
def Jt (v : Int) (k0 : Nat) (a0 : Int) (_ : Unit) : Rd (Int) (Unit) (Unit) := (bif (v == a0) then (.ret ((k0 : Nat) : Int)) else (.next ()))
def Vu (_ : Nat) (_ : Unit) : Unit := ()
def Vi (s_ : (List Int)) (v : Int) : Int := (Out.on (Xk (Jt v) Vu s_ 0 ()) (fun _ => -1))
theorem Qh1 (s_ : (List Int)) (v : Int) : ACalls Tryz.prog 191 [.h s_, .i v] (.i (Vi s_ v)) := by
 refine Qn (tt := tt) Qb Tryz.func191 (fn := Tryz.f191) rfl (by unfold Z7; kernel_rfl) (Nat.le_of_ble_eq_true rfl) fun w0 F0 => ?_
 refine Qa ?_
 refine rk Qb [(4, .i 0)] [] [] [] [] (o0) ?_
 refine Qa ?_
 refine Qa ?_
 refine rk Qb [(7, .i (s_.length : Int)), (8, .i 0)] [] [] [] [(1, .val (.i (s_.length : Int)))] (o1 (Qf (Xc s_))) ?_
 refine wdT 0 0 .sh s_ (fun hw1 => ?_)
 have hl2 : List.length s_ ≤ 1073741824 := Qp (hw1)
 refine blk (fun (k0 : Nat) (s0 : Unit) => [(8, .i ((k0 : Nat) : Int))]) [8] (fun k0 s0 => []) [] (fun (y0 : Unit) => []) [0, 1, 7, 8] (fun y0 => []) [] (fun (k0 : Nat) (s0 : Unit) => (Xk (Jt v) Vu s_ 0 ()) = Xk (Jt v) Vu (List.drop k0 s_) k0 s0) (fun (y0 : Unit) => (Xk (Jt v) Vu s_ 0 ()) = .brk y0) s_.length () (Qc (by kernel_rfl)) rfl (fun k0 s0 hk0 hI0 => ?_) (fun k0 s0 hk0 hI0 => ?_) (fun y0 hD0 => ?_)
 ·
  obtain ⟨a0, hx0⟩ := X8 (l := s_) (i := k0) hk0
  refine Qa ?_
  refine rk Qb [(9, .b true)] [] [] [] [(0, .val (.b true))] (o1 (Qf (Qg (decide_eq_true (p := ((k0 : Nat) : Int) < (s_.length : Int)) (by omega))))) ?_
  refine Qa ?_
  refine ckT ?_
  refine Qh ?_
  refine Qa ?_
  refine Q4 ?_
  refine Qa ?_
  refine rk Qb [(5, .i ((k0 : Nat) : Int))] [9] [] [] [] (o0) ?_
  refine Qa ?_
  refine rk Qb [(16, .b (v == a0))] [] [] [] [(3, .row [.i a0])] (o1 (Ql (Xl (i := ((k0 : Nat) : Int)) (by omega) rfl hx0))) ?_
  refine ck (v == a0) (fun h3 => ?_) (fun h3 => ?_)
  ·
   refine Qa ?_
   refine rk Qb [(4, .i ((k0 : Nat) : Int))] [4, 5, 16] [] [] [] (o0) ?_
   refine Qi ?_
   have hr4 : (Xk (Jt v) Vu s_ 0 ()) = .ret ((k0 : Nat) : Int) := Jq hx0 (Yf h3 (rfl)) hI0
   exact Zb [] (congrArg (fun z => (.i z : AV)) (show Vi s_ v = ((k0 : Nat) : Int) from Qgl hr4).symm)
  ·
   have h3d := Zp h3
   refine Qh ?_
   refine rk Qb [(8, .i ((k0 + 1 : Nat) : Int))] [5, 8, 16] [] [] [(0, .val (.i ((k0 + 1 : Nat) : Int)))] (o1 (Qf (Kw (Qs k0 (by omega))))) ?_
   exact Exists.intro () (And.intro (Qc (by kernel_rfl)) (Qw hx0 (Qv h3 (rfl)) hI0))
 ·
  refine Qa ?_
  refine rk Qb [(9, .b false)] [] [] [] [(0, .val (.b false))] (o1 (Qf (Qg (decide_eq_false (p := ((k0 : Nat) : Int) < (s_.length : Int)) (by omega))))) ?_
  refine Qa ?_
  refine ckF ?_
  refine Xj ?_
  exact Exists.intro () (And.intro (Qc (by kernel_rfl)) (X9 hk0 (rfl) hI0))
 ·
  refine Qa ?_
  refine rk Qb [(4, .i (-1))] [4] [] [] [] (o0) ?_
  refine Qi ?_
  exact Zb [] (congrArg (fun z => (.i z : AV)) (show Vi s_ v = -1 from Hk hD0 (rfl)).symm)
def Kr (s_ : (List Int)) (v : Int) : Bool := decide ((Vi s_ v) ≥ (0 : Int))
theorem Qfa (s_ : (List Int)) (v : Int) : ACalls Tryz.prog 156 [.h s_, .i v] (.b (Kr s_ v)) := by
 refine Qn (tt := tt) Qb Tryz.func156 (fn := Tryz.f156) rfl (by unfold Z7; kernel_rfl) (Nat.le_of_ble_eq_true rfl) fun w0 F0 => ?_
 refine Qa ?_
 refine rk Qb [(4, .b false)] [] [] [] [] (o0) ?_
 refine Qa ?_
 refine rk Qb [(4, .b (decide ((Vi s_ v) ≥ (0 : Int))))] [0, 1, 4] [] [] [(2, .val (.i (Vi s_ v)))] (o1 (Qe (Qh1 s_ v))) ?_
 refine Qi ?_
 exact Zb [] (congrArg (fun z => (.b z : AV)) (show Kr s_ v = decide ((Vi s_ v) ≥ (0 : Int)) from rfl).symm)
def Zr (ids : (List Int)) (id : Int) : Bool := (Kr ids id)
theorem Qd6 (ids : (List Int)) (id : Int) : ACalls Tryz.prog 232 [.h ids, .i id] (.b (Zr ids id)) := by
 refine Qn (tt := tt) Qb Tryz.func232 (fn := Tryz.f232) rfl (by unfold Z7; kernel_rfl) (Nat.le_of_ble_eq_true rfl) fun w0 F0 => ?_
 refine Qa ?_
 refine rk Qb [(4, .b false)] [] [] [] [] (o0) ?_
 refine Qa ?_
 refine rk Qb [(4, .b (Kr ids id))] [0, 1, 4] [] [] [(2, .val (.b (Kr ids id)))] (o1 (Qe (Qfa ids id))) ?_
 refine Qi ?_
 exact Zb [] (congrArg (fun z => (.b z : AV)) (show Zr ids id = (Kr ids id) from rfl).symm)
def Qx (n_ : Nat) (q : (List Yq)) (at_ : Int) (f : Yt) (r : (List Qk)) : Bool := match n_ with
 | 0 => default
 | n_ + 1 => (bif ((nth q (Int.toNat at_)).1 == (2 : Int)) then ((X2 f ((nth q (Int.toNat at_)).2.2.2.1)).1 != (0 : Int)) else (bif ((nth q (Int.toNat at_)).1 == (3 : Int)) then (((X2 f ((nth q (Int.toNat at_)).2.2.2.1)).1 == (nth q (Int.toNat at_)).2.2.2.2.1) && (((X2 f ((nth q (Int.toNat at_)).2.2.2.1)).2.1 == (nth q (Int.toNat at_)).2.2.2.2.2.1) && ((((X2 f ((nth q (Int.toNat at_)).2.2.2.1)).2.2).toList == ((nth q (Int.toNat at_)).2.2.2.2.2.2).toList) && true))) else (bif ((nth q (Int.toNat at_)).1 == (4 : Int)) then (((Jf f ((nth q (Int.toNat at_)).2.2.2.1))).2 && decide (((Jf f ((nth q (Int.toNat at_)).2.2.2.1))).1 < (nth q (Int.toNat at_)).2.2.2.2.2.1)) else (bif ((nth q (Int.toNat at_)).1 == (5 : Int)) then (!(Qx n_ q ((nth q (Int.toNat at_)).2.1) f r)) else (bif ((nth q (Int.toNat at_)).1 == (6 : Int)) then ((Qx n_ q ((nth q (Int.toNat at_)).2.1) f r) && (Qx n_ q ((nth q (Int.toNat at_)).2.2.1) f r)) else (bif ((nth q (Int.toNat at_)).1 == (7 : Int)) then ((Qx n_ q ((nth q (Int.toNat at_)).2.1) f r) || (Qx n_ q ((nth q (Int.toNat at_)).2.2.1) f r)) else (bif ((nth q (Int.toNat at_)).1 == (8 : Int)) then (Zr (Xb r ((nth q (Int.toNat at_)).2.2.2.1)) f.1) else (bif ((nth q (Int.toNat at_)).1 == (9 : Int)) then ((f.2.2.2.1 != (0 : Int)) && (Zr (Xb r ((nth q (Int.toNat at_)).2.2.2.1)) f.2.2.2.1)) else true))))))))
theorem Qkj : ∀ (n_ : Nat) (q : (List Yq)) (at_ : Int) (f : Yt) (r : (List Qk)) (hv : Qm q = true) (ha : 0 ≤ at_) (hb : at_ < (q.length : Int)) (hn : at_ < ((n_ : Nat) : Int)), ACalls Tryz.prog 218 [.h q, .i at_, .a [.i f.1, .i f.2.1, .b f.2.2.1, .i f.2.2.2.1, .h f.2.2.2.2], .h r] (.b (Qx n_ q at_ f r)) := by
 intro n_
 induction n_ with
 | zero => intro q at_ f r hv ha hb hn; exact (by omega : False).elim
 | succ n_ ih =>
  intro q at_ f r hv ha hb hn
  refine Qn (tt := tt) Qb Tryz.func218 (fn := Tryz.f218) rfl (by unfold Z7; kernel_rfl) (Nat.le_of_ble_eq_true rfl) fun w0 F0 => ?_
  refine Qa ?_
  refine rk Qb [(6, .p 6 0), (8, .b false)] [2] [(6, [.i f.1, .i f.2.1, .b f.2.2.1, .i f.2.2.2.1, .h f.2.2.2.2])] [] [] (o0) ?_
  refine Qa ?_
  refine wdT 0 0 .sh q (fun hw2 => ?_)
  have hl3 : List.length q ≤ 1073741824 := Qp (hw2)
  have hx1 : q[(Int.toNat at_)]? = some (nth q (Int.toNat at_)) := X3 (by omega)
  refine rk Qb [(9, .p 9 0)] [1] [(9, [.i ((nth q (Int.toNat at_)).1), .i ((nth q (Int.toNat at_)).2.1), .i ((nth q (Int.toNat at_)).2.2.1), .s ((nth q (Int.toNat at_)).2.2.2.1), .i ((nth q (Int.toNat at_)).2.2.2.2.1), .i ((nth q (Int.toNat at_)).2.2.2.2.2.1), .s ((nth q (Int.toNat at_)).2.2.2.2.2.2)])] [] [(2, .row [.i ((nth q (Int.toNat at_)).1), .i ((nth q (Int.toNat at_)).2.1), .i ((nth q (Int.toNat at_)).2.2.1), .s ((nth q (Int.toNat at_)).2.2.2.1), .i ((nth q (Int.toNat at_)).2.2.2.2.1), .i ((nth q (Int.toNat at_)).2.2.2.2.2.1), .s ((nth q (Int.toNat at_)).2.2.2.2.2.2)])] (o1 (Ql (Xl (i := at_) (by omega) rfl hx1))) ?_
  refine Qa ?_
  refine Qa ?_
  refine rk Qb [(17, .i ((nth q (Int.toNat at_)).1))] [] [] [] [] (o0) ?_
  refine Q4 ?_
  refine Qa ?_
  refine rk Qb [(18, .b ((nth q (Int.toNat at_)).1 == (2 : Int)))] [] [] [] [] (o0) ?_
  refine ck ((nth q (Int.toNat at_)).1 == (2 : Int)) (fun h4 => ?_) (fun h4 => ?_)
  ·
   refine Qa ?_
   refine rk Qb [(8, .b ((X2 f ((nth q (Int.toNat at_)).2.2.2.1)).1 != (0 : Int)))] [0, 3, 6, 8, 9, 17, 18] [] [6, 9] [(3, .val (.a [.i ((X2 f ((nth q (Int.toNat at_)).2.2.2.1)).1), .i ((X2 f ((nth q (Int.toNat at_)).2.2.2.1)).2.1), .s ((X2 f ((nth q (Int.toNat at_)).2.2.2.1)).2.2)]))] (o1 (Qe (Qdz f ((nth q (Int.toNat at_)).2.2.2.1)))) ?_
   refine Qi ?_
   exact Zb [] (congrArg (fun z => (.b z : AV)) (show Qx (n_ + 1) q at_ f r = ((X2 f ((nth q (Int.toNat at_)).2.2.2.1)).1 != (0 : Int)) from Yf h4 (rfl)).symm)
  ·
   have h4d := Zp h4
   refine Qa ?_
   refine rk Qb [(26, .b ((nth q (Int.toNat at_)).1 == (3 : Int)))] [18] [] [] [] (o0) ?_
   refine ck ((nth q (Int.toNat at_)).1 == (3 : Int)) (fun h5 => ?_) (fun h5 => ?_)
   ·
    refine Qa ?_
    refine rd' Qb Zv [(8, .b (((X2 f ((nth q (Int.toNat at_)).2.2.2.1)).1 == (nth q (Int.toNat at_)).2.2.2.2.1) && (((X2 f ((nth q (Int.toNat at_)).2.2.2.1)).2.1 == (nth q (Int.toNat at_)).2.2.2.2.2.1) && ((((X2 f ((nth q (Int.toNat at_)).2.2.2.1)).2.2).toList == ((nth q (Int.toNat at_)).2.2.2.2.2.2).toList) && true))))] [0, 3, 6, 8, 9, 17, 26] [] [6, 9] [(3, .val (.a [.i ((X2 f ((nth q (Int.toNat at_)).2.2.2.1)).1), .i ((X2 f ((nth q (Int.toNat at_)).2.2.2.1)).2.1), .s ((X2 f ((nth q (Int.toNat at_)).2.2.2.1)).2.2)]))] (o1 (Qe (Qdz f ((nth q (Int.toNat at_)).2.2.2.1)))) ?_
    refine Qi ?_
    exact Zb [] (congrArg (fun z => (.b z : AV)) (show Qx (n_ + 1) q at_ f r = (((X2 f ((nth q (Int.toNat at_)).2.2.2.1)).1 == (nth q (Int.toNat at_)).2.2.2.2.1) && (((X2 f ((nth q (Int.toNat at_)).2.2.2.1)).2.1 == (nth q (Int.toNat at_)).2.2.2.2.2.1) && ((((X2 f ((nth q (Int.toNat at_)).2.2.2.1)).2.2).toList == ((nth q (Int.toNat at_)).2.2.2.2.2.2).toList) && true))) from Qv h4 (Yf h5 (rfl))).symm)
   ·
    have h5d := Zp h5
    refine Qa ?_
    refine rk Qb [(35, .b ((nth q (Int.toNat at_)).1 == (4 : Int)))] [26] [] [] [] (o0) ?_
    refine ck ((nth q (Int.toNat at_)).1 == (4 : Int)) (fun h6 => ?_) (fun h6 => ?_)
    ·
     refine Qa ?_
     refine rk Qb [(10, .i (((Jf f ((nth q (Int.toNat at_)).2.2.2.1))).1)), (11, .b (((Jf f ((nth q (Int.toNat at_)).2.2.2.1))).2))] [0, 3, 6, 17, 35] [] [6] [(3, .val (.tup [(false, [.i (((Jf f ((nth q (Int.toNat at_)).2.2.2.1))).1)]), (false, [.b (((Jf f ((nth q (Int.toNat at_)).2.2.2.1))).2)])]))] (o1 (Qe (Qnl f ((nth q (Int.toNat at_)).2.2.2.1)))) ?_
     refine Qa ?_
     refine jn [(8, .b (((Jf f ((nth q (Int.toNat at_)).2.2.2.1))).2 && decide (((Jf f ((nth q (Int.toNat at_)).2.2.2.1))).1 < (nth q (Int.toNat at_)).2.2.2.2.2.1)))] [8, 9, 10, 11] [] [9] (((Jf f ((nth q (Int.toNat at_)).2.2.2.1))).2) (fun h7 => ?_) (fun h7 => ?_) ?_
     ·
      refine rk Qb [(8, .b (decide (((Jf f ((nth q (Int.toNat at_)).2.2.2.1))).1 < (nth q (Int.toNat at_)).2.2.2.2.2.1)))] [8, 9, 10, 11] [] [9] [(0, .val (.b true))] (o1 (Qf (Qg h7))) ?_
      exact ⟨rfl, Qc (by rw [h7]; first | done | kernel_rfl)⟩
     ·
      refine rk Qb [] [9, 10, 11] [] [9] [(0, .val (.b false))] (o1 (Qf (Qg h7))) ?_
      exact ⟨rfl, Qc (by rw [h7]; first | done | kernel_rfl)⟩
     refine Qi ?_
     exact Zb [] (congrArg (fun z => (.b z : AV)) (show Qx (n_ + 1) q at_ f r = (((Jf f ((nth q (Int.toNat at_)).2.2.2.1))).2 && decide (((Jf f ((nth q (Int.toNat at_)).2.2.2.1))).1 < (nth q (Int.toNat at_)).2.2.2.2.2.1)) from Qv h4 (Qv h5 (Yf h6 (rfl)))).symm)
    ·
     have h6d := Zp h6
     refine Qa ?_
     refine rk Qb [(52, .b ((nth q (Int.toNat at_)).1 == (5 : Int)))] [35] [] [] [] (o0) ?_
     refine ck ((nth q (Int.toNat at_)).1 == (5 : Int)) (fun h8 => ?_) (fun h8 => ?_)
     ·
      have h8d := eq_of_beq h8
      refine Qa ?_
      refine rk Qb [(8, .b (!(Qx n_ q ((nth q (Int.toNat at_)).2.1) f r)))] [0, 3, 6, 8, 9, 17, 52] [] [6, 9] [(5, .val (.b (Qx n_ q ((nth q (Int.toNat at_)).2.1) f r)))] (o1 (Qe (ih q ((nth q (Int.toNat at_)).2.1) f r hv (by have hz := ql_a hv ha hb h8; omega) (by have hz := ql_a hv ha hb h8; omega) (by have hz := ql_a hv ha hb h8; omega)))) ?_
      refine Qi ?_
      exact Zb [] (congrArg (fun z => (.b z : AV)) (show Qx (n_ + 1) q at_ f r = (!(Qx n_ q ((nth q (Int.toNat at_)).2.1) f r)) from Qv h4 (Qv h5 (Qv h6 (Yf h8 (rfl))))).symm)
     ·
      have h8d := Zp h8
      refine Qa ?_
      refine rk Qb [(61, .b ((nth q (Int.toNat at_)).1 == (6 : Int)))] [52] [] [] [] (o0) ?_
      refine ck ((nth q (Int.toNat at_)).1 == (6 : Int)) (fun h9 => ?_) (fun h9 => ?_)
      ·
       have h9d := eq_of_beq h9
       refine Qa ?_
       refine jn [(8, .b ((Qx n_ q ((nth q (Int.toNat at_)).2.1) f r) && (Qx n_ q ((nth q (Int.toNat at_)).2.2.1) f r)))] [0, 3, 6, 8, 9, 17, 61] [] [6, 9] (Qx n_ q ((nth q (Int.toNat at_)).2.1) f r) (fun h10 => ?_) (fun h10 => ?_) ?_
       ·
        refine rk Qb [(8, .b (Qx n_ q ((nth q (Int.toNat at_)).2.2.1) f r))] [0, 3, 6, 8, 9, 17, 61] [] [6, 9] [(5, .val (.b true)), (12, .val (.b (Qx n_ q ((nth q (Int.toNat at_)).2.2.1) f r)))] (o2 (Qe (cb h10 (ih q ((nth q (Int.toNat at_)).2.1) f r hv (by have hz := Qs6 hv ha hb h9; omega) (by have hz := Qs6 hv ha hb h9; omega) (by have hz := Qs6 hv ha hb h9; omega)))) (o1 (Qe (ih q ((nth q (Int.toNat at_)).2.2.1) f r hv (by have hz := qr_b hv ha hb h9; omega) (by have hz := qr_b hv ha hb h9; omega) (by have hz := qr_b hv ha hb h9; omega))))) ?_
        exact ⟨rfl, Qc (by rw [h10]; first | done | kernel_rfl)⟩
       ·
        refine rk Qb [] [0, 3, 6, 9, 17, 61] [] [6, 9] [(5, .val (.b false))] (o1 (Qe (cb h10 (ih q ((nth q (Int.toNat at_)).2.1) f r hv (by have hz := Qs6 hv ha hb h9; omega) (by have hz := Qs6 hv ha hb h9; omega) (by have hz := Qs6 hv ha hb h9; omega))))) ?_
        exact ⟨rfl, Qc (by rw [h10]; first | done | kernel_rfl)⟩
       refine Qi ?_
       exact Zb [] (congrArg (fun z => (.b z : AV)) (show Qx (n_ + 1) q at_ f r = ((Qx n_ q ((nth q (Int.toNat at_)).2.1) f r) && (Qx n_ q ((nth q (Int.toNat at_)).2.2.1) f r)) from Qv h4 (Qv h5 (Qv h6 (Qv h8 (Yf h9 (rfl)))))).symm)
      ·
       have h9d := Zp h9
       refine Qa ?_
       refine rk Qb [(77, .b ((nth q (Int.toNat at_)).1 == (7 : Int)))] [61] [] [] [] (o0) ?_
       refine ck ((nth q (Int.toNat at_)).1 == (7 : Int)) (fun h11 => ?_) (fun h11 => ?_)
       ·
        have h11d := eq_of_beq h11
        refine Qa ?_
        refine jn [(8, .b ((Qx n_ q ((nth q (Int.toNat at_)).2.1) f r) || (Qx n_ q ((nth q (Int.toNat at_)).2.2.1) f r)))] [0, 3, 6, 8, 9, 17, 77] [] [6, 9] (Qx n_ q ((nth q (Int.toNat at_)).2.1) f r) (fun h12 => ?_) (fun h12 => ?_) ?_
        ·
         refine rk Qb [(8, .b true)] [0, 3, 6, 8, 9, 17, 77] [] [6, 9] [(5, .val (.b true))] (o1 (Qe (cb h12 (ih q ((nth q (Int.toNat at_)).2.1) f r hv (by have hz := Qut hv ha hb h11; omega) (by have hz := Qut hv ha hb h11; omega) (by have hz := Qut hv ha hb h11; omega))))) ?_
         exact ⟨rfl, Qc (by rw [h12]; first | done | kernel_rfl)⟩
        ·
         refine rk Qb [(8, .b (Qx n_ q ((nth q (Int.toNat at_)).2.2.1) f r))] [0, 3, 6, 8, 9, 17, 77] [] [6, 9] [(5, .val (.b false)), (12, .val (.b (Qx n_ q ((nth q (Int.toNat at_)).2.2.1) f r)))] (o2 (Qe (cb h12 (ih q ((nth q (Int.toNat at_)).2.1) f r hv (by have hz := Qut hv ha hb h11; omega) (by have hz := Qut hv ha hb h11; omega) (by have hz := Qut hv ha hb h11; omega)))) (o1 (Qe (ih q ((nth q (Int.toNat at_)).2.2.1) f r hv (by have hz := qr_c hv ha hb h11; omega) (by have hz := qr_c hv ha hb h11; omega) (by have hz := qr_c hv ha hb h11; omega))))) ?_
         exact ⟨rfl, Qc (by rw [h12]; first | done | kernel_rfl)⟩
        refine Qi ?_
        exact Zb [] (congrArg (fun z => (.b z : AV)) (show Qx (n_ + 1) q at_ f r = ((Qx n_ q ((nth q (Int.toNat at_)).2.1) f r) || (Qx n_ q ((nth q (Int.toNat at_)).2.2.1) f r)) from Qv h4 (Qv h5 (Qv h6 (Qv h8 (Qv h9 (Yf h11 (rfl))))))).symm)
       ·
        refine Qa ?_
        refine rk Qb [(93, .b ((nth q (Int.toNat at_)).1 == (8 : Int)))] [0, 77] [] [] [] (o0) ?_
        refine ck ((nth q (Int.toNat at_)).1 == (8 : Int)) (fun h13 => ?_) (fun h13 => ?_)
        ·
         refine Qa ?_
         refine rd' Qb Zv [(8, .b (Zr (Xb r ((nth q (Int.toNat at_)).2.2.2.1)) f.1))] [3, 6, 8, 9, 17, 93] [] [6, 9] [(3, .val (.o 0 (Xb r ((nth q (Int.toNat at_)).2.2.2.1)))), (6, .val (.b (Zr (Xb r ((nth q (Int.toNat at_)).2.2.2.1)) f.1)))] (o2 (Qe (Qa7 r ((nth q (Int.toNat at_)).2.2.2.1))) (o1 (Qe (Qd6 (Xb r ((nth q (Int.toNat at_)).2.2.2.1)) f.1)))) ?_
         refine Qi ?_
         exact Zb [] (congrArg (fun z => (.b z : AV)) (show Qx (n_ + 1) q at_ f r = (Zr (Xb r ((nth q (Int.toNat at_)).2.2.2.1)) f.1) from Qv h4 (Qv h5 (Qv h6 (Qv h8 (Qv h9 (Qv h11 (Yf h13 (rfl)))))))).symm)
        ·
         refine Qa ?_
         refine rk Qb [(102, .b ((nth q (Int.toNat at_)).1 == (9 : Int)))] [17, 93] [] [] [] (o0) ?_
         refine ck ((nth q (Int.toNat at_)).1 == (9 : Int)) (fun h14 => ?_) (fun h14 => ?_)
         ·
          refine Qa ?_
          refine jn [(8, .b ((f.2.2.2.1 != (0 : Int)) && (Zr (Xb r ((nth q (Int.toNat at_)).2.2.2.1)) f.2.2.2.1)))] [3, 6, 8, 9, 102] [] [6, 9] (f.2.2.2.1 != (0 : Int)) (fun h15 => ?_) (fun h15 => ?_) ?_
          ·
           refine rd' Qb Zv [(8, .b (Zr (Xb r ((nth q (Int.toNat at_)).2.2.2.1)) f.2.2.2.1))] [3, 6, 8, 9, 102] [] [6, 9] [(2, .val (.b true)), (7, .val (.o 0 (Xb r ((nth q (Int.toNat at_)).2.2.2.1)))), (10, .val (.b (Zr (Xb r ((nth q (Int.toNat at_)).2.2.2.1)) f.2.2.2.1)))] (o2 (Qf (Qg h15)) (o2 (Qe (Qa7 r ((nth q (Int.toNat at_)).2.2.2.1))) (o1 (Qe (Qd6 (Xb r ((nth q (Int.toNat at_)).2.2.2.1)) f.2.2.2.1))))) ?_
           exact ⟨rfl, Qc (by rw [h15]; first | done | kernel_rfl)⟩
          ·
           refine rd' Qb Zv [] [3, 6, 9, 102] [] [6, 9] [(2, .val (.b false))] (o1 (Qf (Qg h15))) ?_
           exact ⟨rfl, Qc (by rw [h15]; first | done | kernel_rfl)⟩
          refine Qi ?_
          exact Zb [] (congrArg (fun z => (.b z : AV)) (show Qx (n_ + 1) q at_ f r = ((f.2.2.2.1 != (0 : Int)) && (Zr (Xb r ((nth q (Int.toNat at_)).2.2.2.1)) f.2.2.2.1)) from Qv h4 (Qv h5 (Qv h6 (Qv h8 (Qv h9 (Qv h11 (Qv h13 (Yf h14 (rfl))))))))).symm)
         ·
          refine Qh ?_
          refine Qa ?_
          refine rk Qb [(8, .b true)] [3, 6, 8, 9, 102] [] [6, 9] [] (o0) ?_
          refine Qi ?_
          exact Zb [] (congrArg (fun z => (.b z : AV)) (show Qx (n_ + 1) q at_ f r = true from Qv h4 (Qv h5 (Qv h6 (Qv h8 (Qv h9 (Qv h11 (Qv h13 (Qv h14 (rfl))))))))).symm)
def Ks (q : (List Yq)) (f : Yt) (r : (List Qk)) : Bool := ((Qm q) && (Qx (List.length q) q ((q.length : Int) - 1) f r))
theorem Qnm (q : (List Yq)) (f : Yt) (r : (List Qk)) : ACalls Tryz.prog 206 [.h q, .a [.i f.1, .i f.2.1, .b f.2.2.1, .i f.2.2.2.1, .h f.2.2.2.2], .h r] (.b (Ks q f r)) := by
 refine Qn (tt := tt) Qb Tryz.func206 (fn := Tryz.f206) rfl (by unfold Z7; kernel_rfl) (Nat.le_of_ble_eq_true rfl) fun w0 F0 => ?_
 refine Qa ?_
 refine rk Qb [(4, .p 4 0), (6, .b false)] [1] [(4, [.i f.1, .i f.2.1, .b f.2.2.1, .i f.2.2.2.1, .h f.2.2.2.2])] [] [] (o0) ?_
 refine Qa ?_
 refine jn [(6, .b ((Qm q) && (Qx (List.length q) q ((q.length : Int) - 1) f r)))] [0, 2, 4, 6] [] [4] (Qm q) (fun h1 => ?_) (fun h1 => ?_) ?_
 ·
  refine wdT 0 0 .sh q (fun hw2 => ?_)
  have hl3 : List.length q ≤ 1073741824 := Qp (hw2)
  refine rk Qb [(6, .b (Qx (List.length q) q ((q.length : Int) - 1) f r))] [0, 2, 4, 6] [] [4] [(1, .val (.b true)), (5, .val (.i (q.length : Int))), (6, .val (.i ((q.length : Int) - 1))), (9, .val (.b (Qx (List.length q) q ((q.length : Int) - 1) f r)))] (o2 (Qe (cb h1 (Wz q))) (o2 (Qf (Xc q)) (o2 (Qf (Kw (IntWalk.i64_in ((q.length : Int) - 1) (by omega)))) (o1 (Qe (Qkj (List.length q) q ((q.length : Int) - 1) f r h1 (by have := Qj6 h1; omega) (by omega) (by omega))))))) ?_
  exact ⟨rfl, Qc (by rw [h1]; first | done | kernel_rfl)⟩
 ·
  refine rk Qb [] [0, 2, 4] [] [4] [(1, .val (.b false))] (o1 (Qe (cb h1 (Wz q)))) ?_
  exact ⟨rfl, Qc (by rw [h1]; first | done | kernel_rfl)⟩
 refine Qi ?_
 exact Zb [] (congrArg (fun z => (.b z : AV)) (show Ks q f r = ((Qm q) && (Qx (List.length q) q ((q.length : Int) - 1) f r)) from rfl).symm)
def Kt (q : (List Yq)) (r : (List Qk)) (_ : Nat) (a0 : Yt) (s0 : (List Int)) : Rd ((List Int)) ((List Int)) ((List Int)) := (bif (Ks q a0 r) then (.next (s0 ++ [a0.1])) else (.next s0))
def W1 (_ : Nat) (s0 : (List Int)) : (List Int) := s0
def Xy (s_ : X7) (q : (List Yq)) (r : (List Qk)) : (List Int) := (Out.on (Xk (Kt q r) W1 s_.2.1 0 []) (fun y0 => y0))
theorem Qh2 (s_ : X7) (q : (List Yq)) (r : (List Qk)) : ACalls Tryz.prog 178 [.a [.h s_.1, .h s_.2.1, .i s_.2.2], .h q, .h r] (.o 0 (Xy s_ q r)) := by
 refine Qn (tt := tt) Qb Tryz.func178 (fn := Tryz.f178) rfl (by unfold Z7; kernel_rfl) (Nat.le_of_ble_eq_true rfl) fun w0 F0 => ?_
 refine Qa ?_
 refine rk Qb [(3, .p 3 0), (6, .e 0)] [0] [(3, [.h s_.1, .h s_.2.1, .i s_.2.2])] [] [] (o0) ?_
 refine Qa ?_
 refine rk Qb [(7, .one (.slc (.own true 640) 1 []))] [] [] [] [] (o0) ?_
 refine Qa ?_
 refine Qa ?_
 refine rk Qb [(12, .h s_.2.1), (13, .i (s_.2.1.length : Int)), (14, .i 0)] [3] [] [3] [(2, .val (.i (s_.2.1.length : Int)))] (o1 (Qf (Xc s_.2.1))) ?_
 refine wdT 12 0 .sh s_.2.1 (fun hw1 => ?_)
 have hl2 : List.length s_.2.1 ≤ 1073741824 := Qp (hw1)
 refine blk (fun (k0 : Nat) (s0 : (List Int)) => [(7, .o 147203 s0), (14, .i ((k0 : Nat) : Int))]) [7, 14] (fun k0 s0 => []) [] (fun (y0 : (List Int)) => [(7, .o 147353 y0)]) [1, 2, 7, 12, 13, 14] (fun y0 => []) [] (fun (k0 : Nat) (s0 : (List Int)) => (Xk (Kt q r) W1 s_.2.1 0 []) = Xk (Kt q r) W1 (List.drop k0 s_.2.1) k0 s0 ∧ List.length s0 ≤ k0) (fun (y0 : (List Int)) => (Xk (Kt q r) W1 s_.2.1 0 []) = .brk y0) s_.2.1.length [] (Zg [(640, 147203)] (by kernel_rfl)) ⟨rfl, (by simp)⟩ (fun k0 s0 hk0 hI0 => ?_) (fun k0 s0 hk0 hI0 => ?_) (fun y0 hD0 => ?_)
 ·
  have hA0_0 := hI0.2
  obtain ⟨a0, hx0⟩ := X8 (l := s_.2.1) (i := k0) hk0
  refine Qa ?_
  refine rk Qb [(15, .b true)] [] [] [] [(0, .val (.b true))] (o1 (Qf (Qg (decide_eq_true (p := ((k0 : Nat) : Int) < (s_.2.1.length : Int)) (by omega))))) ?_
  refine Qa ?_
  refine ckT ?_
  refine Qh ?_
  refine Qa ?_
  refine Q4 ?_
  refine Qa ?_
  refine rk Qb [(9, .p 9 0)] [15] [(9, [.i a0.1, .i a0.2.1, .b a0.2.2.1, .i a0.2.2.2.1, .h a0.2.2.2.2])] [] [(0, .row [.i a0.1, .i a0.2.1, .b a0.2.2.1, .i a0.2.2.2.1, .h a0.2.2.2.2])] (o1 (Ql (Xl (i := ((k0 : Nat) : Int)) (by omega) rfl hx0))) ?_
  refine Qa ?_
  refine rk Qb [(21, .b (Ks q a0 r))] [] [] [] [(3, .val (.b (Ks q a0 r)))] (o1 (Qe (Qnm q a0 r))) ?_
  refine ck (Ks q a0 r) (fun h3 => ?_) (fun h3 => ?_)
  ·
   refine wdT 7 0 (.own true 147203) s0 (fun hw4 => ?_)
   have hl5 : List.length s0 ≤ 1073741824 := Qp (hw4)
   refine rk Qb [(7, .one (.slc (.own true 1664) 1 ((eL s0) ++ [[.i a0.1]])))] [7, 9, 21] [] [9] [] (o1 (V8 (Wq (Xa s0) (Xa [a0.1]) (by first | omega | (simp; omega) | simp)))) ?_
   refine eqn [(7, .o 1664 (s0 ++ [a0.1]))] [7] [] [] (by rw [show ((eL s0) ++ [[.i a0.1]]) = (eL (s0 ++ [a0.1])) from Qaw (rfl) (rfl)]; first | done | kernel_rfl) ?_
   refine rk Qb [(14, .i ((k0 + 1 : Nat) : Int))] [14] [] [] [(0, .val (.i ((k0 + 1 : Nat) : Int)))] (o1 (Qf (Kw (Qs k0 (by omega))))) ?_
   exact Exists.intro (s0 ++ [a0.1]) (And.intro (Zg [(1664, 147203)] (by kernel_rfl)) ⟨Qw hx0 (Yf h3 (rfl)) hI0.1, by first | omega | (simp; omega) | simp⟩)
  ·
   refine Qh ?_
   refine rk Qb [(14, .i ((k0 + 1 : Nat) : Int))] [9, 14, 21] [] [9] [(0, .val (.i ((k0 + 1 : Nat) : Int)))] (o1 (Qf (Kw (Qs k0 (by omega))))) ?_
   exact Exists.intro s0 (And.intro (Qc (by kernel_rfl)) ⟨Qw hx0 (Qv h3 (rfl)) hI0.1, by first | omega | (simp; omega) | simp⟩)
 ·
  have hA0_0 := hI0.2
  refine Qa ?_
  refine rk Qb [(15, .b false)] [] [] [] [(0, .val (.b false))] (o1 (Qf (Qg (decide_eq_false (p := ((k0 : Nat) : Int) < (s_.2.1.length : Int)) (by omega))))) ?_
  refine Qa ?_
  refine ckF ?_
  refine Xj ?_
  exact Exists.intro s0 (And.intro (Zg [(147203, 147353)] (by kernel_rfl)) (X9 hk0 (rfl) hI0.1))
 ·
  refine Qa ?_
  refine rk Qb [(6, .o 147353 y0)] [6, 7] [] [] [] (o0) ?_
  refine Qi ?_
  exact Zb [] (congrArg (fun z => (.o 0 z : AV)) (show Xy s_ q r = y0 from Hk hD0 (rfl)).symm)
def H8 (name : ByteArray) (_ : Nat) (a0 : Qdd) (_ : Unit) : Rd (H5) (Unit) (Unit) := (bif (a0.1.toList == name.toList) then (.ret a0.2) else (.next ()))
def H9 (_ : Nat) (_ : Unit) : Unit := ()
def Yc (f : Yt) (name : ByteArray) : H5 := (Out.on (Xk (H8 name) H9 f.2.2.2.2 0 ()) (fun _ => (0, 0, ⟨#[]⟩)))
theorem Qnn (f : Yt) (name : ByteArray) : ACalls Tryz.prog 222 [.a [.i f.1, .i f.2.1, .b f.2.2.1, .i f.2.2.2.1, .h f.2.2.2.2], .s name] (.a [.i ((Yc f name).1), .i ((Yc f name).2.1), .s ((Yc f name).2.2)]) := by
 refine Qn (tt := tt) Qb Tryz.func222 (fn := Tryz.f222) rfl (by unfold Z7; kernel_rfl) (Nat.le_of_ble_eq_true rfl) fun w0 F0 => ?_
 refine Qa ?_
 refine rk Qb [(2, .p 2 0), (4, .p 4 0)] [0] [(2, [.i f.1, .i f.2.1, .b f.2.2.1, .i f.2.2.2.1, .h f.2.2.2.2]), (4, [.i 0, .i 0, .s ⟨#[]⟩])] [] [] (o0) ?_
 refine Qa ?_
 refine Qa ?_
 refine rk Qb [(5, .i 0)] [] [] [] [] (o0) ?_
 refine wdB 2 4 .sh f.2.2.2.2 (fun hw1 => ?_)
 have hl2 : List.length f.2.2.2.2 ≤ 1073741824 := Qp (hw1)
 refine blk (fun (k0 : Nat) (s0 : Unit) => [(5, .i ((k0 : Nat) : Int))]) [5] (fun k0 s0 => []) [] (fun (y0 : Unit) => []) [1, 2, 5] (fun y0 => []) [2] (fun (k0 : Nat) (s0 : Unit) => (Xk (H8 name) H9 f.2.2.2.2 0 ()) = Xk (H8 name) H9 (List.drop k0 f.2.2.2.2) k0 s0) (fun (y0 : Unit) => (Xk (H8 name) H9 f.2.2.2.2 0 ()) = .brk y0) f.2.2.2.2.length () (Qc (by kernel_rfl)) rfl (fun k0 s0 hk0 hI0 => ?_) (fun k0 s0 hk0 hI0 => ?_) (fun y0 hD0 => ?_)
 ·
  obtain ⟨a0, hx0⟩ := X8 (l := f.2.2.2.2) (i := k0) hk0
  refine Qa ?_
  refine Qa ?_
  refine rk Qb [(10, .b true)] [] [] [] [(3, .val (.i (f.2.2.2.2.length : Int))), (4, .val (.b true))] (o2 (Qf (Xc f.2.2.2.2)) (o1 (Qf (Qg (decide_eq_true (p := ((k0 : Nat) : Int) < (f.2.2.2.2.length : Int)) (by omega)))))) ?_
  refine ckT ?_
  refine Qh ?_
  refine Qa ?_
  refine Q4 ?_
  refine Qa ?_
  refine rk Qb [(20, .b (a0.1.toList == name.toList))] [10] [] [] [(3, .row [.s a0.1, .i a0.2.1, .i a0.2.2.1, .s a0.2.2.2])] (o1 (Ql (Xl (i := ((k0 : Nat) : Int)) (by omega) rfl hx0))) ?_
  refine ck (a0.1.toList == name.toList) (fun h3 => ?_) (fun h3 => ?_)
  ·
   refine Qa ?_
   refine rk Qb [] [20] [(4, [.i a0.2.1, .i a0.2.2.1, .s a0.2.2.2])] [4] [(3, .row [.s a0.1, .i a0.2.1, .i a0.2.2.1, .s a0.2.2.2])] (o1 (Ql (Xl (i := ((k0 : Nat) : Int)) (by omega) rfl hx0))) ?_
   refine Qi ?_
   have hr4 : (Xk (H8 name) H9 f.2.2.2.2 0 ()) = .ret a0.2 := Jq hx0 (Yf h3 (rfl)) hI0
   exact Zb [] (congrArg (fun z => (.a [.i z.1, .i z.2.1, .s z.2.2] : AV)) (show Yc f name = a0.2 from Qgl hr4).symm)
  ·
   refine Qh ?_
   refine rk Qb [(5, .i ((k0 + 1 : Nat) : Int))] [5, 20] [] [] [(1, .val (.i ((k0 + 1 : Nat) : Int)))] (o1 (Qf (Kw (Qs k0 (by omega))))) ?_
   exact Exists.intro () (And.intro (Qc (by kernel_rfl)) (Qw hx0 (Qv h3 (rfl)) hI0))
 ·
  refine Qa ?_
  refine Qa ?_
  refine rk Qb [(10, .b false)] [] [] [] [(3, .val (.i (f.2.2.2.2.length : Int))), (4, .val (.b false))] (o2 (Qf (Xc f.2.2.2.2)) (o1 (Qf (Qg (decide_eq_false (p := ((k0 : Nat) : Int) < (f.2.2.2.2.length : Int)) (by omega)))))) ?_
  refine ckF ?_
  refine Xj ?_
  exact Exists.intro () (And.intro (Qc (by kernel_rfl)) (X9 hk0 (rfl) hI0))
 ·
  refine Qa ?_
  refine rk Qb [] [] [] [] [] (o0) ?_
  refine Qi ?_
  exact Zb [] (congrArg (fun z => (.a [.i z.1, .i z.2.1, .s z.2.2] : AV)) (show Yc f name = (0, 0, ⟨#[]⟩) from Hk hD0 (rfl)).symm)
def Us (name : ByteArray) (_ : Nat) (a0 : Qk) (_ : Unit) : Rd ((List Int)) (Unit) (Unit) := (bif (a0.1.toList == name.toList) then (.ret a0.2) else (.next ()))
def Ut (_ : Nat) (_ : Unit) : Unit := ()
def Yz (a_ : (List Qk)) (name : ByteArray) : (List Int) := (Out.on (Xk (Us name) Ut a_ 0 ()) (fun _ => []))
theorem Qcu (a_ : (List Qk)) (name : ByteArray) : ACalls Tryz.prog 103 [.h a_, .s name] (.o 0 (Yz a_ name)) := by
 refine Qn (tt := tt) Qb Tryz.func103 (fn := Tryz.f103) rfl (by unfold Z7; kernel_rfl) (Nat.le_of_ble_eq_true rfl) fun w0 F0 => ?_
 refine Qa ?_
 refine rk Qb [(4, .e 0)] [] [] [] [] (o0) ?_
 refine Qa ?_
 refine Qa ?_
 refine rk Qb [(5, .i 0)] [] [] [] [] (o0) ?_
 refine wdT 0 0 .sh a_ (fun hw1 => ?_)
 have hl2 : List.length a_ ≤ 1073741824 := Qp (hw1)
 refine blk (fun (k0 : Nat) (s0 : Unit) => [(5, .i ((k0 : Nat) : Int))]) [5] (fun k0 s0 => []) [] (fun (y0 : Unit) => []) [0, 1, 5] (fun y0 => []) [] (fun (k0 : Nat) (s0 : Unit) => (Xk (Us name) Ut a_ 0 ()) = Xk (Us name) Ut (List.drop k0 a_) k0 s0) (fun (y0 : Unit) => (Xk (Us name) Ut a_ 0 ()) = .brk y0) a_.length () (Qc (by kernel_rfl)) rfl (fun k0 s0 hk0 hI0 => ?_) (fun k0 s0 hk0 hI0 => ?_) (fun y0 hD0 => ?_)
 ·
  obtain ⟨a0, hx0⟩ := X8 (l := a_) (i := k0) hk0
  refine Qa ?_
  refine Qa ?_
  refine rk Qb [(9, .b true)] [] [] [] [(2, .val (.i (a_.length : Int))), (3, .val (.b true))] (o2 (Qf (Xc a_)) (o1 (Qf (Qg (decide_eq_true (p := ((k0 : Nat) : Int) < (a_.length : Int)) (by omega)))))) ?_
  refine ckT ?_
  refine Qh ?_
  refine Qa ?_
  refine Q4 ?_
  refine Qa ?_
  refine rk Qb [(18, .b (a0.1.toList == name.toList))] [9] [] [] [(2, .row [.s a0.1, .h a0.2])] (o1 (Ql (Xl (i := ((k0 : Nat) : Int)) (by omega) rfl hx0))) ?_
  refine ck (a0.1.toList == name.toList) (fun h3 => ?_) (fun h3 => ?_)
  ·
   refine Qa ?_
   have hl4 : List.length a0.2 ≤ 1073741824 := Qp (Qi0 (Qm4 hx0 (hw1)))
   refine rk Qb [(4, .o 1600 a0.2)] [4, 18] [] [] [(3, .row [.s a0.1, .h a0.2]), (6, .flat)] (o2 (Ql (Xl (i := ((k0 : Nat) : Int)) (by omega) rfl hx0)) (o2 (V8 (n := (([] : List (List PV)).length + ((eL a0.2) : List (List PV)).length)) (Wq (rfl) (Xa a0.2) (by first | omega | (simp; omega) | simp))) (o1 (Qam (Hx a0.2))))) ?_
   refine Qi ?_
   have hr5 : (Xk (Us name) Ut a_ 0 ()) = .ret a0.2 := Jq hx0 (Yf h3 (rfl)) hI0
   exact Zb [] (congrArg (fun z => (.o 0 z : AV)) (show Yz a_ name = a0.2 from Qgl hr5).symm)
  ·
   refine Qh ?_
   refine rk Qb [(5, .i ((k0 + 1 : Nat) : Int))] [5, 18] [] [] [(1, .val (.i ((k0 + 1 : Nat) : Int)))] (o1 (Qf (Kw (Qs k0 (by omega))))) ?_
   exact Exists.intro () (And.intro (Qc (by kernel_rfl)) (Qw hx0 (Qv h3 (rfl)) hI0))
 ·
  refine Qa ?_
  refine Qa ?_
  refine rk Qb [(9, .b false)] [] [] [] [(2, .val (.i (a_.length : Int))), (3, .val (.b false))] (o2 (Qf (Xc a_)) (o1 (Qf (Qg (decide_eq_false (p := ((k0 : Nat) : Int) < (a_.length : Int)) (by omega)))))) ?_
  refine ckF ?_
  refine Xj ?_
  exact Exists.intro () (And.intro (Qc (by kernel_rfl)) (X9 hk0 (rfl) hI0))
 ·
  refine Qa ?_
  refine rk Qb [(4, .one (.slc (.own true 1664) 1 []))] [4] [] [] [] (o0) ?_
  refine Qi ?_
  exact Zb [] (congrArg (fun z => (.o 0 z : AV)) (show Yz a_ name = [] from Hk hD0 (rfl)).symm)
def Zz (id : Int) (_ : Nat) (a0 : Int) (_ : Unit) : Rd (Bool) (Unit) (Unit) := (bif (a0 == id) then (.ret true) else (.next ()))
def K5 (_ : Nat) (_ : Unit) : Unit := ()
def Xo (ids : (List Int)) (id : Int) : Bool := (Out.on (Xk (Zz id) K5 ids 0 ()) (fun _ => false))
theorem Uu (ids : (List Int)) (id : Int) : ACalls Tryz.prog 108 [.h ids, .i id] (.b (Xo ids id)) := by
 refine Qn (tt := tt) Qb Tryz.func108 (fn := Tryz.f108) rfl (by unfold Z7; kernel_rfl) (Nat.le_of_ble_eq_true rfl) fun w0 F0 => ?_
 refine Qa ?_
 refine rk Qb [(4, .b false)] [] [] [] [] (o0) ?_
 refine Qa ?_
 refine Qa ?_
 refine rk Qb [(5, .i 0)] [] [] [] [] (o0) ?_
 refine wdT 0 0 .sh ids (fun hw1 => ?_)
 have hl2 : List.length ids ≤ 1073741824 := Qp (hw1)
 refine blk (fun (k0 : Nat) (s0 : Unit) => [(5, .i ((k0 : Nat) : Int))]) [5] (fun k0 s0 => []) [] (fun (y0 : Unit) => []) [0, 1, 5] (fun y0 => []) [] (fun (k0 : Nat) (s0 : Unit) => (Xk (Zz id) K5 ids 0 ()) = Xk (Zz id) K5 (List.drop k0 ids) k0 s0) (fun (y0 : Unit) => (Xk (Zz id) K5 ids 0 ()) = .brk y0) ids.length () (Qc (by kernel_rfl)) rfl (fun k0 s0 hk0 hI0 => ?_) (fun k0 s0 hk0 hI0 => ?_) (fun y0 hD0 => ?_)
 ·
  obtain ⟨a0, hx0⟩ := X8 (l := ids) (i := k0) hk0
  refine Qa ?_
  refine Qa ?_
  refine rk Qb [(9, .b true)] [] [] [] [(2, .val (.i (ids.length : Int))), (3, .val (.b true))] (o2 (Qf (Xc ids)) (o1 (Qf (Qg (decide_eq_true (p := ((k0 : Nat) : Int) < (ids.length : Int)) (by omega)))))) ?_
  refine ckT ?_
  refine Qh ?_
  refine Qa ?_
  refine Q4 ?_
  refine Qa ?_
  refine rk Qb [(17, .b (a0 == id))] [9] [] [] [(2, .row [.i a0])] (o1 (Ql (Xl (i := ((k0 : Nat) : Int)) (by omega) rfl hx0))) ?_
  refine ck (a0 == id) (fun h3 => ?_) (fun h3 => ?_)
  ·
   refine Qa ?_
   refine rk Qb [(4, .b true)] [4, 17] [] [] [] (o0) ?_
   refine Qi ?_
   have hr4 : (Xk (Zz id) K5 ids 0 ()) = .ret true := Jq hx0 (Yf h3 (rfl)) hI0
   exact Zb [] (congrArg (fun z => (.b z : AV)) (show Xo ids id = true from Qgl hr4).symm)
  ·
   have h3d := Zp h3
   refine Qh ?_
   refine rk Qb [(5, .i ((k0 + 1 : Nat) : Int))] [5, 17] [] [] [(1, .val (.i ((k0 + 1 : Nat) : Int)))] (o1 (Qf (Kw (Qs k0 (by omega))))) ?_
   exact Exists.intro () (And.intro (Qc (by kernel_rfl)) (Qw hx0 (Qv h3 (rfl)) hI0))
 ·
  refine Qa ?_
  refine Qa ?_
  refine rk Qb [(9, .b false)] [] [] [] [(2, .val (.i (ids.length : Int))), (3, .val (.b false))] (o2 (Qf (Xc ids)) (o1 (Qf (Qg (decide_eq_false (p := ((k0 : Nat) : Int) < (ids.length : Int)) (by omega)))))) ?_
  refine ckF ?_
  refine Xj ?_
  exact Exists.intro () (And.intro (Qc (by kernel_rfl)) (X9 hk0 (rfl) hI0))
 ·
  refine Qa ?_
  refine rk Qb [] [] [] [] [] (o0) ?_
  refine Qi ?_
  exact Zb [] (congrArg (fun z => (.b z : AV)) (show Xo ids id = false from Hk hD0 (rfl)).symm)
def Xt (n_ : Nat) (q : (List Yq)) (at_ : Int) (f : Yt) (a_ : (List Qk)) : Bool := match n_ with
 | 0 => default
 | n_ + 1 => (bif ((nth q (Int.toNat at_)).1 == (1 : Int)) then true else (bif ((nth q (Int.toNat at_)).1 == (2 : Int)) then ((Yc f ((nth q (Int.toNat at_)).2.2.2.1)).1 != (0 : Int)) else (bif ((nth q (Int.toNat at_)).1 == (3 : Int)) then (((Yc f ((nth q (Int.toNat at_)).2.2.2.1)).1 == (nth q (Int.toNat at_)).2.2.2.2.1) && (((Yc f ((nth q (Int.toNat at_)).2.2.2.1)).2.1 == (nth q (Int.toNat at_)).2.2.2.2.2.1) && ((((Yc f ((nth q (Int.toNat at_)).2.2.2.1)).2.2).toList == ((nth q (Int.toNat at_)).2.2.2.2.2.2).toList) && true))) else (bif ((nth q (Int.toNat at_)).1 == (4 : Int)) then (((Yc f ((nth q (Int.toNat at_)).2.2.2.1)).1 == (1 : Int)) && decide ((Yc f ((nth q (Int.toNat at_)).2.2.2.1)).2.1 < (nth q (Int.toNat at_)).2.2.2.2.2.1)) else (bif ((nth q (Int.toNat at_)).1 == (5 : Int)) then (!(Xt n_ q ((nth q (Int.toNat at_)).2.1) f a_)) else (bif ((nth q (Int.toNat at_)).1 == (6 : Int)) then ((Xt n_ q ((nth q (Int.toNat at_)).2.1) f a_) && (Xt n_ q ((nth q (Int.toNat at_)).2.2.1) f a_)) else (bif ((nth q (Int.toNat at_)).1 == (7 : Int)) then ((Xt n_ q ((nth q (Int.toNat at_)).2.1) f a_) || (Xt n_ q ((nth q (Int.toNat at_)).2.2.1) f a_)) else (bif ((nth q (Int.toNat at_)).1 == (8 : Int)) then (Xo (Yz a_ ((nth q (Int.toNat at_)).2.2.2.1)) f.1) else ((f.2.2.2.1 != (0 : Int)) && (Xo (Yz a_ ((nth q (Int.toNat at_)).2.2.2.1)) f.2.2.2.1))))))))))
theorem Qno : ∀ (n_ : Nat) (q : (List Yq)) (at_ : Int) (f : Yt) (a_ : (List Qk)) (hv : Qm q = true) (ha : 0 ≤ at_) (hb : at_ < (q.length : Int)) (hn : at_ < ((n_ : Nat) : Int)), ACalls Tryz.prog 213 [.h q, .i at_, .a [.i f.1, .i f.2.1, .b f.2.2.1, .i f.2.2.2.1, .h f.2.2.2.2], .h a_] (.b (Xt n_ q at_ f a_)) := by
 intro n_
 induction n_ with
 | zero => intro q at_ f a_ hv ha hb hn; exact (by omega : False).elim
 | succ n_ ih =>
  intro q at_ f a_ hv ha hb hn
  refine Qn (tt := tt) Qb Tryz.func213 (fn := Tryz.f213) rfl (by unfold Z7; kernel_rfl) (Nat.le_of_ble_eq_true rfl) fun w0 F0 => ?_
  refine Qa ?_
  refine rk Qb [(6, .p 6 0), (8, .b false)] [2] [(6, [.i f.1, .i f.2.1, .b f.2.2.1, .i f.2.2.2.1, .h f.2.2.2.2])] [] [] (o0) ?_
  refine Qa ?_
  refine wdT 0 0 .sh q (fun hw2 => ?_)
  have hl3 : List.length q ≤ 1073741824 := Qp (hw2)
  have hx1 : q[(Int.toNat at_)]? = some (nth q (Int.toNat at_)) := X3 (by omega)
  refine rk Qb [(9, .p 9 0)] [1] [(9, [.i ((nth q (Int.toNat at_)).1), .i ((nth q (Int.toNat at_)).2.1), .i ((nth q (Int.toNat at_)).2.2.1), .s ((nth q (Int.toNat at_)).2.2.2.1), .i ((nth q (Int.toNat at_)).2.2.2.2.1), .i ((nth q (Int.toNat at_)).2.2.2.2.2.1), .s ((nth q (Int.toNat at_)).2.2.2.2.2.2)])] [] [(2, .row [.i ((nth q (Int.toNat at_)).1), .i ((nth q (Int.toNat at_)).2.1), .i ((nth q (Int.toNat at_)).2.2.1), .s ((nth q (Int.toNat at_)).2.2.2.1), .i ((nth q (Int.toNat at_)).2.2.2.2.1), .i ((nth q (Int.toNat at_)).2.2.2.2.2.1), .s ((nth q (Int.toNat at_)).2.2.2.2.2.2)])] (o1 (Ql (Xl (i := at_) (by omega) rfl hx1))) ?_
  refine Qa ?_
  refine rk Qb [(10, .p 10 0)] [] [(10, [.i ((Yc f ((nth q (Int.toNat at_)).2.2.2.1)).1), .i ((Yc f ((nth q (Int.toNat at_)).2.2.2.1)).2.1), .s ((Yc f ((nth q (Int.toNat at_)).2.2.2.1)).2.2)])] [] [(3, .val (.a [.i ((Yc f ((nth q (Int.toNat at_)).2.2.2.1)).1), .i ((Yc f ((nth q (Int.toNat at_)).2.2.2.1)).2.1), .s ((Yc f ((nth q (Int.toNat at_)).2.2.2.1)).2.2)]))] (o1 (Qe (Qnn f ((nth q (Int.toNat at_)).2.2.2.1)))) ?_
  refine Qa ?_
  refine Qa ?_
  refine rk Qb [(20, .i ((nth q (Int.toNat at_)).1))] [] [] [] [] (o0) ?_
  refine Q4 ?_
  refine Qa ?_
  refine rk Qb [(21, .b ((nth q (Int.toNat at_)).1 == (1 : Int)))] [] [] [] [] (o0) ?_
  refine ck ((nth q (Int.toNat at_)).1 == (1 : Int)) (fun h4 => ?_) (fun h4 => ?_)
  ·
   refine Qa ?_
   refine rk Qb [(8, .b true)] [0, 8, 10, 20, 21] [] [10] [] (o0) ?_
   refine Qi ?_
   exact Zb [] (congrArg (fun z => (.b z : AV)) (show Xt (n_ + 1) q at_ f a_ = true from Yf h4 (rfl)).symm)
  ·
   have h4d := Zp h4
   refine Qa ?_
   refine rk Qb [(23, .b ((nth q (Int.toNat at_)).1 == (2 : Int)))] [21] [] [] [] (o0) ?_
   refine ck ((nth q (Int.toNat at_)).1 == (2 : Int)) (fun h5 => ?_) (fun h5 => ?_)
   ·
    refine Qa ?_
    refine rk Qb [(8, .b ((Yc f ((nth q (Int.toNat at_)).2.2.2.1)).1 != (0 : Int)))] [0, 8, 10, 20, 23] [] [10] [] (o0) ?_
    refine Qi ?_
    exact Zb [] (congrArg (fun z => (.b z : AV)) (show Xt (n_ + 1) q at_ f a_ = ((Yc f ((nth q (Int.toNat at_)).2.2.2.1)).1 != (0 : Int)) from Qv h4 (Yf h5 (rfl))).symm)
   ·
    have h5d := Zp h5
    refine Qa ?_
    refine rk Qb [(28, .b ((nth q (Int.toNat at_)).1 == (3 : Int)))] [23] [] [] [] (o0) ?_
    refine ck ((nth q (Int.toNat at_)).1 == (3 : Int)) (fun h6 => ?_) (fun h6 => ?_)
    ·
     refine Qa ?_
     refine rk Qb [(8, .b (((Yc f ((nth q (Int.toNat at_)).2.2.2.1)).1 == (nth q (Int.toNat at_)).2.2.2.2.1) && (((Yc f ((nth q (Int.toNat at_)).2.2.2.1)).2.1 == (nth q (Int.toNat at_)).2.2.2.2.2.1) && ((((Yc f ((nth q (Int.toNat at_)).2.2.2.1)).2.2).toList == ((nth q (Int.toNat at_)).2.2.2.2.2.2).toList) && true))))] [0, 8, 10, 20, 28] [] [10] [] (o0) ?_
     refine Qi ?_
     exact Zb [] (congrArg (fun z => (.b z : AV)) (show Xt (n_ + 1) q at_ f a_ = (((Yc f ((nth q (Int.toNat at_)).2.2.2.1)).1 == (nth q (Int.toNat at_)).2.2.2.2.1) && (((Yc f ((nth q (Int.toNat at_)).2.2.2.1)).2.1 == (nth q (Int.toNat at_)).2.2.2.2.2.1) && ((((Yc f ((nth q (Int.toNat at_)).2.2.2.1)).2.2).toList == ((nth q (Int.toNat at_)).2.2.2.2.2.2).toList) && true))) from Qv h4 (Qv h5 (Yf h6 (rfl)))).symm)
    ·
     have h6d := Zp h6
     refine Qa ?_
     refine rk Qb [(34, .b ((nth q (Int.toNat at_)).1 == (4 : Int)))] [28] [] [] [] (o0) ?_
     refine ck ((nth q (Int.toNat at_)).1 == (4 : Int)) (fun h7 => ?_) (fun h7 => ?_)
     ·
      refine Qa ?_
      refine jn [(8, .b (((Yc f ((nth q (Int.toNat at_)).2.2.2.1)).1 == (1 : Int)) && decide ((Yc f ((nth q (Int.toNat at_)).2.2.2.1)).2.1 < (nth q (Int.toNat at_)).2.2.2.2.2.1)))] [0, 8, 10, 20, 34] [] [10] ((Yc f ((nth q (Int.toNat at_)).2.2.2.1)).1 == (1 : Int)) (fun h8 => ?_) (fun h8 => ?_) ?_
      ·
       refine rk Qb [(8, .b (decide ((Yc f ((nth q (Int.toNat at_)).2.2.2.1)).2.1 < (nth q (Int.toNat at_)).2.2.2.2.2.1)))] [0, 8, 10, 20, 34] [] [10] [(2, .val (.b true))] (o1 (Qf (Qg h8))) ?_
       exact ⟨rfl, Qc (by rw [h8]; first | done | kernel_rfl)⟩
      ·
       refine rk Qb [] [0, 10, 20, 34] [] [10] [(2, .val (.b false))] (o1 (Qf (Qg h8))) ?_
       exact ⟨rfl, Qc (by rw [h8]; first | done | kernel_rfl)⟩
      refine Qi ?_
      exact Zb [] (congrArg (fun z => (.b z : AV)) (show Xt (n_ + 1) q at_ f a_ = (((Yc f ((nth q (Int.toNat at_)).2.2.2.1)).1 == (1 : Int)) && decide ((Yc f ((nth q (Int.toNat at_)).2.2.2.1)).2.1 < (nth q (Int.toNat at_)).2.2.2.2.2.1)) from Qv h4 (Qv h5 (Qv h6 (Yf h7 (rfl))))).symm)
     ·
      have h7d := Zp h7
      refine Qa ?_
      refine rk Qb [(47, .b ((nth q (Int.toNat at_)).1 == (5 : Int)))] [10, 34] [] [10] [] (o0) ?_
      refine ck ((nth q (Int.toNat at_)).1 == (5 : Int)) (fun h9 => ?_) (fun h9 => ?_)
      ·
       have h9d := eq_of_beq h9
       refine Qa ?_
       refine rk Qb [(8, .b (!(Xt n_ q ((nth q (Int.toNat at_)).2.1) f a_)))] [0, 8, 20, 47] [] [] [(5, .val (.b (Xt n_ q ((nth q (Int.toNat at_)).2.1) f a_)))] (o1 (Qe (ih q ((nth q (Int.toNat at_)).2.1) f a_ hv (by have hz := ql_a hv ha hb h9; omega) (by have hz := ql_a hv ha hb h9; omega) (by have hz := ql_a hv ha hb h9; omega)))) ?_
       refine Qi ?_
       exact Zb [] (congrArg (fun z => (.b z : AV)) (show Xt (n_ + 1) q at_ f a_ = (!(Xt n_ q ((nth q (Int.toNat at_)).2.1) f a_)) from Qv h4 (Qv h5 (Qv h6 (Qv h7 (Yf h9 (rfl)))))).symm)
      ·
       have h9d := Zp h9
       refine Qa ?_
       refine rk Qb [(56, .b ((nth q (Int.toNat at_)).1 == (6 : Int)))] [47] [] [] [] (o0) ?_
       refine ck ((nth q (Int.toNat at_)).1 == (6 : Int)) (fun h10 => ?_) (fun h10 => ?_)
       ·
        have h10d := eq_of_beq h10
        refine Qa ?_
        refine jn [(8, .b ((Xt n_ q ((nth q (Int.toNat at_)).2.1) f a_) && (Xt n_ q ((nth q (Int.toNat at_)).2.2.1) f a_)))] [0, 8, 20, 56] [] [] (Xt n_ q ((nth q (Int.toNat at_)).2.1) f a_) (fun h11 => ?_) (fun h11 => ?_) ?_
        ·
         refine rk Qb [(8, .b (Xt n_ q ((nth q (Int.toNat at_)).2.2.1) f a_))] [0, 8, 20, 56] [] [] [(5, .val (.b true)), (12, .val (.b (Xt n_ q ((nth q (Int.toNat at_)).2.2.1) f a_)))] (o2 (Qe (cb h11 (ih q ((nth q (Int.toNat at_)).2.1) f a_ hv (by have hz := Qs6 hv ha hb h10; omega) (by have hz := Qs6 hv ha hb h10; omega) (by have hz := Qs6 hv ha hb h10; omega)))) (o1 (Qe (ih q ((nth q (Int.toNat at_)).2.2.1) f a_ hv (by have hz := qr_b hv ha hb h10; omega) (by have hz := qr_b hv ha hb h10; omega) (by have hz := qr_b hv ha hb h10; omega))))) ?_
         exact ⟨rfl, Qc (by rw [h11]; first | done | kernel_rfl)⟩
        ·
         refine rk Qb [] [0, 20, 56] [] [] [(5, .val (.b false))] (o1 (Qe (cb h11 (ih q ((nth q (Int.toNat at_)).2.1) f a_ hv (by have hz := Qs6 hv ha hb h10; omega) (by have hz := Qs6 hv ha hb h10; omega) (by have hz := Qs6 hv ha hb h10; omega))))) ?_
         exact ⟨rfl, Qc (by rw [h11]; first | done | kernel_rfl)⟩
        refine Qi ?_
        exact Zb [] (congrArg (fun z => (.b z : AV)) (show Xt (n_ + 1) q at_ f a_ = ((Xt n_ q ((nth q (Int.toNat at_)).2.1) f a_) && (Xt n_ q ((nth q (Int.toNat at_)).2.2.1) f a_)) from Qv h4 (Qv h5 (Qv h6 (Qv h7 (Qv h9 (Yf h10 (rfl))))))).symm)
       ·
        have h10d := Zp h10
        refine Qa ?_
        refine rk Qb [(72, .b ((nth q (Int.toNat at_)).1 == (7 : Int)))] [56] [] [] [] (o0) ?_
        refine ck ((nth q (Int.toNat at_)).1 == (7 : Int)) (fun h12 => ?_) (fun h12 => ?_)
        ·
         have h12d := eq_of_beq h12
         refine Qa ?_
         refine jn [(8, .b ((Xt n_ q ((nth q (Int.toNat at_)).2.1) f a_) || (Xt n_ q ((nth q (Int.toNat at_)).2.2.1) f a_)))] [0, 8, 20, 72] [] [] (Xt n_ q ((nth q (Int.toNat at_)).2.1) f a_) (fun h13 => ?_) (fun h13 => ?_) ?_
         ·
          refine rk Qb [(8, .b true)] [0, 8, 20, 72] [] [] [(5, .val (.b true))] (o1 (Qe (cb h13 (ih q ((nth q (Int.toNat at_)).2.1) f a_ hv (by have hz := Qut hv ha hb h12; omega) (by have hz := Qut hv ha hb h12; omega) (by have hz := Qut hv ha hb h12; omega))))) ?_
          exact ⟨rfl, Qc (by rw [h13]; first | done | kernel_rfl)⟩
         ·
          refine rk Qb [(8, .b (Xt n_ q ((nth q (Int.toNat at_)).2.2.1) f a_))] [0, 8, 20, 72] [] [] [(5, .val (.b false)), (12, .val (.b (Xt n_ q ((nth q (Int.toNat at_)).2.2.1) f a_)))] (o2 (Qe (cb h13 (ih q ((nth q (Int.toNat at_)).2.1) f a_ hv (by have hz := Qut hv ha hb h12; omega) (by have hz := Qut hv ha hb h12; omega) (by have hz := Qut hv ha hb h12; omega)))) (o1 (Qe (ih q ((nth q (Int.toNat at_)).2.2.1) f a_ hv (by have hz := qr_c hv ha hb h12; omega) (by have hz := qr_c hv ha hb h12; omega) (by have hz := qr_c hv ha hb h12; omega))))) ?_
          exact ⟨rfl, Qc (by rw [h13]; first | done | kernel_rfl)⟩
         refine Qi ?_
         exact Zb [] (congrArg (fun z => (.b z : AV)) (show Xt (n_ + 1) q at_ f a_ = ((Xt n_ q ((nth q (Int.toNat at_)).2.1) f a_) || (Xt n_ q ((nth q (Int.toNat at_)).2.2.1) f a_)) from Qv h4 (Qv h5 (Qv h6 (Qv h7 (Qv h9 (Qv h10 (Yf h12 (rfl)))))))).symm)
        ·
         refine Qa ?_
         refine rk Qb [(88, .b ((nth q (Int.toNat at_)).1 == (8 : Int)))] [0, 20, 72] [] [] [] (o0) ?_
         refine ck ((nth q (Int.toNat at_)).1 == (8 : Int)) (fun h14 => ?_) (fun h14 => ?_)
         ·
          refine Qa ?_
          refine rd' Qb Zv [(8, .b (Xo (Yz a_ ((nth q (Int.toNat at_)).2.2.2.1)) f.1))] [8, 88] [] [] [(3, .val (.o 0 (Yz a_ ((nth q (Int.toNat at_)).2.2.2.1)))), (6, .val (.b (Xo (Yz a_ ((nth q (Int.toNat at_)).2.2.2.1)) f.1)))] (o2 (Qe (Qcu a_ ((nth q (Int.toNat at_)).2.2.2.1))) (o1 (Qe (Uu (Yz a_ ((nth q (Int.toNat at_)).2.2.2.1)) f.1)))) ?_
          refine Qi ?_
          exact Zb [] (congrArg (fun z => (.b z : AV)) (show Xt (n_ + 1) q at_ f a_ = (Xo (Yz a_ ((nth q (Int.toNat at_)).2.2.2.1)) f.1) from Qv h4 (Qv h5 (Qv h6 (Qv h7 (Qv h9 (Qv h10 (Qv h12 (Yf h14 (rfl))))))))).symm)
         ·
          refine Qh ?_
          refine Qa ?_
          refine jn [(8, .b ((f.2.2.2.1 != (0 : Int)) && (Xo (Yz a_ ((nth q (Int.toNat at_)).2.2.2.1)) f.2.2.2.1)))] [3, 6, 8, 9, 88] [] [6, 9] (f.2.2.2.1 != (0 : Int)) (fun h15 => ?_) (fun h15 => ?_) ?_
          ·
           refine rd' Qb Zv [(8, .b (Xo (Yz a_ ((nth q (Int.toNat at_)).2.2.2.1)) f.2.2.2.1))] [3, 6, 8, 9, 88] [] [6, 9] [(2, .val (.b true)), (7, .val (.o 0 (Yz a_ ((nth q (Int.toNat at_)).2.2.2.1)))), (10, .val (.b (Xo (Yz a_ ((nth q (Int.toNat at_)).2.2.2.1)) f.2.2.2.1)))] (o2 (Qf (Qg h15)) (o2 (Qe (Qcu a_ ((nth q (Int.toNat at_)).2.2.2.1))) (o1 (Qe (Uu (Yz a_ ((nth q (Int.toNat at_)).2.2.2.1)) f.2.2.2.1))))) ?_
           exact ⟨rfl, Qc (by rw [h15]; first | done | kernel_rfl)⟩
          ·
           refine rd' Qb Zv [] [3, 6, 9, 88] [] [6, 9] [(2, .val (.b false))] (o1 (Qf (Qg h15))) ?_
           exact ⟨rfl, Qc (by rw [h15]; first | done | kernel_rfl)⟩
          refine Qi ?_
          exact Zb [] (congrArg (fun z => (.b z : AV)) (show Xt (n_ + 1) q at_ f a_ = ((f.2.2.2.1 != (0 : Int)) && (Xo (Yz a_ ((nth q (Int.toNat at_)).2.2.2.1)) f.2.2.2.1)) from Qv h4 (Qv h5 (Qv h6 (Qv h7 (Qv h9 (Qv h10 (Qv h12 (Qv h14 (rfl))))))))).symm)
def He (q : (List Yq)) (f : Yt) (a_ : (List Qk)) : Bool := ((Xz q) && (Xt (List.length q) q ((q.length : Int) - 1) f a_))
theorem Qnp (q : (List Yq)) (f : Yt) (a_ : (List Qk)) : ACalls Tryz.prog 197 [.h q, .a [.i f.1, .i f.2.1, .b f.2.2.1, .i f.2.2.2.1, .h f.2.2.2.2], .h a_] (.b (He q f a_)) := by
 refine Qn (tt := tt) Qb Tryz.func197 (fn := Tryz.f197) rfl (by unfold Z7; kernel_rfl) (Nat.le_of_ble_eq_true rfl) fun w0 F0 => ?_
 refine Qa ?_
 refine rk Qb [(4, .p 4 0), (6, .b false)] [1] [(4, [.i f.1, .i f.2.1, .b f.2.2.1, .i f.2.2.2.1, .h f.2.2.2.2])] [] [] (o0) ?_
 refine Qa ?_
 refine jn [(6, .b ((Xz q) && (Xt (List.length q) q ((q.length : Int) - 1) f a_)))] [0, 2, 4, 6] [] [4] (Xz q) (fun h1 => ?_) (fun h1 => ?_) ?_
 ·
  refine wdT 0 0 .sh q (fun hw2 => ?_)
  have hl3 : List.length q ≤ 1073741824 := Qp (hw2)
  refine rk Qb [(6, .b (Xt (List.length q) q ((q.length : Int) - 1) f a_))] [0, 2, 4, 6] [] [4] [(1, .val (.b true)), (5, .val (.i (q.length : Int))), (6, .val (.i ((q.length : Int) - 1))), (9, .val (.b (Xt (List.length q) q ((q.length : Int) - 1) f a_)))] (o2 (Qe (cb h1 (Vp q))) (o2 (Qf (Xc q)) (o2 (Qf (Kw (IntWalk.i64_in ((q.length : Int) - 1) (by omega)))) (o1 (Qe (Qno (List.length q) q ((q.length : Int) - 1) f a_ (Qfw h1) (by have := Qj6 (Qfw h1); omega) (by omega) (by omega))))))) ?_
  exact ⟨rfl, Qc (by rw [h1]; first | done | kernel_rfl)⟩
 ·
  refine rk Qb [] [0, 2, 4] [] [4] [(1, .val (.b false))] (o1 (Qe (cb h1 (Vp q)))) ?_
  exact ⟨rfl, Qc (by rw [h1]; first | done | kernel_rfl)⟩
 refine Qi ?_
 exact Zb [] (congrArg (fun z => (.b z : AV)) (show He q f a_ = ((Xz q) && (Xt (List.length q) q ((q.length : Int) - 1) f a_)) from rfl).symm)
def Vv (q : (List Yq)) (a_ : (List Qk)) (_ : Nat) (a0 : Yt) (s0 : (List Int)) : Rd ((List Int)) ((List Int)) ((List Int)) := (bif (He q a0 a_) then (.next (s0 ++ [a0.1])) else (.next s0))
def W2 (_ : Nat) (s0 : (List Int)) : (List Int) := s0
def Ys (s_ : X7) (q : (List Yq)) (a_ : (List Qk)) : (List Int) := (Out.on (Xk (Vv q a_) W2 s_.2.1 0 []) (fun y0 => y0))
theorem Qh3 (s_ : X7) (q : (List Yq)) (a_ : (List Qk)) : ACalls Tryz.prog 170 [.a [.h s_.1, .h s_.2.1, .i s_.2.2], .h q, .h a_] (.o 0 (Ys s_ q a_)) := by
 refine Qn (tt := tt) Qb Tryz.func170 (fn := Tryz.f170) rfl (by unfold Z7; kernel_rfl) (Nat.le_of_ble_eq_true rfl) fun w0 F0 => ?_
 refine Qa ?_
 refine rk Qb [(3, .p 3 0), (6, .e 0)] [0] [(3, [.h s_.1, .h s_.2.1, .i s_.2.2])] [] [] (o0) ?_
 refine Qa ?_
 refine rk Qb [(7, .one (.slc (.own true 576) 1 []))] [] [] [] [] (o0) ?_
 refine Qa ?_
 refine Qa ?_
 refine rk Qb [(8, .i 0)] [] [] [] [] (o0) ?_
 refine wdB 3 1 .sh s_.2.1 (fun hw1 => ?_)
 have hl2 : List.length s_.2.1 ≤ 1073741824 := Qp (hw1)
 refine blk (fun (k0 : Nat) (s0 : (List Int)) => [(7, .o 147204 s0), (8, .i ((k0 : Nat) : Int))]) [7, 8] (fun k0 s0 => []) [] (fun (y0 : (List Int)) => [(7, .o 147354 y0)]) [1, 2, 3, 7, 8] (fun y0 => []) [3] (fun (k0 : Nat) (s0 : (List Int)) => (Xk (Vv q a_) W2 s_.2.1 0 []) = Xk (Vv q a_) W2 (List.drop k0 s_.2.1) k0 s0 ∧ List.length s0 ≤ k0) (fun (y0 : (List Int)) => (Xk (Vv q a_) W2 s_.2.1 0 []) = .brk y0) s_.2.1.length [] (Zg [(576, 147204)] (by kernel_rfl)) ⟨rfl, (by simp)⟩ (fun k0 s0 hk0 hI0 => ?_) (fun k0 s0 hk0 hI0 => ?_) (fun y0 hD0 => ?_)
 ·
  have hA0_0 := hI0.2
  obtain ⟨a0, hx0⟩ := X8 (l := s_.2.1) (i := k0) hk0
  refine Qa ?_
  refine Qa ?_
  refine rk Qb [(14, .b true)] [] [] [] [(3, .val (.i (s_.2.1.length : Int))), (4, .val (.b true))] (o2 (Qf (Xc s_.2.1)) (o1 (Qf (Qg (decide_eq_true (p := ((k0 : Nat) : Int) < (s_.2.1.length : Int)) (by omega)))))) ?_
  refine ckT ?_
  refine Qh ?_
  refine Qa ?_
  refine Q4 ?_
  refine Qa ?_
  refine rk Qb [(24, .b (He q a0 a_))] [14] [] [] [(4, .row [.i a0.1, .i a0.2.1, .b a0.2.2.1, .i a0.2.2.2.1, .h a0.2.2.2.2]), (7, .val (.b (He q a0 a_)))] (o2 (Ql (Xl (i := ((k0 : Nat) : Int)) (by omega) rfl hx0)) (o1 (Qe (Qnp q a0 a_)))) ?_
  refine ck (He q a0 a_) (fun h3 => ?_) (fun h3 => ?_)
  ·
   refine wdT 7 0 (.own true 147204) s0 (fun hw4 => ?_)
   have hl5 : List.length s0 ≤ 1073741824 := Qp (hw4)
   refine rk Qb [(7, .one (.slc (.own true 2112) 1 ((eL s0) ++ [[.i a0.1]])))] [7, 24] [] [] [(4, .row [.i a0.1, .i a0.2.1, .b a0.2.2.1, .i a0.2.2.2.1, .h a0.2.2.2.2])] (o2 (Ql (Xl (i := ((k0 : Nat) : Int)) (by omega) rfl hx0)) (o1 (V8 (Wq (Xa s0) (Xa [a0.1]) (by first | omega | (simp; omega) | simp))))) ?_
   refine eqn [(7, .o 2112 (s0 ++ [a0.1]))] [7] [] [] (by rw [show ((eL s0) ++ [[.i a0.1]]) = (eL (s0 ++ [a0.1])) from Qaw (rfl) (rfl)]; first | done | kernel_rfl) ?_
   refine rk Qb [(8, .i ((k0 + 1 : Nat) : Int))] [8] [] [] [(1, .val (.i ((k0 + 1 : Nat) : Int)))] (o1 (Qf (Kw (Qs k0 (by omega))))) ?_
   exact Exists.intro (s0 ++ [a0.1]) (And.intro (Zg [(2112, 147204)] (by kernel_rfl)) ⟨Qw hx0 (Yf h3 (rfl)) hI0.1, by first | omega | (simp; omega) | simp⟩)
  ·
   refine Qh ?_
   refine rk Qb [(8, .i ((k0 + 1 : Nat) : Int))] [8, 24] [] [] [(1, .val (.i ((k0 + 1 : Nat) : Int)))] (o1 (Qf (Kw (Qs k0 (by omega))))) ?_
   exact Exists.intro s0 (And.intro (Qc (by kernel_rfl)) ⟨Qw hx0 (Qv h3 (rfl)) hI0.1, by first | omega | (simp; omega) | simp⟩)
 ·
  have hA0_0 := hI0.2
  refine Qa ?_
  refine Qa ?_
  refine rk Qb [(14, .b false)] [] [] [] [(3, .val (.i (s_.2.1.length : Int))), (4, .val (.b false))] (o2 (Qf (Xc s_.2.1)) (o1 (Qf (Qg (decide_eq_false (p := ((k0 : Nat) : Int) < (s_.2.1.length : Int)) (by omega)))))) ?_
  refine ckF ?_
  refine Xj ?_
  exact Exists.intro s0 (And.intro (Zg [(147204, 147354)] (by kernel_rfl)) (X9 hk0 (rfl) hI0.1))
 ·
  refine Qa ?_
  refine rk Qb [(6, .o 147354 y0)] [6, 7] [] [] [] (o0) ?_
  refine Qi ?_
  exact Zb [] (congrArg (fun z => (.o 0 z : AV)) (show Ys s_ q a_ = y0 from Hk hD0 (rfl)).symm)
end Go.Proofs.YtnhmnfmhnepjmaaGreat
namespace Go.Proofs.YtnhmnfmhnepjmaaGreat
open Go.RowKit
theorem cid_eq (l : List Int) (x : Int) : Zr l x = Xo l x := by
  unfold Zr Kr Vi Xo
  have key : ∀ (l : List Int) (k : Nat), decide (((Xk (Jt x) Vu l k ()).on fun _ => -1) ≥ 0) = ((Xk (Zz x) K5 l k ()).on fun _ => false) := by
    intro l
    induction l with
    | nil => intro k; rfl
    | cons a l ih =>
      intro k
      by_cases h : x = a
      · subst h; simp [Xk, Jt, Zz, Out.on]
      · have e1 : (x == a) = false := beq_eq_false_iff_ne.2 h
        have e2 : (a == x) = false := beq_eq_false_iff_ne.2 (Ne.symm h)
        simp only [Xk, Jt, Zz, e1, e2, cond_false]
        exact ih (k + 1)
  exact key l 0
theorem rids_eq (r : List Qk) (s : ByteArray) : Xb r s = Yz r s := rfl
theorem attr_eq (f : Yt) (s : ByteArray) : X2 f s = Yc f s := rfl
theorem vn_op {n : Yq} {k : Int} (h : X5 n k = true) : n.1 = 1 ∨ n.1 = 2 ∨ n.1 = 3 ∨ n.1 = 4 ∨ n.1 = 5 ∨ n.1 = 6 ∨ n.1 = 7 ∨ n.1 = 8 ∨ n.1 = 9 := by
  refine Classical.byContradiction fun hn => ?_
  simp only [not_or] at hn
  obtain ⟨h1, h2, h3, h4, h5, h6, h7, h8, h9⟩ := hn
  unfold X5 at h
  simp only [beq_eq_false_iff_ne.2 h1, beq_eq_false_iff_ne.2 h2, beq_eq_false_iff_ne.2 h3, beq_eq_false_iff_ne.2 h4, beq_eq_false_iff_ne.2 h5, beq_eq_false_iff_ne.2 h6, beq_eq_false_iff_ne.2 h7, beq_eq_false_iff_ne.2 h8, beq_eq_false_iff_ne.2 h9, cond_false] at h
  cases h
theorem Qtn {q : List Yq} (hv : Qm q = true) (f : Yt) (r : List Qk) : ∀ (n : Nat) (k : Int), 0 ≤ k → k < (q.length : Int) → Qx n q k f r = Xt n q k f r
  | 0, _, _, _ => rfl
  | n + 1, k, h0, h1 => by
    have hn := Qrj hv (X3 (l := q) (i := Int.toNat k) (by omega))
    rw [Int.toNat_of_nonneg h0] at hn
    obtain ⟨hl, hr⟩ := Qb1 hv h0 h1
    unfold Qx Xt
    have ih := Qtn hv f r n
    unfold Jf
    simp only [attr_eq, rids_eq, cid_eq]
    generalize nth q (Int.toNat k) = m at hn hl hr ⊢
    rcases vn_op hn with h | h | h | h | h | h | h | h | h
    · simp [h]
    · simp [h]
    · simp [h]
    · rw [h]
      cases hz : ((Yc f m.2.2.2.1).1 == (1 : Int)) with
      | true => simp [bne, hz]
      | false => simp [bne, hz]
    · simp [h, ih _ (hl (by simp [h])).1 (by have := (hl (by simp [h])).2; omega)]
    · simp [h, ih _ (hl (by simp [h])).1 (by have := (hl (by simp [h])).2; omega), ih _ (hr (by simp [h])).1 (by have := (hr (by simp [h])).2; omega)]
    · simp [h, ih _ (hl (by simp [h])).1 (by have := (hl (by simp [h])).2; omega), ih _ (hr (by simp [h])).1 (by have := (hr (by simp [h])).2; omega)]
    · simp [h]
    · simp [h]
theorem Qux (q : List Yq) (f : Yt) (r : List Qk) : Ks q f r = He q f r := by
  unfold Ks He
  rw [← vq_eq]
  cases hv : Qm q with
  | false => rfl
  | true => rw [Qtn hv f r _ _ (by have := Qj6 hv; omega) (by omega)]
theorem Qpt (s : X7) (q : List Yq) (r : List Qk) : Xy s q r = Ys s q r := by
  unfold Xy Ys
  rw [Qdr (f := Kt q r) (g := Vv q r) (e := W1) (e' := W2) (fun i a s => by
    unfold Kt Vv
    rw [Qux]) (fun _ _ => rfl)]
end Go.Proofs.YtnhmnfmhnepjmaaGreat
namespace Go.Proofs.YtnhmnfmhnepjmaaGreat
section
variable {φ : Type} (fs : List φ) (idOf : φ → Int)
def sel (p : φ → Bool) : List Int := (fs.filter p).map idOf
theorem Qkk {p q : φ → Bool} : ∀ (l : List φ), (∀ f, f ∈ l → p f = true → q f = true) → (l.filter p).length ≤ (l.filter q).length ∧ ((l.filter q).length ≤ (l.filter p).length → l.filter p = l.filter q)
  | [], _ => ⟨Nat.le_refl _, fun _ => rfl⟩
  | f :: l, h => by
    obtain ⟨h1, h2⟩ := Qkk l fun g hg => h g (List.mem_cons_of_mem _ hg)
    have h0 := h f (List.mem_cons_self ..)
    cases hp : p f with
    | true =>
      have hq := h0 hp
      simp only [List.filter_cons, hp, hq, if_true, List.length_cons]
      exact ⟨by omega, fun hl => by rw [h2 (by omega)]⟩
    | false =>
      cases hq : q f with
      | true =>
        simp only [List.filter_cons, hp, hq, if_true, List.length_cons, Bool.false_eq_true, if_false]
        exact ⟨by omega, fun hl => absurd hl (by omega)⟩
      | false =>
        simp only [List.filter_cons, hp, hq, Bool.false_eq_true, if_false]
        exact ⟨h1, h2⟩
theorem sel_len (p : φ → Bool) : (sel fs idOf p).length ≤ fs.length := by
  unfold sel; rw [List.length_map]; exact List.length_filter_le _ _
variable {fs idOf}
theorem sel_grow {p q : φ → Bool} (h : ∀ f, f ∈ fs → p f = true → q f = true) (hn : sel fs idOf p ≠ sel fs idOf q) : (sel fs idOf p).length + 1 ≤ (sel fs idOf q).length := by
  obtain ⟨h1, h2⟩ := Qkk fs h
  unfold sel at hn ⊢
  rw [List.length_map, List.length_map]
  refine Nat.lt_of_le_of_ne h1 fun e => hn ?_
  rw [h2 (by omega)]
theorem sel_sub {p q : φ → Bool} (h : ∀ f, f ∈ fs → p f = true → q f = true) {x : Int} (hx : x ∈ sel fs idOf p) : x ∈ sel fs idOf q := by
  unfold sel at hx ⊢
  obtain ⟨f, hf, rfl⟩ := List.mem_map.1 hx
  obtain ⟨h1, h2⟩ := List.mem_filter.1 hf
  exact List.mem_map.2 ⟨f, List.mem_filter.2 ⟨h1, h f h1 h2⟩, rfl⟩
end
abbrev CD := ByteArray × List Int
def putC (out : List CD) (k : Nat) (ids : List Int) : List CD := out.set k ((nth out k).1, ids)
theorem Qi7 {out : List CD} {k : Nat} (x : CD) (hk : k < out.length) (j : Nat) : nth (out.set k x) j = if j = k then x else nth out j := by
  unfold nth
  simp only [List.getD_eq_getElem?_getD, List.getElem?_set]
  by_cases h : k = j
  · subst h; simp [hk]
  · simp [h, Ne.symm h]
theorem Quy {out : List CD} {k : Nat} (ids : List Int) (hk : k < out.length) : (putC out k ids).map (·.1) = out.map (·.1) := by
  unfold putC
  rw [List.map_set]
  refine List.ext_getElem (by simp) fun i h1 h2 => ?_
  rw [List.getElem_set]
  split
  · rename_i h; subst h; simp [nth, List.getD, hk]
  · rfl
def Qkl (B : Nat) (act : Nat → Bool) : Nat → List CD → Nat
  | _, [] => 0
  | k, r :: l => (bif act k then B - r.2.length else 0) + Qkl B act (k + 1) l
theorem room_le (B : Nat) (act : Nat → Bool) : ∀ (l : List CD) (k : Nat), Qkl B act k l ≤ l.length * B
  | [], k => by simp [Qkl]
  | r :: l, k => by
    have := room_le B act l (k + 1)
    simp only [Qkl, List.length_cons, Nat.add_mul, Nat.one_mul]
    cases act k with
    | true => simp only [cond_true]; omega
    | false => simp only [cond_false]; omega
theorem Qto (B : Nat) (act : Nat → Bool) (x : CD) : ∀ (l : List CD) (k i : Nat), i < l.length → act (k + i) = true → (nth l i).2.length + 1 ≤ x.2.length → x.2.length ≤ B → Qkl B act k (l.set i x) + 1 ≤ Qkl B act k l
  | [], k, i, hi, _, _, _ => by simp at hi
  | r :: l, k, 0, _, ha, h1, h2 => by
    have e : nth (r :: l) 0 = r := rfl
    rw [e] at h1
    rw [Nat.add_zero] at ha
    simp only [List.set, Qkl, ha, cond_true]
    omega
  | r :: l, k, i + 1, hi, ha, h1, h2 => by
    have := Qto B act x l (k + 1) i (by simpa using hi) (by rwa [show k + 1 + i = k + (i + 1) by omega]) h1 h2
    simp only [List.set, Qkl]
    omega
section
variable {φ : Type} {fs : List φ} {idOf : φ → Int} (m : Nat → List CD → φ → Bool) (act : Nat → Bool)
def LeC (a b : List CD) : Prop := ∀ j, (∀ x, x ∈ (nth a j).2 → x ∈ (nth b j).2) ∧ (act j = false → (nth a j).2 = (nth b j).2)
variable (fs idOf)
def GoodC (out : List CD) : Prop := ∀ k, k < out.length → act k = true → ∃ p : φ → Bool, (nth out k).2 = sel fs idOf p ∧ ∀ f, f ∈ fs → p f = true → m k out f = true
def MonoC (nm : List ByteArray) : Prop := ∀ a b : List CD, a.map (·.1) = nm → b.map (·.1) = nm → LeC act a b → ∀ k, k < nm.length → act k = true → ∀ f, f ∈ fs → m k a f = true → m k b f = true
def Qpu (s : List CD × Bool) (k : Nat) : List CD × Bool := bif act k then (if sel fs idOf (m k s.1) = (nth s.1 k).2 then s else (putC s.1 k (sel fs idOf (m k s.1)), true)) else s
def Qnq (ks : List Nat) (s : List CD × Bool) : List CD × Bool := ks.foldl (Qpu fs idOf m act) s
variable {fs idOf m act} {nm : List ByteArray}
structure StateC (fs : List φ) (idOf : φ → Int) (m : Nat → List CD → φ → Bool) (act : Nat → Bool) (nm : List ByteArray) (o out : List CD) : Prop where
  names : out.map (·.1) = nm
  good : GoodC fs idOf m act out
  rest : ∀ j, act j = false → nth out j = nth o j
theorem stepC_ok (hm : MonoC fs m act nm) {o : List CD} {s : List CD × Bool} (h : StateC fs idOf m act nm o s.1) {k : Nat} (hk : k < nm.length) :
    StateC fs idOf m act nm o (Qpu fs idOf m act s k).1 ∧ Qkl fs.length act 0 (Qpu fs idOf m act s k).1 ≤ Qkl fs.length act 0 s.1 ∧ ((Qpu fs idOf m act s k).2 = true → s.2 = true ∨ Qkl fs.length act 0 (Qpu fs idOf m act s k).1 + 1 ≤ Qkl fs.length act 0 s.1) := by
  unfold Qpu
  cases ha : act k with
  | false => exact ⟨h, Nat.le_refl _, .inl⟩
  | true =>
    simp only [cond_true]
    split
    · exact ⟨h, Nat.le_refl _, .inl⟩
    · rename_i hne
      have hlen : nm.length = s.1.length := by rw [← h.names, List.length_map]
      have hk' : k < s.1.length := by omega
      obtain ⟨p, hp1, hp2⟩ := h.good k hk' ha
      rw [hp1] at hne
      have hgrow := sel_grow (idOf := idOf) hp2 (Ne.symm hne)
      have hnames : (putC s.1 k (sel fs idOf (m k s.1))).map (·.1) = nm := by rw [Quy _ hk', h.names]
      have hle : LeC act s.1 (putC s.1 k (sel fs idOf (m k s.1))) := fun j => by
        unfold putC
        rw [Qi7 _ hk']
        by_cases hj : j = k
        · subst hj
          rw [if_pos rfl]
          exact ⟨fun x hx => sel_sub hp2 (hp1 ▸ hx), fun hf => absurd ha (by simp [hf])⟩
        · rw [if_neg hj]
          exact ⟨fun _ hx => hx, fun _ => rfl⟩
      have hmono := hm _ _ h.names hnames hle
      have hr : Qkl fs.length act 0 (putC s.1 k (sel fs idOf (m k s.1))) + 1 ≤ Qkl fs.length act 0 s.1 :=
        Qto _ _ _ _ 0 k hk' (by rw [Nat.zero_add]; exact ha) (by rw [hp1]; exact hgrow) (sel_len _ _ _)
      refine ⟨⟨hnames, fun j hj hja => ?_, fun j hj => ?_⟩, Nat.le_of_succ_le hr, fun _ => .inr hr⟩
      · have hj' : j < s.1.length := by unfold putC at hj; rwa [List.length_set] at hj
        by_cases e : j = k
        · subst e
          refine ⟨m j s.1, ?_, fun f hf hmf => hmono j (by omega) hja f hf hmf⟩
          unfold putC; rw [Qi7 _ hk', if_pos rfl]
        · obtain ⟨p', h1, h2⟩ := h.good j hj' hja
          refine ⟨p', ?_, fun f hf hpf => hmono j (by omega) hja f hf (h2 f hf hpf)⟩
          unfold putC; rw [Qi7 _ hk', if_neg e]; exact h1
      · have e : j ≠ k := fun e => absurd ha (by simp [← e, hj])
        unfold putC; rw [Qi7 _ hk', if_neg e]; exact h.rest j hj
theorem Qtp (hm : MonoC fs m act nm) {o : List CD} : ∀ (ks : List Nat) (s : List CD × Bool), (∀ k, k ∈ ks → k < nm.length) → StateC fs idOf m act nm o s.1 →
    StateC fs idOf m act nm o (Qnq fs idOf m act ks s).1 ∧ Qkl fs.length act 0 (Qnq fs idOf m act ks s).1 ≤ Qkl fs.length act 0 s.1 ∧ ((Qnq fs idOf m act ks s).2 = true → s.2 = true ∨ Qkl fs.length act 0 (Qnq fs idOf m act ks s).1 + 1 ≤ Qkl fs.length act 0 s.1)
  | [], s, _, h => ⟨h, Nat.le_refl _, .inl⟩
  | k :: ks, s, hks, h => by
    obtain ⟨h1, h2, h3⟩ := stepC_ok hm h (hks k (List.mem_cons_self ..))
    obtain ⟨g1, g2, g3⟩ := Qtp hm ks _ (fun j hj => hks j (List.mem_cons_of_mem _ hj)) h1
    refine ⟨g1, Nat.le_trans g2 h2, fun hc => ?_⟩
    rcases g3 hc with hc | hc
    · rcases h3 hc with hc | hc
      · exact .inl hc
      · exact .inr (Nat.le_trans (Nat.add_le_add_right g2 1) hc)
    · exact .inr (Nat.le_trans hc h2)
theorem whlC {R S T : Type} {F : S → Rd R S T} {out : S → List CD} {ch : S → Bool} {n : Nat} (hn : n = nm.length)
    (hF : ∀ s, ch s = true → ∃ s', F s = .next s' ∧ (out s', ch s') = Qnq fs idOf m act (List.range n) (out s, false))
    (hE : ∀ s, ch s = false → ∃ t, F s = .brk t)
    (hm : MonoC fs m act nm) {o : List CD} : ∀ (k : Nat) (s : S), StateC fs idOf m act nm o (out s) → Qkl fs.length act 0 (out s) + (bif ch s then 2 else 1) ≤ k →
    ∃ s', StateC fs idOf m act nm o (out s') ∧ ch s' = false ∧ ∃ t, F s' = .brk t ∧ whl F k s = some (.brk t)
  | 0, s, _, hk => by cases hc : ch s <;> simp [hc] at hk
  | k + 1, s, h, hk => by
    cases hc : ch s with
    | false =>
      obtain ⟨t, ht⟩ := hE s hc
      exact ⟨s, h, hc, t, ht, by simp only [whl, ht]⟩
    | true =>
      rw [hc] at hk
      simp only [cond_true] at hk
      obtain ⟨s', h1, h2⟩ := hF s hc
      obtain ⟨g1, g2, g3⟩ := Qtp hm (o := o) (List.range n) (out s, false) (fun j hj => by rw [← hn]; exact List.mem_range.1 hj) h
      rw [← h2] at g1 g2 g3
      simp only [whl, h1]
      refine whlC hn hF hE hm k s' g1 ?_
      simp only [Bool.false_eq_true, false_or] at g3
      cases hc' : ch s' with
      | false => simp only [cond_false]; have : Qkl fs.length act 0 (out s') ≤ Qkl fs.length act 0 (out s) := g2; omega
      | true => simp only [cond_true]; have : Qkl fs.length act 0 (out s') + 1 ≤ Qkl fs.length act 0 (out s) := g3 hc'; omega
end
/-! ### a slice that is nil, handed on -/
open Go.RowKit in
def ArgLe (a b : AV) : Prop := ∀ (J : Inj) (w : World) (v : Value), AR J w v a → AR J w v b
theorem ArgLe.rfl (a : AV) : ArgLe a a := fun _ _ _ h => h
theorem ArgLe.nil (n : Nat) : ArgLe (.one (.slc .sh 0 [])) (.one (.slc .sh n [])) := fun J w v h => by
  have h' : VV J.F w v (.slc 0 []) := h
  show VV J.F w v (.slc n [])
  generalize hp : PV.slc 0 ([] : List (List PV)) = p at h'
  cases h' with
  | int | bool | str => cases hp
  | emp oa m hc => exact .emp oa n hc
  | @slc b off cap m cs l hx hcells hr hle hcap =>
    cases hp
    exact .emp _ n hcap.1
theorem Qrt {P : Program} {f : Nat} {r : AV} {args args' : List AV} (h : All2 ArgLe args args') (c : ACalls P f args' r) : ACalls P f args r := ⟨c.1, fun w F vals hF hall => c.2 w F vals hF (by
  clear c
  induction h generalizing vals with
  | nil => exact hall
  | cons h1 h2 ih =>
    cases hall with
    | cons g1 g2 => exact .cons (h1 _ _ _ g1) (ih _ g2))⟩
/-! ### a flat row of ours, handed back -/
theorem Qpv {s : St} {t k n : Nat} {l : List (List PV)} (ht : get s.tm t = some (.one (.slc (.own false k) n l))) (hf : Qa1 l) : Weak s ⟨[(t, .one (.slc (.own true k) n l))], []⟩ := fun N w0 F0 J a w h =>
  ⟨J, { h with
    bo := fun k c hc => by simp [get] at hc
    bi := fun k k' c c' hc => by simp [get] at hc
    tm := fun t' v hv => by
      have h1 := h.tm t _ ht
      by_cases e : t' = t
      · subst e
        obtain rfl : AV.one (.slc (.own true k) n l) = v := by simpa [get] using hv
        exact Qor h1 hf
      · simp [get, Ne.symm e] at hv }⟩
theorem Qru {P : Program} {N : Nat} {w0 : World} {F0 : Nat → Prop} {Q : Exit → St → Prop} {s : St} {c : Code} (t : Nat) {k n : Nat} {l : List (List PV)} (ht : get s.tm t = some (.one (.slc (.own false k) n l))) (hf : Qa1 l) (h : AWP P N w0 F0 c Q ⟨[(t, .one (.slc (.own true k) n l))], []⟩) : AWP P N w0 F0 c Q s := Qgd (Qpv ht hf) h
end Go.Proofs.YtnhmnfmhnepjmaaGreat
namespace Go.Proofs.YtnhmnfmhnepjmaaGreat
open Go.RowKit
/-! ### each node but the last is named once -/
def Qar (n : Yq) (c : Int) : Bool := ((n.2.1 == c) && (n.1 == 6 || n.1 == 7 || n.1 == 5)) || ((n.2.2.1 == c) && (n.1 == 6 || n.1 == 7))
theorem refs_step (c : Int) (k : Nat) (a : Yq) (s : Int) (h0 : 0 ≤ s) (h1 : s ≤ 1000) : ∃ s', Zc c k a s = .next s' ∧ s + (bif Qar a c then 1 else 0) ≤ s' ∧ s' ≤ s + 2 := by
  have w1 : IntKind.i64.wrap (s + 1) = s + 1 := IntWalk.i64_in _ (by omega)
  have w2 : IntKind.i64.wrap (s + 1 + 1) = s + 1 + 1 := IntWalk.i64_in _ (by omega)
  unfold Zc Qar
  rw [w1, w2]
  cases (a.2.1 == c) <;> cases (a.2.2.1 == c) <;> cases (a.1 == 6) <;> cases (a.1 == 7) <;> cases (a.1 == 5) <;> exact ⟨_, rfl, by first | (simp; done) | (simp; omega) | omega, by omega⟩
theorem Qpw (c : Int) : ∀ (l : List Yq) (k : Nat) (s : Int), 0 ≤ s → s + 2 * l.length ≤ 1000 → ∃ s', Xk (Zc c) Jw l k s = .brk s' ∧ s + (l.filter fun n => Qar n c).length ≤ s'
  | [], k, s, _, _ => ⟨s, rfl, by simp⟩
  | a :: l, k, s, h0, h1 => by
    rw [List.length_cons] at h1
    obtain ⟨s1, e1, g1, g2⟩ := refs_step c k a s h0 (by omega)
    have hp : 0 ≤ s1 := by cases hb : Qar a c <;> (rw [hb] at g1; simp at g1; omega)
    obtain ⟨s2, e2, g3⟩ := Qpw c l (k + 1) s1 hp (by omega)
    refine ⟨s2, by simp only [Xk, e1]; exact e2, ?_⟩
    rw [List.filter_cons]
    cases hb : Qar a c with
    | true => rw [hb] at g1; simp only [cond_true] at g1; simp only [if_true, List.length_cons]; omega
    | false => rw [hb] at g1; simp only [cond_false] at g1; simp only [Bool.false_eq_true, if_false]; omega
theorem two_of {α : Type} {p : α → Bool} {l : List α} {i j : Nat} {a b : α} (hij : i < j) (hi : l[i]? = some a) (hj : l[j]? = some b) (ha : p a = true) (hb : p b = true) : 2 ≤ (l.filter p).length := by
  have e : l = l.take j ++ l.drop j := (List.take_append_drop j l).symm
  rw [e, List.filter_append, List.length_append]
  have h1 : 1 ≤ ((l.take j).filter p).length := List.length_pos_of_mem (a := a) (List.mem_filter.2 ⟨List.mem_of_getElem? (i := i) (by rw [List.getElem?_take, if_pos hij]; exact hi), ha⟩)
  have h2 : 1 ≤ ((l.drop j).filter p).length := List.length_pos_of_mem (a := b) (List.mem_filter.2 ⟨List.mem_of_getElem? (i := 0) (by rw [List.getElem?_drop]; exact hj), hb⟩)
  omega
theorem vq_refs {q : List Yq} (h : Qm q = true) {i : Nat} (hi : i + 1 < q.length) : Y3 q (i : Int) = 1 := by
  obtain ⟨⟨t, ht⟩, _⟩ := vq_run h
  have := Qna (fun k a t => by unfold Yg; generalize (_ || _ : Bool) = c; cases c <;> simp) ht i (nth q i) (X3 (by omega))
  unfold Yg at this
  rw [Nat.zero_add] at this
  have hd : decide (((i : Nat) : Int) < ((q.length : Int) - 1)) = true := decide_eq_true (by omega)
  rw [hd, Bool.true_and] at this
  cases hn : (Y3 q ((i : Nat) : Int) != (1 : Int)) with
  | false => exact H4 hn
  | true => rw [hn, Bool.or_true] at this; simp at this
theorem ref_once {q : List Yq} (h : Qm q = true) {c i j : Nat} (hc : c + 1 < q.length) (hij : i < j) (hj : j < q.length) (h1 : Qar (nth q i) (c : Int) = true) (h2 : Qar (nth q j) (c : Int) = true) : False := by
  have hr := vq_refs h hc
  have hl := (Qj6 h).2
  obtain ⟨s, e, g⟩ := Qpw (c : Int) q 0 0 (by omega) (by omega)
  unfold Y3 at hr
  rw [e] at hr
  have := two_of (p := fun n => Qar n (c : Int)) hij (X3 (by omega)) (X3 hj) h1 h2
  simp only [Out.on] at hr
  omega
theorem ref_lt {q : List Yq} (h : Qm q = true) {c i : Nat} (hi : i < q.length) (hr : Qar (nth q i) (c : Int) = true) : c < i := by
  obtain ⟨h1, h2⟩ := Qb1 h (k := (i : Int)) (by omega) (by omega)
  rw [Int.toNat_natCast] at h1 h2
  unfold Qar at hr
  simp only [Bool.or_eq_true, Bool.and_eq_true, beq_iff_eq] at hr
  rcases hr with ⟨e, hop⟩ | ⟨e, hop⟩
  · have := h1 (by omega); omega
  · have := h2 (by omega); omega
/-! ### below a negation -/
theorem Qnr {L : List Bool} {i : Nat} (x : Bool) (hi : i < L.length) (j : Nat) : nth (L.set i x) j = if j = i then x else nth L j := by
  unfold nth
  simp only [List.getD_eq_getElem?_getD, List.getElem?_set]
  by_cases h : i = j
  · subst h; simp [hi]
  · simp [h, Ne.symm h]
theorem neg_step {q : List Yq} (h : Qm q = true) {k : Nat} (hk : k < q.length) (s : List Bool) (hs : s.length = q.length) : ∃ s', Yl q k s = .next s' ∧ s'.length = q.length ∧
    (∀ j : Nat, Qar (nth q (q.length - 1 - k)) (j : Int) = false → nth s' j = nth s j) ∧
    (∀ j : Nat, Qar (nth q (q.length - 1 - k)) (j : Int) = true → nth s' j = (nth s (q.length - 1 - k) || ((nth q (q.length - 1 - k)).1 == 5))) := by
  have hdn : Int.toNat (dn ((q.length : Int) - 1) k) = q.length - 1 - k := by rw [Qq8]; omega
  obtain ⟨hl, hr⟩ := Qb1 h (k := ((q.length - 1 - k : Nat) : Int)) (by omega) (by omega)
  rw [Int.toNat_natCast] at hl hr
  have hlt : q.length - 1 - k < s.length := by omega
  unfold Yl
  rw [hdn]
  generalize q.length - 1 - k = i at hl hr hlt ⊢
  generalize nth q i = n at hl hr ⊢
  generalize (nth s i || (n.1 == 5)) = b
  have both : ∀ (e5 : (n.1 == (5 : Int)) = false), (n.1 = 6 ∨ n.1 = 7) → (List.set (List.set s (Int.toNat n.2.1) b) (Int.toNat n.2.2.1) b).length = q.length ∧ (∀ j : Nat, Qar n (j : Int) = false → nth (List.set (List.set s (Int.toNat n.2.1) b) (Int.toNat n.2.2.1) b) j = nth s j) ∧ (∀ j : Nat, Qar n (j : Int) = true → nth (List.set (List.set s (Int.toNat n.2.1) b) (Int.toNat n.2.2.1) b) j = b) := fun e5 h67 => by
    obtain ⟨g1, g2⟩ := hl (.inr h67)
    obtain ⟨g3, g4⟩ := hr h67
    have hop : (n.1 == 6 || n.1 == 7) = true := by rcases h67 with e | e <;> simp [e]
    have hlen : (List.set s (Int.toNat n.2.1) b).length = s.length := List.length_set ..
    refine ⟨by rw [List.length_set, hlen, hs], fun j hj => ?_, fun j hj => ?_⟩
    · simp only [Qar, hop, Bool.true_or, Bool.and_true, Bool.or_eq_false_iff, beq_eq_false_iff_ne, ne_eq] at hj
      rw [Qdf _ (by omega), Qdf _ (by omega)]
    · simp only [Qar, hop, Bool.true_or, Bool.and_true, Bool.or_eq_true, beq_iff_eq] at hj
      rw [Qnr _ (by omega), Qnr _ (by omega)]
      split
      · rfl
      · rw [if_pos (by omega)]
  by_cases h5 : n.1 = 5
  · obtain ⟨g1, g2⟩ := hl (.inl h5)
    simp only [h5, beq_self_eq_true, cond_true]
    refine ⟨_, rfl, by rw [List.length_set, hs], fun j hj => ?_, fun j hj => ?_⟩
    · have : n.2.1 ≠ (j : Int) := by simpa [Qar, h5] using hj
      exact Qdf _ (by omega)
    · have : n.2.1 = (j : Int) := by simpa [Qar, h5] using hj
      rw [Qnr _ (by omega), if_pos (by omega)]
  · have e5 : (n.1 == (5 : Int)) = false := beq_eq_false_iff_ne.2 h5
    rw [e5, cond_false]
    by_cases h6 : n.1 = 6
    · simp only [h6, beq_self_eq_true, cond_true]
      exact ⟨_, rfl, both e5 (.inl h6)⟩
    · by_cases h7 : n.1 = 7
      · simp only [h7, beq_self_eq_true, cond_true]
        exact ⟨_, rfl, both e5 (.inr h7)⟩
      · have e6 : (n.1 == (6 : Int)) = false := beq_eq_false_iff_ne.2 h6
        have e7 : (n.1 == (7 : Int)) = false := beq_eq_false_iff_ne.2 h7
        rw [e6, e7, cond_false, cond_false]
        refine ⟨_, rfl, hs, fun _ _ => rfl, fun j hj => ?_⟩
        simp [Qar, e5, e6, e7] at hj
def NegOk (q : List Yq) (k : Nat) (s : List Bool) : Prop := s.length = q.length ∧ ∀ i, q.length ≤ i + k → i < q.length → ∀ c : Nat, Qar (nth q i) (c : Int) = true → nth s c = (nth s i || ((nth q i).1 == 5))
theorem neg_next {q : List Yq} (h : Qm q = true) {k : Nat} (hk : k < q.length) {s : List Bool} (hs : NegOk q k s) : ∃ s', Yl q k s = .next s' ∧ NegOk q (k + 1) s' := by
  obtain ⟨s', h1, h2, h3, h4⟩ := neg_step h hk s hs.1
  have hself : nth s' (q.length - 1 - k) = nth s (q.length - 1 - k) := h3 _ (by
    cases hr : Qar (nth q (q.length - 1 - k)) ((q.length - 1 - k : Nat) : Int) with
    | false => rfl
    | true => have := ref_lt h (by omega) hr; omega)
  refine ⟨s', h1, h2, fun i hi1 hi2 c hc => ?_⟩
  by_cases e : i = q.length - 1 - k
  · subst e
    rw [h4 c hc, hself]
  · have hci := ref_lt h hi2 hc
    have n1 : Qar (nth q (q.length - 1 - k)) (c : Int) = false := by
      cases hr : Qar (nth q (q.length - 1 - k)) (c : Int) with
      | false => rfl
      | true => exact (ref_once h (c := c) (i := q.length - 1 - k) (j := i) (by omega) (by omega) hi2 hr hc).elim
    have n2 : Qar (nth q (q.length - 1 - k)) (i : Int) = false := by
      cases hr : Qar (nth q (q.length - 1 - k)) (i : Int) with
      | false => rfl
      | true => have := ref_lt h (by omega) hr; omega
    rw [h3 c n1, h3 i n2]
    exact hs.2 i (by omega) hi2 c hc
theorem Qtq {q : List Yq} (h : Qm q = true) : ∀ (n k : Nat) (s : List Bool), k + n = q.length → NegOk q k s → ∃ s', U5 (Yl q) J7 n k s = .brk s' ∧ NegOk q q.length s'
  | 0, k, s, hk, hs => ⟨s, rfl, by rw [show k = q.length by omega] at hs; exact hs⟩
  | n + 1, k, s, hk, hs => by
    obtain ⟨s1, h1, h2⟩ := neg_next h (by omega) hs
    obtain ⟨s2, h3, h4⟩ := Qtq h n (k + 1) s1 (by omega) h2
    exact ⟨s2, by simp only [U5, h1]; exact h3, h4⟩
theorem neg_kids {q : List Yq} (h : Qm q = true) : NegOk q q.length (Q7 q) := by
  unfold Q7
  obtain ⟨s, h1, h2⟩ := Qtq h (List.length q) 0 (List.replicate (Int.toNat (q.length : Int)) false) (by omega) ⟨by simp, fun i h1 h2 => by omega⟩
  rw [h]
  simp only [Bool.not_true, cond_false, h1, Out.on]
  exact h2
theorem neg_name {q : List Yq} {i : Nat} (hi : i < (Q7 q).length) (hn : nth (Q7 q) i = true) (hd : Z9 (nth q i) = true) : (nth q i).2.2.2.1 ∈ Xg q := by
  have key : ∀ (l : List Bool) (k : Nat) (s : List ByteArray), ∃ t, Xk (Ji q true) Kx l k s = .brk t ∧ (∀ x, x ∈ s → x ∈ t) ∧ ∀ j, l[j]? = some true → Z9 (nth q (k + j)) = true → (nth q (k + j)).2.2.2.1 ∈ t := by
    intro l
    induction l with
    | nil => intro k s; exact ⟨s, rfl, fun _ h => h, fun j h => by simp at h⟩
    | cons a l ih =>
      intro k s
      simp only [Xk, Ji]
      cases hc : (Z9 (nth q k) && (a == true)) with
      | true =>
        obtain ⟨t, h1, h2, h3⟩ := ih (k + 1) (s ++ [(nth q k).2.2.2.1])
        refine ⟨t, h1, fun x hx => h2 x (List.mem_append_left _ hx), fun j hj hnm => ?_⟩
        cases j with
        | zero => exact h2 _ (List.mem_append_right _ (by simp))
        | succ j =>
          have := h3 j (by simpa using hj) (by rwa [show k + 1 + j = k + (j + 1) by omega])
          rwa [show k + 1 + j = k + (j + 1) by omega] at this
      | false =>
        obtain ⟨t, h1, h2, h3⟩ := ih (k + 1) s
        refine ⟨t, h1, h2, fun j hj hnm => ?_⟩
        cases j with
        | zero =>
          obtain rfl : a = true := by simpa using hj
          rw [Nat.add_zero] at hnm
          rw [hnm] at hc; cases hc
        | succ j =>
          have := h3 j (by simpa using hj) (by rwa [show k + 1 + j = k + (j + 1) by omega])
          rwa [show k + 1 + j = k + (j + 1) by omega] at this
  unfold Xg Zu
  obtain ⟨t, h1, _, h3⟩ := key (Q7 q) 0 []
  rw [h1]
  simp only [Out.on]
  have := h3 i (by rw [X3 hi, hn]) (by rwa [Nat.zero_add])
  rw [Nat.zero_add] at this
  exact ((Qka t).2 _).2 this
/-! ### what a node says -/
theorem Qkm (l : List Int) (x : Int) : Zr l x = true ↔ x ∈ l := by
  rw [cid_eq]
  unfold Xo
  have key : ∀ (l : List Int) (k : Nat), ((Xk (Zz x) K5 l k ()).on fun _ => false) = true ↔ x ∈ l := by
    intro l
    induction l with
    | nil => intro k; simp [Xk, Out.on]
    | cons a l ih =>
      intro k
      simp only [Xk, Zz]
      by_cases h : a = x
      · subst h; simp [Out.on]
      · rw [beq_eq_false_iff_ne.2 h, cond_false, ih (k + 1)]
        simp [Ne.symm h]
  exact key l 0
structure Seen (q : List Yq) (a b : List Qk) : Prop where
  grow : ∀ nm x, x ∈ Xb a nm → x ∈ Xb b nm
  same : ∀ nm, nm ∈ Xg q → Xb a nm = Xb b nm
theorem Qme {q : List Yq} (hv : Qm q = true) {a b : List Qk} (hs : Seen q a b) (f : Yt) : ∀ (n : Nat) (k : Nat), k < n → k < q.length →
    (nth (Q7 q) k = true → Qx n q (k : Int) f a = Qx n q (k : Int) f b) ∧ (Qx n q (k : Int) f a = true → Qx n q (k : Int) f b = true)
  | 0, _, h, _ => absurd h (by omega)
  | n + 1, k, hkn, hk => by
    obtain ⟨hl, hr⟩ := Qb1 hv (k := (k : Int)) (by omega) (by omega)
    rw [Int.toNat_natCast] at hl hr
    obtain ⟨hlen, hneg⟩ := neg_kids hv
    have hneg := hneg k (by omega) hk
    have hop := vn_op (Qrj hv (X3 hk))
    have hnm := neg_name (q := q) (i := k) (by omega)
    have ih := Qme hv hs f n
    unfold Qx
    rw [Int.toNat_natCast]
    generalize nth q k = m at hl hr hneg hop hnm ⊢
    have kid : ∀ c : Int, 0 ≤ c → c < (k : Int) → Qar m c = true → ((nth (Q7 q) k || (m.1 == 5)) = true → Qx n q c f a = Qx n q c f b) ∧ (Qx n q c f a = true → Qx n q c f b = true) := fun c h0 h1 hrf => by
      obtain ⟨j, rfl⟩ : ∃ j : Nat, c = (j : Int) := ⟨Int.toNat c, by omega⟩
      obtain ⟨g1, g2⟩ := ih j (by omega) (by omega)
      exact ⟨fun hn => g1 ((hneg j hrf).trans hn), g2⟩
    rcases hop with h | h | h | h | h | h | h | h | h
    · simp [h]
    · simp [h]
    · simp [h]
    · simp [h]
    · obtain ⟨k1, k2⟩ := hl (.inl h)
      obtain ⟨g1, _⟩ := kid m.2.1 k1 k2 (by simp [Qar, h])
      have := g1 (by simp [h])
      simp [h, this]
    · obtain ⟨k1, k2⟩ := hl (.inr (.inl h))
      obtain ⟨k3, k4⟩ := hr (.inl h)
      obtain ⟨g1, g2⟩ := kid m.2.1 k1 k2 (by simp [Qar, h])
      obtain ⟨g3, g4⟩ := kid m.2.2.1 k3 k4 (by simp [Qar, h])
      refine ⟨fun hn => ?_, fun hm => ?_⟩
      · simp [h, g1 (by simp [hn]), g3 (by simp [hn])]
      · simp [h] at hm ⊢
        exact ⟨g2 hm.1, g4 hm.2⟩
    · obtain ⟨k1, k2⟩ := hl (.inr (.inr h))
      obtain ⟨k3, k4⟩ := hr (.inr h)
      obtain ⟨g1, g2⟩ := kid m.2.1 k1 k2 (by simp [Qar, h])
      obtain ⟨g3, g4⟩ := kid m.2.2.1 k3 k4 (by simp [Qar, h])
      refine ⟨fun hn => ?_, fun hm => ?_⟩
      · simp [h, g1 (by simp [hn]), g3 (by simp [hn])]
      · simp [h] at hm ⊢
        exact hm.imp g2 g4
    · refine ⟨fun hn => ?_, fun hm => ?_⟩
      · simp [h, hs.same _ (hnm hn (by simp [Z9, h]))]
      · simp [h] at hm ⊢
        exact (Qkm _ _).2 (hs.grow _ _ ((Qkm _ _).1 hm))
    · refine ⟨fun hn => ?_, fun hm => ?_⟩
      · simp [h, hs.same _ (hnm hn (by simp [Z9, h]))]
      · simp [h] at hm ⊢
        exact ⟨hm.1, (Qkm _ _).2 (hs.grow _ _ ((Qkm _ _).1 hm.2))⟩
theorem Qpx {q : List Yq} {a b : List Qk} (hs : Seen q a b) (f : Yt) (h : Ks q f a = true) : Ks q f b = true := by
  unfold Ks at h ⊢
  cases hv : Qm q with
  | false => rw [hv] at h; cases h
  | true =>
    rw [hv, Bool.true_and] at h
    rw [Bool.true_and]
    have hl := Qj6 hv
    have e : ((q.length : Int) - 1) = ((q.length - 1 : Nat) : Int) := by omega
    rw [e] at h ⊢
    exact (Qme hv hs f q.length (q.length - 1) (by omega) (by omega)).2 h
theorem Quz (s : X7) (q : List Yq) (r : List Qk) : Xy s q r = sel s.2.1 (fun f => f.1) fun f => Ks q f r := by
  unfold Xy
  rw [Qds (f := Kt q r) (p := fun f => Ks q f r) (g := fun f => f.1) (fun _ _ _ => rfl)]
  rfl
/-! ### strata that hold -/
theorem Qkn {d : List Zh} {L : List Int} (h : Qj d = (L, true)) : Y4 d = true ∧ L.length = d.length ∧ Sat (Z6 d) d.length L ∧ ∀ j, 0 ≤ nth L j := by
  unfold Qj at h
  cases hv : Y4 d with
  | false => rw [hv] at h; simp at h
  | true =>
    rw [hv] at h
    simp only [Bool.not_true, cond_false] at h
    have h5 := Qcs hv
    have hw := Qdh (d := d) (f := Vb d) (e := Vc) (F := Vd d) (fun _ _ _ => rfl) (fun _ _ => rfl) (fun _ => rfl) (by omega) (d.length * d.length + 3) (List.replicate d.length 0) true (Qah _).1 (Qah _).2
    have hsome : (Qhw (Z6 d) d.length d.length (d.length * d.length + 3) (true, List.replicate d.length 0)).isSome = true := by
      have := Qbv d h5
      rw [Int.toNat_natCast, hw, Option.isSome_map] at this
      exact this
    obtain ⟨r, hr⟩ := Option.isSome_iff_exists.1 hsome
    unfold Qk5 at h
    rw [Int.toNat_natCast, hw, hr] at h
    have hw' : ∀ i e, e ∈ Z6 d i → e.2 ≤ 1 ∧ e.1 < d.length := fun i e he => ⟨(Qer d i e he).1, (Qer d i e he).2.1⟩
    obtain ⟨h1, _⟩ := Qi3 hw' _ 0 true r (fun e => by cases e) hr
    cases r with
    | none => simp [endD, Out.on] at h
    | some M =>
      have e : M = L := by simpa [endD, Out.on] using h
      subst e
      obtain ⟨hrest, hM⟩ := h1 M rfl
      rw [hM]
      exact ⟨rfl, V3 _ _ _, Qgv (V3 _ _ _) hrest, fun j => Ha _ _ j _⟩
theorem strata_le {d : List Zh} {L : List Int} (h : Qj d = (L, true)) : ∀ j, nth L j ≤ (d.length : Int) := by
  obtain ⟨hv, hlen, _, _⟩ := Qkn h
  have h5 := Qcs hv
  unfold Qj at h
  rw [hv] at h
  simp only [Bool.not_true, cond_false] at h
  have hw := Qdh (d := d) (f := Vb d) (e := Vc) (F := Vd d) (fun _ _ _ => rfl) (fun _ _ => rfl) (fun _ => rfl) (by omega) (d.length * d.length + 3) (List.replicate d.length 0) true (Qah _).1 (Qah _).2
  have hsome : (Qhw (Z6 d) d.length d.length (d.length * d.length + 3) (true, List.replicate d.length 0)).isSome = true := by
    have := Qbv d h5
    rw [Int.toNat_natCast, hw, Option.isSome_map] at this
    exact this
  obtain ⟨r, hr⟩ := Option.isSome_iff_exists.1 hsome
  unfold Qk5 at h
  rw [Int.toNat_natCast, hw, hr] at h
  have hw' : ∀ i e, e ∈ Z6 d i → e.2 ≤ 1 ∧ e.1 < d.length := fun i e he => ⟨(Qer d i e he).1, (Qer d i e he).2.1⟩
  obtain ⟨h1, _⟩ := Qi3 hw' _ 0 true r (fun e => by cases e) hr
  cases r with
  | none => simp [endD, Out.on] at h
  | some M =>
    have e : M = L := by simpa [endD, Out.on] using h
    subst e
    obtain ⟨hrest, hM⟩ := h1 M rfl
    intro j
    by_cases hj : j < d.length
    · rw [hM]; exact Int.le_of_lt (Qrn hw' hrest j hj)
    · have : nth M j = 0 := Qkb (by omega)
      omega
theorem Qes {d : List Zh} {w : Int} {nm : ByteArray} : ∀ {l : List ByteArray}, nm ∈ l → 0 ≤ Xi d nm → (Int.toNat (Xi d nm), w) ∈ J0 d w l
  | x :: l, h, h0 => by
    simp only [J0]
    rcases List.mem_cons.1 h with rfl | h
    · rw [if_pos h0]; exact List.mem_cons_self ..
    · split
      · exact List.mem_cons_of_mem _ (Qes h h0)
      · exact Qes h h0
theorem Qu0 {d : List Zh} {L : List Int} (h : Qj d = (L, true)) {i : Nat} (hi : i < d.length) {nm : ByteArray} (hn : nm ∈ Xg (nth d i).2) (h0 : 0 ≤ Xi d nm) : nth L (Int.toNat (Xi d nm)) < nth L i := by
  obtain ⟨_, _, hs, _⟩ := Qkn h
  have hm : (Int.toNat (Xi d nm), (1 : Int)) ∈ Z6 d i := by
    unfold Z6
    rw [if_pos hi]
    exact List.mem_append_right _ (Qes hn h0)
  have := (Qao.1 (hs i hi)).2 _ hm
  simp only at this
  omega
end Go.Proofs.YtnhmnfmhnepjmaaGreat
namespace Go.Proofs.YtnhmnfmhnepjmaaGreat
open Go.RowKit
theorem rids_go (nm : ByteArray) : ∀ (d : List Zh) (o : List Qk) (k : Nat), o.map (·.1) = d.map (·.1) →
    (Xk (Jb nm) Kn d k () = .brk () ∧ Xk (Zw nm) J3 o k () = .brk ()) ∨
    ∃ i : Nat, i < d.length ∧ Xk (Jb nm) Kn d k () = .ret (((k + i : Nat)) : Int) ∧ Xk (Zw nm) J3 o k () = .ret (nth o i).2
  | [], [], _, _ => .inl ⟨rfl, rfl⟩
  | [], _ :: _, _, h => by simp at h
  | _ :: _, [], _, h => by simp at h
  | a :: d, b :: o, k, h => by
    simp only [List.map_cons, List.cons.injEq] at h
    obtain ⟨h1, h2⟩ := h
    simp only [Xk, Jb, Zw, h1]
    cases (a.1.toList == nm.toList) with
    | true => exact .inr ⟨0, by simp, rfl, rfl⟩
    | false =>
      simp only [cond_false]
      rcases rids_go nm d o (k + 1) h2 with h | ⟨i, hi, h3, h4⟩
      · exact .inl h
      · exact .inr ⟨i + 1, by simpa using hi, by rw [h3, show k + 1 + i = k + (i + 1) by omega], h4⟩
theorem Qko {d : List Zh} {o : List Qk} (h : o.map (·.1) = d.map (·.1)) (nm : ByteArray) : (Xi d nm < 0 ∧ Xb o nm = []) ∨ (0 ≤ Xi d nm ∧ Int.toNat (Xi d nm) < d.length ∧ Xb o nm = (nth o (Int.toNat (Xi d nm))).2) := by
  rw [← Qth]
  unfold Qr Xb
  rcases rids_go nm d o 0 h with ⟨h1, h2⟩ | ⟨i, hi, h1, h2⟩
  · rw [h1, h2]
    refine .inl ⟨?_, ?_⟩
    · show (-1 : Int) < 0; omega
    · rfl
  · rw [h1, h2]
    simp only [Out.on, Nat.zero_add, Int.toNat_natCast]
    exact .inr ⟨by omega, hi, trivial⟩
abbrev Qns (d : List Zh) (k : Nat) (o : List Qk) (f : Yt) : Bool := Ks (nth d k).2 f o
theorem mono_ok {d : List Zh} {L : List Int} (h : Qj d = (L, true)) (fs : List Yt) {act : Nat → Bool} {level : Int} (ha : ∀ k, act k = true → nth L k = level) : MonoC fs (Qns d) act (d.map (·.1)) := by
  intro a b hna hnb hle k hk hact f _ hm
  rw [List.length_map] at hk
  refine Qpx (⟨fun nm x hx => ?_, fun nm hn => ?_⟩ : Seen (nth d k).2 a b) f hm
  · rcases Qko hna nm with ⟨h1, h2⟩ | ⟨h1, h2, h3⟩
    · rw [h2] at hx; simp at hx
    · rcases Qko hnb nm with ⟨g1, _⟩ | ⟨_, _, g3⟩
      · omega
      · rw [h3] at hx
        rw [g3]
        exact (hle _).1 x hx
  · rcases Qko hna nm with ⟨h1, h2⟩ | ⟨h1, h2, h3⟩
    · rcases Qko hnb nm with ⟨_, g2⟩ | ⟨g1, _, _⟩
      · rw [h2, g2]
      · omega
    · rcases Qko hnb nm with ⟨g1, _⟩ | ⟨_, _, g3⟩
      · omega
      · rw [h3, g3]
        refine (hle _).2 ?_
        have hlt := Qu0 h hk hn h1
        cases hp : act (Int.toNat (Xi d nm)) with
        | false => rfl
        | true => have := ha _ hp; have := ha _ hact; omega
structure EvS (d : List Zh) (L : List Int) (on : Nat → Bool) (B : Nat) (k : Int) (o : List Qk) : Prop where
  names : o.map (·.1) = d.map (·.1)
  none : ∀ j, k ≤ nth L j → on j = true → (nth o j).2 = []
  short : ∀ j, j < d.length → on j = true → (nth o j).2.length ≤ B
def Qqm (L : List Int) (on : Nat → Bool) (k : Int) (j : Nat) : Bool := (nth L j == k) && on j
theorem evS_state {d : List Zh} {L : List Int} {on : Nat → Bool} {B : Nat} {k : Int} {o : List Qk} (fs : List Yt) (h : EvS d L on B k o) : StateC fs (fun f : Yt => f.1) (Qns d) (Qqm L on k) (d.map (·.1)) o o :=
  ⟨h.names, fun j _ hj => ⟨fun _ => false, by
    unfold Qqm at hj
    simp only [Bool.and_eq_true, beq_iff_eq] at hj
    rw [h.none j (by omega) hj.2]; simp [sel], fun f _ hf => by cases hf⟩, fun _ _ => rfl⟩
theorem evS_next {d : List Zh} {L : List Int} {on : Nat → Bool} {k : Int} {o o' : List Qk} {fs : List Yt} (h : EvS d L on fs.length k o) (h' : StateC fs (fun f : Yt => f.1) (Qns d) (Qqm L on k) (d.map (·.1)) o o') : EvS d L on fs.length (k + 1) o' :=
  ⟨h'.names, fun j hj hon => by
    rw [h'.rest j (by unfold Qqm; rw [Bool.and_eq_false_iff]; exact .inl (beq_eq_false_iff_ne.2 (by omega)))]
    exact h.none j (by omega) hon, fun j hj hon => by
    cases ha : Qqm L on k j with
    | false => rw [h'.rest j ha]; exact h.short j hj hon
    | true =>
      have hlen : o'.length = d.length := by have := congrArg List.length h'.names; simpa using this
      obtain ⟨p, hp, _⟩ := h'.good j (by omega) ha
      rw [hp]; exact sel_len _ _ _⟩
theorem Qb2 {d : List Zh} {L : List Int} {on : Nat → Bool} {B : Nat} {k : Int} {o : List Qk} (h : EvS d L on B k o) : List.length o = List.length d := by have := congrArg List.length h.names; simpa using this
theorem Qnt (a b : List Int) : Z3 a b = decide (a = b) := by
  by_cases h : a.length = b.length
  · exact ints_eq a b h
  · have hb : ((a.length : Int) != (b.length : Int)) = true := by simpa using fun e : (a.length : Int) = (b.length : Int) => h (by omega)
    unfold Z3
    rw [hb, decide_eq_false (fun e => h (congrArg List.length e))]
    rfl
def StepE (s : X7) (d : List Zh) (L : List Int) (on : Nat → Bool) (lv : Int) {R T : Type} (f : Nat → Zh → List Qk × Bool → Rd R (List Qk × Bool) T) : Prop :=
  ∀ k a o c, d[k]? = some a → f k a (o, c) = bif Qqm L on lv k then (bif !(decide (Xy s a.2 o = (nth o k).2)) then .next (List.set o k ((nth o k).1, Xy s a.2 o), true) else .next (o, c)) else .next (o, c)
theorem Qnu {R : Type} {s : X7} {d : List Zh} {L : List Int} {on : Nat → Bool} {lv : Int} {f : Nat → Zh → List Qk × Bool → Rd R (List Qk × Bool) (List Qk × Bool)} {e : Nat → List Qk × Bool → List Qk × Bool}
    (hf : StepE s d L on lv f) (he : ∀ k s, e k s = s) : ∀ (l : List Zh) (k : Nat) (o : List Qk) (c : Bool), d.drop k = l → Xk f e l k (o, c) = .brk (Qnq s.2.1 (fun f : Yt => f.1) (Qns d) (Qqm L on lv) (List.range' k l.length) (o, c))
  | [], k, o, c, _ => by simp [Xk, Qnq, he]
  | a :: l, k, o, c, hl => by
    have hk : d[k]? = some a := by
      have := congrArg (·[0]?) hl
      simpa using this
    have ha : nth d k = a := Ql0 hk
    have hrest : d.drop (k + 1) = l := by rw [← List.drop_drop, hl]; rfl
    have hp : Qnq s.2.1 (fun f : Yt => f.1) (Qns d) (Qqm L on lv) (List.range' k (a :: l).length) (o, c) = Qnq s.2.1 (fun f : Yt => f.1) (Qns d) (Qqm L on lv) (List.range' (k + 1) l.length) (Qpu s.2.1 (fun f : Yt => f.1) (Qns d) (Qqm L on lv) (o, c) k) := by
      rw [List.length_cons, List.range'_succ]; rfl
    have hsel : sel s.2.1 (fun f : Yt => f.1) (Qns d k o) = Xy s a.2 o := by rw [Quz, ← ha]
    rw [hp]
    simp only [Xk, hf k a o c hk]
    unfold Qpu
    cases Qqm L on lv k with
    | false => simp only [cond_false]; exact Qnu hf he l (k + 1) o c hrest
    | true =>
      simp only [cond_true, hsel]
      by_cases hq : Xy s a.2 o = (nth o k).2
      · rw [decide_eq_true hq, if_pos hq]; exact Qnu hf he l (k + 1) o c hrest
      · rw [decide_eq_false hq, if_neg hq]; exact Qnu hf he l (k + 1) _ true hrest
theorem ev_run {R' : Type} {s : X7} {d : List Zh} {L : List Int} {on : Nat → Bool} {lv : Int} {f : Nat → Zh → List Qk × Bool → Rd (Rd R' (List Qk × Int × Bool) (List Qk × Int)) (List Qk × Bool) (List Qk × Bool)} {e : Nat → List Qk × Bool → List Qk × Bool} {F : List Qk × Int × Bool → Rd R' (List Qk × Int × Bool) (List Qk × Int)}
    (hf : StepE s d L on lv f) (he : ∀ k s, e k s = s) (hF : ∀ x, F x = bif x.2.2 then (Out.on (Xk f e d 0 (x.1, false)) fun y => .next (y.1, IntKind.i64.wrap (x.2.1 + 1), y.2)) else .brk (x.1, x.2.1))
    (hS : Qj d = (L, true)) {o : List Qk} (h : EvS d L on s.2.1.length lv o) (p : Int) :
    ∃ o' p', whl F (List.length d * List.length s.2.1 + 2) (o, p, true) = some (.brk (o', p')) ∧ EvS d L on s.2.1.length (lv + 1) o' := by
  have hlen : o.length = d.length := by have := congrArg List.length h.names; simpa using this
  have hroom := room_le s.2.1.length (Qqm L on lv) o 0
  rw [hlen] at hroom
  obtain ⟨s', h1, hc, t, h2, h3⟩ := whlC (fs := s.2.1) (idOf := fun f : Yt => f.1) (m := Qns d) (act := Qqm L on lv) (nm := d.map (·.1)) (F := F) (out := fun x => x.1) (ch := fun x => x.2.2) (n := d.length) (by simp)
    (fun x hx => ⟨_, by rw [hF, hx, cond_true, Qnu hf he d 0 x.1 false rfl]; rfl, by rw [List.range_eq_range']⟩)
    (fun x hx => ⟨_, by rw [hF, hx, cond_false]⟩) (mono_ok hS s.2.1 fun k hk => by unfold Qqm at hk; simp only [Bool.and_eq_true, beq_iff_eq] at hk; exact hk.1) (o := o) (List.length d * List.length s.2.1 + 2) (o, p, true) (evS_state s.2.1 h) (by simp only [cond_true]; omega)
  have hc' : s'.2.2 = false := hc
  have hb : F s' = .brk (s'.1, s'.2.1) := by rw [hF, hc']; rfl
  rw [hb] at h2
  cases h2
  exact ⟨s'.1, s'.2.1, h3, evS_next h h1⟩
theorem Qi8 {R T : Type} {d : List Zh} {L : List Int} {on : Nat → Bool} {B : Nat} {g : Zh → List Int} {f : Nat → Zh → List Qk → Rd R (List Qk) T} {e : Nat → List Qk → T} (hf : ∀ k a s, f k a s = .next (s ++ [(a.1, g a)])) (hg : ∀ j, j < d.length → on j = true → g (nth d j) = []) :
    Xk f e d 0 [] = .brk (e d.length (d.map fun a => (a.1, g a))) ∧ EvS d L on B 0 (d.map fun a => (a.1, g a)) := by
  refine ⟨by rw [Qgm (g := fun a => ((a.1, g a) : Qk)) hf]; simp, ?_, fun j _ hj => ?_, fun j hj hon => ?_⟩
  · rw [List.map_map]; rfl
  · by_cases hjl : j < d.length
    · have : nth (d.map fun a => ((a.1, g a) : Qk)) j = ((nth d j).1, g (nth d j)) := by simp [nth, List.getD, hjl]
      rw [this]; exact hg j hjl hj
    · have : nth (d.map fun a => ((a.1, g a) : Qk)) j = default := by simp [nth, List.getD, hjl]
      rw [this]; rfl
  · have : nth (d.map fun a => ((a.1, g a) : Qk)) j = ((nth d j).1, g (nth d j)) := by simp [nth, List.getD, hj]
    rw [this, hg j hj hon]; exact Nat.zero_le _
theorem Qc1 {d : List Zh} (h : ((Qj d)).2 = true) : List.length ((Qj d)).1 = List.length d ∧ List.length d ≤ 5 ∧ ∀ x, x ∈ ((Qj d)).1 → 0 ≤ x ∧ x ≤ 5 := by
  have hS : Qj d = ((Qj d).1, true) := Prod.ext rfl h
  obtain ⟨hv, hlen, hs, h0⟩ := Qkn hS
  have h5 := Qcs hv
  refine ⟨hlen, h5, fun x hx => ?_⟩
  obtain ⟨i, hi, rfl⟩ := Qnh hx
  refine ⟨h0 i, ?_⟩
  have hb := strata_le hS i
  omega
end Go.Proofs.YtnhmnfmhnepjmaaGreat
