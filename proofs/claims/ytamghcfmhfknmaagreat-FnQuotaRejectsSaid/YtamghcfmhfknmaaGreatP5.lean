/- Texts of this proof, put together by a program: Stc, Stg, Sth, Std, Ste, Isa, Isb, Ckc, Slb, Ev, Ex, Ey. -/
import Derived.Test.YtamghcfmhfknmaaGreatP4
import Derived.KernelRfl
set_option linter.unusedVariables false
set_option linter.unusedSimpArgs false
namespace Go.Proofs.YtamghcfmhfknmaaGreat
open Go.RowKit
open GoE (enc wide)
def Wl (d : (List Zt)) (strata : (List Int)) (more : Int) (_ : Nat) (a0 : ByteArray) (s0 : Int) : Rd (Int) (Int) (Int) := (bif decide ((Xc d a0) ≥ (0 : Int)) then (.next (max s0 (IntKind.i64.wrap ((nth strata (Int.toNat (Xc d a0))) + more)))) else (.next s0))
def U1 (_ : Nat) (s0 : Int) : Int := s0
def Xu (d : (List Zt)) (strata : (List Int)) (names : (List ByteArray)) (more : Int) : Int := (Out.on (Xv (Wl d strata more) U1 names 0 0) (fun y0 => y0))
theorem Qe8 (d : (List Zt)) (strata : (List Int)) (names : (List ByteArray)) (more : Int) (hp : List.length d ≤ List.length strata) : ACalls Tryz.prog 220 [.h d, .h strata, .h names, .i more] (.i (Xu d strata names more)) := by
 refine Qt (tt := tt) Qb Tryz.func220 (fn := Tryz.f220) rfl (by unfold Jr; kernel_rfl) (Nat.le_of_ble_eq_true rfl) fun w0 F0 hG => ?_
 refine Qa ?_
 refine rk Qb [(8, .i 0)] [] [] [] [] (o0) ?_
 refine Qa ?_
 refine rk Qb [(9, .i 0)] [] [] [] [] (o0) ?_
 refine Qa ?_
 refine Qa ?_
 refine rk Qb [(13, .h names), (14, .i (names.length : Int)), (15, .i 0)] [2] [] [] [(1, .val (.i (names.length : Int)))] (o1 (Qi (Xs names))) ?_
 refine wdT 13 0 .sh names (fun hw1 => ?_)
 have hl2 : List.length names ≤ 1073741824 := Qx (hw1)
 refine blk (fun (k0 : Nat) (s0 : Int) => [(9, .i s0), (15, .i ((k0 : Nat) : Int))]) [9, 15] (fun k0 s0 => []) [] (fun (y0 : Int) => [(9, .i y0)]) [0, 1, 3, 9, 13, 14, 15] (fun y0 => []) [] (fun (k0 : Nat) (s0 : Int) => (Xv (Wl d strata more) U1 names 0 0) = Xv (Wl d strata more) U1 (List.drop k0 names) k0 s0) (fun (y0 : Int) => (Xv (Wl d strata more) U1 names 0 0) = .brk y0) names.length 0 (Qd (by kernel_rfl)) rfl (fun k0 s0 hk0 hI0 => ?_) (fun k0 s0 hk0 hI0 => ?_) (fun y0 hD0 => ?_)
 ·
  obtain ⟨a0, hx0⟩ := Yl (l := names) (i := k0) hk0
  refine Qa ?_
  refine rk Qb [(16, .b true)] [] [] [] [(0, .val (.b true))] (o1 (Qi (Qh (decide_eq_true (p := ((k0 : Nat) : Int) < (names.length : Int)) (by omega))))) ?_
  refine Qa ?_
  refine ckT ?_
  refine Qr ?_
  refine Qa ?_
  refine Xf ?_
  refine Qa ?_
  refine rk Qb [(11, .s a0)] [16] [] [] [(0, .row [.s a0])] (o1 (Qy (X4 (i := ((k0 : Nat) : Int)) (by omega) rfl hx0))) ?_
  refine Qa ?_
  refine rk Qb [(12, .i (Xc d a0))] [11] [] [] [(2, .val (.i (Xc d a0)))] (o1 (Qg (impldirAt_a d a0))) ?_
  refine Qa ?_
  refine rk Qb [(23, .b (decide ((Xc d a0) ≥ (0 : Int))))] [] [] [] [] (o0) ?_
  refine ck (decide ((Xc d a0) ≥ (0 : Int))) (fun h3 => ?_) (fun h3 => ?_)
  ·
   have h3p := place_lt d a0
   have h3d := of_decide_eq_true h3
   refine wdT 1 0 .sh strata (fun hw5 => ?_)
   have hl6 : List.length strata ≤ 1073741824 := Qx (hw5)
   have hx4 : strata[(Int.toNat (Xc d a0))]? = some (nth strata (Int.toNat (Xc d a0))) := Yj (by omega)
   refine rk Qb [(9, .i (max s0 (IntKind.i64.wrap ((nth strata (Int.toNat (Xc d a0))) + more))))] [9, 12, 23] [] [] [(3, .row [.i (nth strata (Int.toNat (Xc d a0)))])] (o1 (Qy (X4 (i := (Xc d a0)) (by omega) rfl hx4))) ?_
   refine rk Qb [(15, .i ((k0 + 1 : Nat) : Int))] [15] [] [] [(0, .val (.i ((k0 + 1 : Nat) : Int)))] (o1 (Qi (Km (Q8 k0 (by omega))))) ?_
   exact Exists.intro (max s0 (IntKind.i64.wrap ((nth strata (Int.toNat (Xc d a0))) + more))) (And.intro (Qd (by kernel_rfl)) (Xe hx0 (X8 h3 (rfl)) hI0))
  ·
   have h3d := of_decide_eq_false h3
   refine Qr ?_
   refine rk Qb [(15, .i ((k0 + 1 : Nat) : Int))] [12, 15, 23] [] [] [(0, .val (.i ((k0 + 1 : Nat) : Int)))] (o1 (Qi (Km (Q8 k0 (by omega))))) ?_
   exact Exists.intro s0 (And.intro (Qd (by kernel_rfl)) (Xe hx0 (Q6 h3 (rfl)) hI0))
 ·
  refine Qa ?_
  refine rk Qb [(16, .b false)] [] [] [] [(0, .val (.b false))] (o1 (Qi (Qh (decide_eq_false (p := ((k0 : Nat) : Int) < (names.length : Int)) (by omega))))) ?_
  refine Qa ?_
  refine ckF ?_
  refine Xt ?_
  exact Exists.intro s0 (And.intro (Qd (by kernel_rfl)) (Ym hk0 (rfl) hI0))
 ·
  refine Qa ?_
  refine rk Qb [(8, .i y0)] [8, 9] [] [] [] (o0) ?_
  refine Qq ?_
  exact Ze [] (congrArg (fun z => (.i z : AV)) (show Xu d strata names more = y0 from Hk hD0 (rfl)).symm)
def Wa (d : (List Zt)) (k0 : Nat) (_ : Nat) (a1 : ByteArray) (s1 : (List Int)) : Rd (Rd ((List Int)) ((List Int)) ((List Int))) ((List Int)) ((List Int)) := (bif (decide ((Xg d a1) ≥ (0 : Int)) && decide ((nth s1 (Int.toNat (Xg d a1))) > (nth s1 k0))) then (.next (List.set s1 k0 (nth s1 (Int.toNat (Xg d a1))))) else (.next s1))
def Up (_ : Nat) (s1 : (List Int)) : (List Int) := s1
def Wb (d : (List Zt)) (k0 : Nat) (_ : Nat) (a2 : ByteArray) (s2 : (List Int)) : Rd (Rd ((List Int)) ((List Int)) ((List Int))) ((List Int)) ((List Int)) := (bif (decide ((Xg d a2) ≥ (0 : Int)) && decide (IntKind.i64.wrap ((nth s2 (Int.toNat (Xg d a2))) + 1) > (nth s2 k0))) then (.next (List.set s2 k0 (IntKind.i64.wrap ((nth s2 (Int.toNat (Xg d a2))) + 1)))) else (.next s2))
def Hn (_ : Nat) (s2 : (List Int)) : (List Int) := s2
def Vk (d : (List Zt)) (k0 : Nat) (a0 : Zt) (s0 : (List Int)) : Rd ((List Int)) ((List Int)) ((List Int)) := (Out.on (Xv (Wa d k0) Up (Y3 a0.2) 0 s0) (fun y1 => (Out.on (Xv (Wb d k0) Hn (Y4 a0.2) 0 y1) (fun y2 => (.next y2)))))
def Ho (_ : Nat) (s0 : (List Int)) : (List Int) := s0
def J9 (d : (List Zt)) (lev : (List Int)) : (List Int) := (Out.on (Xv (Vk d) Ho d 0 lev) (fun y0 => y0))
theorem specl13Raise_a (d : (List Zt)) (lev : (List Int)) (hp : List.length d ≤ List.length lev) : ACalls Tryz.prog 173 [.h d, .h lev] (.o 0 (J9 d lev)) := by
 refine Qt (tt := tt) Qb Tryz.func173 (fn := Tryz.f173) rfl (by unfold Jr; kernel_rfl) (Nat.le_of_ble_eq_true rfl) fun w0 F0 hG => ?_
 refine Qa ?_
 refine rk Qb [(4, .e 0)] [] [] [] [] (o0) ?_
 refine Qa ?_
 refine wdT 1 0 .sh lev (fun hw1 => ?_)
 have hl2 : List.length lev ≤ 1073741824 := Qx (hw1)
 refine rk Qb [(5, .o 960 lev)] [1] [] [] [(2, .flat)] (o2 (V9 (n := (([] : List (List PV)).length + ((eL lev) : List (List PV)).length)) (Wi (rfl) (Xm lev) (by first | omega | (simp only [List.length_cons, List.length_nil]; omega) | (simp; omega) | simp))) (o1 (Qeb (Qdu lev)))) ?_
 refine Qa ?_
 refine Qa ?_
 refine rk Qb [(6, .i 0)] [] [] [] [] (o0) ?_
 refine wdT 0 0 .sh d (fun hw3 => ?_)
 have hl4 : List.length d ≤ 1073741824 := Qx (hw3)
 refine blk (fun (k0 : Nat) (s0 : (List Int)) => [(5, .o 960 s0), (6, .i ((k0 : Nat) : Int))]) [5, 6] (fun k0 s0 => []) [] (fun (y0 : (List Int)) => [(5, .o 960 y0)]) [0, 5, 6] (fun y0 => []) [] (fun (k0 : Nat) (s0 : (List Int)) => (Xv (Vk d) Ho d 0 lev) = Xv (Vk d) Ho (List.drop k0 d) k0 s0 ∧ List.length s0 = List.length lev) (fun (y0 : (List Int)) => (Xv (Vk d) Ho d 0 lev) = .brk y0 ∧ List.length y0 = List.length lev) d.length lev (Qd (by kernel_rfl)) ⟨rfl, (by simp)⟩ (fun k0 s0 hk0 hI0 => ?_) (fun k0 s0 hk0 hI0 => ?_) (fun y0 hD0 => ?_)
 ·
  have hA0_0 := hI0.2
  obtain ⟨a0, hx0⟩ := Yl (l := d) (i := k0) hk0
  refine Qa ?_
  refine Qa ?_
  refine rk Qb [(19, .b true)] [] [] [] [(2, .val (.i (d.length : Int))), (3, .val (.b true))] (o2 (Qi (Xs d)) (o1 (Qi (Qh (decide_eq_true (p := ((k0 : Nat) : Int) < (d.length : Int)) (by omega)))))) ?_
  refine ckT ?_
  refine Qr ?_
  refine Qa ?_
  refine Xf ?_
  refine Qa ?_
  refine rk Qb [(7, .o 1728 (Y3 a0.2))] [19] [] [] [(2, .row [.s a0.1, .h a0.2]), (5, .val (.o 0 (Y3 a0.2)))] (o2 (Qy (X4 (i := ((k0 : Nat) : Int)) (by omega) rfl hx0)) (o1 (Qg (specPositiveDeps_a a0.2)))) ?_
  refine Qa ?_
  refine Qa ?_
  refine rk Qb [(8, .i 0)] [] [] [] [] (o0) ?_
  refine wdT 7 0 (.own true 1728) (Y3 a0.2) (fun hw5 => ?_)
  have hl6 : List.length (Y3 a0.2) ≤ 1073741824 := Qx (hw5)
  refine blk (fun (k1 : Nat) (s1 : (List Int)) => [(5, .o 960 s1), (8, .i ((k1 : Nat) : Int))]) [5, 8] (fun k1 s1 => []) [] (fun (y1 : (List Int)) => [(5, .o 960 y1)]) [5, 7, 8] (fun y1 => []) [] (fun (k1 : Nat) (s1 : (List Int)) => (Xv (Wa d k0) Up (Y3 a0.2) 0 s0) = Xv (Wa d k0) Up (List.drop k1 (Y3 a0.2)) k1 s1 ∧ List.length s1 = List.length s0) (fun (y1 : (List Int)) => (Xv (Wa d k0) Up (Y3 a0.2) 0 s0) = .brk y1 ∧ List.length y1 = List.length s0) ((Y3 a0.2).length) s0 (Qd (by kernel_rfl)) ⟨rfl, (by simp)⟩ (fun k1 s1 hk1 hI1 => ?_) (fun k1 s1 hk1 hI1 => ?_) (fun y1 hD1 => ?_)
  ·
   have hA1_0 := hI1.2
   obtain ⟨a1, hx1⟩ := Yl (l := Y3 a0.2) (i := k1) hk1
   refine Qa ?_
   refine Qa ?_
   refine rk Qb [(31, .b true)] [] [] [] [(2, .val (.i ((Y3 a0.2).length : Int))), (3, .val (.b true))] (o2 (Qi (Xs (Y3 a0.2))) (o1 (Qi (Qh (decide_eq_true (p := ((k1 : Nat) : Int) < ((Y3 a0.2).length : Int)) (by omega)))))) ?_
   refine ckT ?_
   refine Qr ?_
   refine Qa ?_
   refine Xf ?_
   refine Qa ?_
   refine rk Qb [(9, .i (Xg d a1))] [31] [] [] [(3, .rowE [.s a1]), (5, .val (.i (Xg d a1)))] (o2 (Qy (X4 (i := ((k1 : Nat) : Int)) (by omega) rfl hx1)) (o1 (Qg (specl11Place_a d a1)))) ?_
   refine Qa ?_
   refine jn [(52, .b (decide ((Xg d a1) ≥ (0 : Int)) && decide ((nth s1 (Int.toNat (Xg d a1))) > (nth s1 k0))))] [] [] [] (decide ((Xg d a1) ≥ (0 : Int))) (fun h7 => ?_) (fun h7 => ?_) ?_
   ·
    have h7p := place_ltS d a1
    have h7d := of_decide_eq_true h7
    refine wdT 5 0 (.own true 960) s1 (fun hw9 => ?_)
    have hl10 : List.length s1 ≤ 1073741824 := Qx (hw9)
    have hx8 : s1[(Int.toNat (Xg d a1))]? = some (nth s1 (Int.toNat (Xg d a1))) := Yj (by omega)
    have hx11 : s1[k0]? = some (nth s1 k0) := Yj (by omega)
    refine rd' Qb Js [(52, .b (decide ((nth s1 (Int.toNat (Xg d a1))) > (nth s1 k0))))] [] [] [] [(1, .val (.b true)), (5, .rowE [.i (nth s1 (Int.toNat (Xg d a1)))]), (9, .rowE [.i (nth s1 k0)])] (o2 (Qi (Qh h7)) (o2 (Qy (X4 (i := (Xg d a1)) (by omega) rfl hx8)) (o1 (Qy (X4 (i := ((k0 : Nat) : Int)) (by omega) rfl hx11))))) ?_
    exact ⟨rfl, Qd (by rw [h7]; first | done | kernel_rfl)⟩
   ·
    refine rd' Qb Js [(52, .b false)] [] [] [] [(1, .val (.b false))] (o1 (Qi (Qh h7))) ?_
    exact ⟨rfl, Qd (by rw [h7]; first | done | kernel_rfl)⟩
   refine ck (decide ((Xg d a1) ≥ (0 : Int)) && decide ((nth s1 (Int.toNat (Xg d a1))) > (nth s1 k0))) (fun h12 => ?_) (fun h12 => ?_)
   ·
    have h12l : (decide ((Xg d a1) ≥ (0 : Int))) = true := and_l h12
    have h12lp := place_ltS d a1
    have h12ld := of_decide_eq_true h12l
    have h12r : (decide ((nth s1 (Int.toNat (Xg d a1))) > (nth s1 k0))) = true := and_r h12
    have h12rd := of_decide_eq_true h12r
    refine wdT 5 0 (.own true 960) s1 (fun hw14 => ?_)
    have hl15 : List.length s1 ≤ 1073741824 := Qx (hw14)
    have hx13 : s1[(Int.toNat (Xg d a1))]? = some (nth s1 (Int.toNat (Xg d a1))) := Yj (by omega)
    have hx16 : s1[k0]? = some (nth s1 k0) := Yj (by omega)
    refine rk Qb [(5, .one (.slc (.own true 960) 1 (setRow (eL s1) k0 0 [.i (nth s1 (Int.toNat (Xg d a1)))])))] [5, 9, 52] [] [] [(4, .rowE [.i (nth s1 (Int.toNat (Xg d a1)))]), (6, .rowE [.i (nth s1 k0)])] (o2 (Qy (X4 (i := (Xg d a1)) (by omega) rfl hx13)) (o1 (Qy (X4 (i := ((k0 : Nat) : Int)) (by omega) rfl hx16)))) ?_
    refine eqn [(5, .o 960 (List.set s1 k0 (nth s1 (Int.toNat (Xg d a1)))))] [5] [] [] (by rw [K0 (y := (nth s1 (Int.toNat (Xg d a1)))) hx16 rfl]; first | done | kernel_rfl) ?_
    refine rk Qb [(8, .i ((k1 + 1 : Nat) : Int))] [8] [] [] [(1, .val (.i ((k1 + 1 : Nat) : Int)))] (o1 (Qi (Km (Q8 k1 (by omega))))) ?_
    exact Exists.intro (List.set s1 k0 (nth s1 (Int.toNat (Xg d a1)))) (And.intro (Qd (by kernel_rfl)) ⟨Xe hx1 (X8 h12 (rfl)) hI1.1, (by first | omega | (simp only [List.length_set]; omega))⟩)
   ·
    refine Qr ?_
    refine rk Qb [(8, .i ((k1 + 1 : Nat) : Int))] [8, 9, 52] [] [] [(1, .val (.i ((k1 + 1 : Nat) : Int)))] (o1 (Qi (Km (Q8 k1 (by omega))))) ?_
    exact Exists.intro s1 (And.intro (Qd (by kernel_rfl)) ⟨Xe hx1 (Q6 h12 (rfl)) hI1.1, (by first | omega | (simp only [List.length_set]; omega))⟩)
  ·
   have hA1_0 := hI1.2
   refine Qa ?_
   refine Qa ?_
   refine rk Qb [(31, .b false)] [] [] [] [(2, .val (.i ((Y3 a0.2).length : Int))), (3, .val (.b false))] (o2 (Qi (Xs (Y3 a0.2))) (o1 (Qi (Qh (decide_eq_false (p := ((k1 : Nat) : Int) < ((Y3 a0.2).length : Int)) (by omega)))))) ?_
   refine ckF ?_
   refine Xt ?_
   exact Exists.intro s1 (And.intro (Qd (by kernel_rfl)) ⟨Ym hk1 (rfl) hI1.1, by first | omega | (simp only [List.length_set]; omega)⟩)
  ·
   have hD1_0 := hD1.2
   refine Qa ?_
   refine rk Qb [(10, .o 4160 (Y4 a0.2))] [] [] [] [(2, .row [.s a0.1, .h a0.2]), (5, .val (.o 0 (Y4 a0.2)))] (o2 (Qy (X4 (i := ((k0 : Nat) : Int)) (by omega) rfl hx0)) (o1 (Qg (specNegativeDeps_a a0.2)))) ?_
   refine Qa ?_
   refine rk Qb [(11, .i 0)] [] [] [] [] (o0) ?_
   refine wdT 10 0 (.own true 4160) (Y4 a0.2) (fun hw17 => ?_)
   have hl18 : List.length (Y4 a0.2) ≤ 1073741824 := Qx (hw17)
   refine blk (fun (k2 : Nat) (s2 : (List Int)) => [(5, .o 960 s2), (11, .i ((k2 : Nat) : Int))]) [5, 11] (fun k2 s2 => []) [] (fun (y2 : (List Int)) => [(5, .o 960 y2)]) [5, 10, 11] (fun y2 => []) [] (fun (k2 : Nat) (s2 : (List Int)) => (Xv (Wb d k0) Hn (Y4 a0.2) 0 y1) = Xv (Wb d k0) Hn (List.drop k2 (Y4 a0.2)) k2 s2 ∧ List.length s2 = List.length y1) (fun (y2 : (List Int)) => (Xv (Wb d k0) Hn (Y4 a0.2) 0 y1) = .brk y2 ∧ List.length y2 = List.length y1) ((Y4 a0.2).length) y1 (Qd (by kernel_rfl)) ⟨rfl, (by simp)⟩ (fun k2 s2 hk2 hI2 => ?_) (fun k2 s2 hk2 hI2 => ?_) (fun y2 hD2 => ?_)
   ·
    have hA2_0 := hI2.2
    obtain ⟨a2, hx2⟩ := Yl (l := Y4 a0.2) (i := k2) hk2
    refine Qa ?_
    refine Qa ?_
    refine rk Qb [(69, .b true)] [] [] [] [(2, .val (.i ((Y4 a0.2).length : Int))), (3, .val (.b true))] (o2 (Qi (Xs (Y4 a0.2))) (o1 (Qi (Qh (decide_eq_true (p := ((k2 : Nat) : Int) < ((Y4 a0.2).length : Int)) (by omega)))))) ?_
    refine ckT ?_
    refine Qr ?_
    refine Qa ?_
    refine Xf ?_
    refine Qa ?_
    refine rk Qb [(12, .i (Xg d a2))] [69] [] [] [(3, .rowE [.s a2]), (5, .val (.i (Xg d a2)))] (o2 (Qy (X4 (i := ((k2 : Nat) : Int)) (by omega) rfl hx2)) (o1 (Qg (specl11Place_a d a2)))) ?_
    refine Qa ?_
    refine jn [(91, .b (decide ((Xg d a2) ≥ (0 : Int)) && decide (IntKind.i64.wrap ((nth s2 (Int.toNat (Xg d a2))) + 1) > (nth s2 k0))))] [] [] [] (decide ((Xg d a2) ≥ (0 : Int))) (fun h19 => ?_) (fun h19 => ?_) ?_
    ·
     have h19p := place_ltS d a2
     have h19d := of_decide_eq_true h19
     refine wdT 5 0 (.own true 960) s2 (fun hw21 => ?_)
     have hl22 : List.length s2 ≤ 1073741824 := Qx (hw21)
     have hx20 : s2[(Int.toNat (Xg d a2))]? = some (nth s2 (Int.toNat (Xg d a2))) := Yj (by omega)
     have hx23 : s2[k0]? = some (nth s2 k0) := Yj (by omega)
     refine rd' Qb Js [(91, .b (decide (IntKind.i64.wrap ((nth s2 (Int.toNat (Xg d a2))) + 1) > (nth s2 k0))))] [] [] [] [(1, .val (.b true)), (5, .rowE [.i (nth s2 (Int.toNat (Xg d a2)))]), (10, .rowE [.i (nth s2 k0)])] (o2 (Qi (Qh h19)) (o2 (Qy (X4 (i := (Xg d a2)) (by omega) rfl hx20)) (o1 (Qy (X4 (i := ((k0 : Nat) : Int)) (by omega) rfl hx23))))) ?_
     exact ⟨rfl, Qd (by rw [h19]; first | done | kernel_rfl)⟩
    ·
     refine rd' Qb Js [(91, .b false)] [] [] [] [(1, .val (.b false))] (o1 (Qi (Qh h19))) ?_
     exact ⟨rfl, Qd (by rw [h19]; first | done | kernel_rfl)⟩
    refine ck (decide ((Xg d a2) ≥ (0 : Int)) && decide (IntKind.i64.wrap ((nth s2 (Int.toNat (Xg d a2))) + 1) > (nth s2 k0))) (fun h24 => ?_) (fun h24 => ?_)
    ·
     have h24l : (decide ((Xg d a2) ≥ (0 : Int))) = true := and_l h24
     have h24lp := place_ltS d a2
     have h24ld := of_decide_eq_true h24l
     have h24r : (decide (IntKind.i64.wrap ((nth s2 (Int.toNat (Xg d a2))) + 1) > (nth s2 k0))) = true := and_r h24
     have h24rd := of_decide_eq_true h24r
     refine wdT 5 0 (.own true 960) s2 (fun hw26 => ?_)
     have hl27 : List.length s2 ≤ 1073741824 := Qx (hw26)
     have hx25 : s2[(Int.toNat (Xg d a2))]? = some (nth s2 (Int.toNat (Xg d a2))) := Yj (by omega)
     have hx28 : s2[k0]? = some (nth s2 k0) := Yj (by omega)
     refine rk Qb [(5, .one (.slc (.own true 960) 1 (setRow (eL s2) k0 0 [.i (IntKind.i64.wrap ((nth s2 (Int.toNat (Xg d a2))) + 1))])))] [5, 12, 91] [] [] [(4, .rowE [.i (nth s2 (Int.toNat (Xg d a2)))]), (7, .rowE [.i (nth s2 k0)])] (o2 (Qy (X4 (i := (Xg d a2)) (by omega) rfl hx25)) (o1 (Qy (X4 (i := ((k0 : Nat) : Int)) (by omega) rfl hx28)))) ?_
     refine eqn [(5, .o 960 (List.set s2 k0 (IntKind.i64.wrap ((nth s2 (Int.toNat (Xg d a2))) + 1))))] [5] [] [] (by rw [K0 (y := IntKind.i64.wrap ((nth s2 (Int.toNat (Xg d a2))) + 1)) hx28 rfl]; first | done | kernel_rfl) ?_
     refine rk Qb [(11, .i ((k2 + 1 : Nat) : Int))] [11] [] [] [(1, .val (.i ((k2 + 1 : Nat) : Int)))] (o1 (Qi (Km (Q8 k2 (by omega))))) ?_
     exact Exists.intro (List.set s2 k0 (IntKind.i64.wrap ((nth s2 (Int.toNat (Xg d a2))) + 1))) (And.intro (Qd (by kernel_rfl)) ⟨Xe hx2 (X8 h24 (rfl)) hI2.1, (by first | omega | (simp only [List.length_set]; omega))⟩)
    ·
     refine Qr ?_
     refine rk Qb [(11, .i ((k2 + 1 : Nat) : Int))] [11, 12, 91] [] [] [(1, .val (.i ((k2 + 1 : Nat) : Int)))] (o1 (Qi (Km (Q8 k2 (by omega))))) ?_
     exact Exists.intro s2 (And.intro (Qd (by kernel_rfl)) ⟨Xe hx2 (Q6 h24 (rfl)) hI2.1, (by first | omega | (simp only [List.length_set]; omega))⟩)
   ·
    have hA2_0 := hI2.2
    refine Qa ?_
    refine Qa ?_
    refine rk Qb [(69, .b false)] [] [] [] [(2, .val (.i ((Y4 a0.2).length : Int))), (3, .val (.b false))] (o2 (Qi (Xs (Y4 a0.2))) (o1 (Qi (Qh (decide_eq_false (p := ((k2 : Nat) : Int) < ((Y4 a0.2).length : Int)) (by omega)))))) ?_
    refine ckF ?_
    refine Xt ?_
    exact Exists.intro s2 (And.intro (Qd (by kernel_rfl)) ⟨Ym hk2 (rfl) hI2.1, by first | omega | (simp only [List.length_set]; omega)⟩)
   ·
    have hD2_0 := hD2.2
    refine rk Qb [(6, .i ((k0 + 1 : Nat) : Int))] [6] [] [] [(1, .val (.i ((k0 + 1 : Nat) : Int)))] (o1 (Qi (Km (Q8 k0 (by omega))))) ?_
    exact Exists.intro y2 (And.intro (Qd (by kernel_rfl)) ⟨Xe hx0 (Hk hD1.1 (Hk hD2.1 (rfl))) hI0.1, (by first | omega | (simp only [List.length_set]; omega))⟩)
 ·
  have hA0_0 := hI0.2
  refine Qa ?_
  refine Qa ?_
  refine rk Qb [(19, .b false)] [] [] [] [(2, .val (.i (d.length : Int))), (3, .val (.b false))] (o2 (Qi (Xs d)) (o1 (Qi (Qh (decide_eq_false (p := ((k0 : Nat) : Int) < (d.length : Int)) (by omega)))))) ?_
  refine ckF ?_
  refine Xt ?_
  exact Exists.intro s0 (And.intro (Qd (by kernel_rfl)) ⟨Ym hk0 (rfl) hI0.1, by first | omega | (simp only [List.length_set]; omega)⟩)
 ·
  have hD0_0 := hD0.2
  refine Qa ?_
  refine rk Qb [(4, .o 960 y0)] [4, 5] [] [] [] (o0) ?_
  refine Qq ?_
  exact Ze [] (congrArg (fun z => (.o 0 z : AV)) (show J9 d lev = y0 from Hk hD0.1 (rfl)).symm)
end Go.Proofs.YtamghcfmhfknmaaGreat
namespace Go.Proofs.YtamghcfmhfknmaaGreat
open Go.RowKit
theorem forL_inv {α R S T : Type} {f : Nat → α → S → Rd R S T} {e : Nat → S → T} (I : S → Prop) (h : ∀ k a s, I s → ∃ s', f k a s = .next s' ∧ I s') : ∀ (l : List α) (k : Nat) (s : S), I s → ∃ s', Xv f e l k s = .brk (e (k + l.length) s') ∧ I s'
  | [], k, s, hs => ⟨s, by simp [Xv], hs⟩
  | a :: l, k, s, hs => by
    obtain ⟨s1, h1, h2⟩ := h k a s hs
    obtain ⟨s2, h3, h4⟩ := forL_inv I h l (k + 1) s1 h2
    refine ⟨s2, ?_, h4⟩
    simp only [Xv, h1]
    rw [h3, List.length_cons, show k + 1 + l.length = k + (l.length + 1) by omega]
theorem l13_f1 (d : List Zt) (k0 n : Nat) (k : Nat) (a : ByteArray) (s : List Int) (hs : s.length = n) : ∃ s', Wa d k0 k a s = .next s' ∧ s'.length = n := by
  unfold Wa
  generalize (decide ((Xg d a) ≥ (0 : Int)) && decide ((nth s (Int.toNat (Xg d a))) > (nth s k0))) = c
  cases c <;> exact ⟨_, rfl, by simpa using hs⟩
theorem l13_f2 (d : List Zt) (k0 n : Nat) (k : Nat) (a : ByteArray) (s : List Int) (hs : s.length = n) : ∃ s', Wb d k0 k a s = .next s' ∧ s'.length = n := by
  unfold Wb
  generalize (decide ((Xg d a) ≥ (0 : Int)) && decide (IntKind.i64.wrap ((nth s (Int.toNat (Xg d a))) + 1) > (nth s k0))) = c
  cases c <;> exact ⟨_, rfl, by simpa using hs⟩
theorem l13_f0 (d : List Zt) (n : Nat) (k : Nat) (a : Zt) (s : List Int) (hs : s.length = n) : ∃ s', Vk d k a s = .next s' ∧ s'.length = n := by
  unfold Vk
  obtain ⟨s1, h1, h2⟩ := forL_inv (e := Up) (fun s : List Int => s.length = n) (l13_f1 d k n) (Y3 a.2) 0 s hs
  obtain ⟨s2, h3, h4⟩ := forL_inv (e := Hn) (fun s : List Int => s.length = n) (l13_f2 d k n) (Y4 a.2) 0 s1 h2
  refine ⟨s2, ?_, h4⟩
  rw [h1]
  simp only [Out.on, Up]
  rw [h3]
  rfl
theorem l13Raise_len (d : List Zt) (lev : List Int) : List.length (J9 d lev) = List.length lev := by
  unfold J9
  obtain ⟨s1, h1, h2⟩ := forL_inv (e := Ho) (fun s : List Int => s.length = lev.length) (l13_f0 d lev.length) d 0 lev rfl
  rw [h1]
  exact h2
theorem Qdr {d : List Zt} (h : Q2 d = true) : List.length d ≤ 5 := by
  unfold Q2 at h
  cases hf : Xv (Jv d) Ks d 0 () with
  | brk t => rw [hf] at h; simp only [Out.on, decide_eq_true_eq] at h; omega
  | ret r =>
    rw [hf] at h
    obtain rfl : r = true := h
    exfalso
    have key : ∀ (l : List Zt) k, Xv (Jv d) Ks l k () ≠ .ret true := by
      intro l
      induction l with
      | nil => intro k h; simp [Xv] at h
      | cons a l ih =>
        intro k h
        simp only [Xv] at h
        unfold Jv at h
        split at h
        · rename_i hf; exact ih _ h
        · cases h
        · rename_i r hf; cases h; revert hf; generalize (_ || _ : Bool) = c; cases c <;> simp
    exact key _ _ hf
theorem dirs5 {d : List Zt} (h : Kg d = true) : IntKind.i64.wrap (IntKind.i64.wrap ((d.length : Int) * (d.length : Int)) + 1) = ((List.length d * List.length d + 1 : Nat) : Int) ∧ ((List.length d * List.length d + 1 : Nat) : Int) ≤ 26 := by
  have h5 := Qdr ((vdirs_eq d).trans h)
  generalize List.length d = n at h5 ⊢
  have : n = 0 ∨ n = 1 ∨ n = 2 ∨ n = 3 ∨ n = 4 ∨ n = 5 := by omega
  rcases this with rfl | rfl | rfl | rfl | rfl | rfl <;> decide
end Go.Proofs.YtamghcfmhfknmaaGreat
namespace Go.Proofs.YtamghcfmhfknmaaGreat
open Go.RowKit
def K5 (d : List Zt) (w : Int) : List ByteArray → V8
  | [] => []
  | s :: r => if 0 ≤ Xc d s then (Int.toNat (Xc d s), w) :: K5 d w r else K5 d w r
theorem edgesOfN_ok (d : List Zt) (w : Int) : ∀ (l : List ByteArray) (e : Nat × Int), e ∈ K5 d w l → e.2 = w ∧ e.1 < d.length
  | [], e, h => by simp [K5] at h
  | s :: r, e, h => by
    simp only [K5] at h
    split at h
    · rename_i h0
      rcases List.mem_cons.1 h with rfl | h
      · have := (place_lt d s).2
        exact ⟨rfl, by show Int.toNat _ < _; omega⟩
      · exact edgesOfN_ok d w r e h
    · exact edgesOfN_ok d w r e h
def Kh (d : List Zt) (i : Nat) : V8 := if i < d.length then K5 d 0 (Yh (nth d i).2) ++ K5 d 1 (X1 (nth d i).2) else []
theorem edgesD_ok (d : List Zt) (i : Nat) (e : Nat × Int) (h : e ∈ Kh d i) : e.2 ≤ 1 ∧ e.1 < d.length ∧ i < d.length := by
  unfold Kh at h
  split at h
  · rename_i hi
    rcases List.mem_append.1 h with h | h <;> (have := edgesOfN_ok d _ _ e h; omega)
  · simp at h
theorem need_app (E1 E2 : V8) (L : List Int) : Qeo (E1 ++ E2) L = max (Qeo E1 L) (Qeo E2 L) := by
  have h1 : Qeo (E1 ++ E2) L ≤ max (Qeo E1 L) (Qeo E2 L) := Qb2.2 ⟨by have := need_nonneg E1 L; omega, fun e he => by
    rcases List.mem_append.1 he with he | he
    · have := (Qb2.1 (Int.le_refl (Qeo E1 L))).2 e he; omega
    · have := (Qb2.1 (Int.le_refl (Qeo E2 L))).2 e he; omega⟩
  have h2 := Qb2.1 (Int.le_refl (Qeo (E1 ++ E2) L))
  have h3 : Qeo E1 L ≤ Qeo (E1 ++ E2) L := Qb2.2 ⟨h2.1, fun e he => h2.2 e (List.mem_append_left _ he)⟩
  have h4 : Qeo E2 L ≤ Qeo (E1 ++ E2) L := Qb2.2 ⟨h2.1, fun e he => h2.2 e (List.mem_append_right _ he)⟩
  omega
theorem above_loop (d : List Zt) (L : List Int) (w : Int) (hw : 0 ≤ w ∧ w ≤ 1) (hL : ∀ j, 0 ≤ nth L j ∧ nth L j ≤ 1000000) : ∀ (l : List ByteArray) (k : Nat) (m : Int), Xv (Wl d L w) U1 l k m = .brk ((K5 d w l).foldl (fun m e => max m (nth L e.1 + e.2)) m)
  | [], k, m => rfl
  | s :: r, k, m => by
    simp only [Xv, Wl, K5]
    have hwr : ∀ j, IntKind.i64.wrap (nth L j + w) = nth L j + w := fun j => IntWalk.i64_in _ (by have := hL j; omega)
    by_cases h : 0 ≤ Xc d s
    · have h' : decide (Xc d s ≥ (0 : Int)) = true := decide_eq_true h
      rw [h', cond_true, if_pos h, hwr]
      exact above_loop d L w hw hL r (k + 1) _
    · have h' : decide (Xc d s ≥ (0 : Int)) = false := decide_eq_false h
      rw [h', cond_false, if_neg h]
      exact above_loop d L w hw hL r (k + 1) _
theorem above_eq {d : List Zt} {L : List Int} {w : Int} (hw : 0 ≤ w ∧ w ≤ 1) (hL : ∀ j, 0 ≤ nth L j ∧ nth L j ≤ 1000000) (l : List ByteArray) : Xu d L l w = Qeo (K5 d w l) L := by
  unfold Xu
  rw [above_loop d L w hw hL]
  rfl
theorem least_eq {d : List Zt} {L : List Int} (hL : ∀ j, 0 ≤ nth L j ∧ nth L j ≤ 1000000) {i : Nat} (hi : i < d.length) : max (Xu d L (Yh (nth d i).2) 0) (Xu d L (X1 (nth d i).2) 1) = Qeo (Kh d i) L := by
  rw [above_eq (by omega) hL, above_eq (by omega) hL]
  unfold Kh
  rw [if_pos hi, need_app]
abbrev leastD (d : List Zt) (a : Zt) (L : List Int) : Int := max (Xu d L (Yh a.2) 0) (Xu d L (X1 a.2) 1)
abbrev StepD := Nat → Zt → List Int × Bool → Rd (Rd (List Int × Bool) (List Int × Bool) (List Int)) (List Int × Bool) (List Int × Bool)
def StepOk (d : List Zt) (f : StepD) : Prop := ∀ k a s, f k a s = bif decide (leastD d a s.1 > (d.length : Int)) then .ret (.ret ([], false)) else (bif decide (leastD d a s.1 > nth s.1 k) then .next (List.set s.1 k (leastD d a s.1), true) else .next (s.1, s.2))
theorem climb_round {d : List Zt} {f : StepD} {e : Nat → List Int × Bool → List Int × Bool} (hf : StepOk d f) (he : ∀ k s, e k s = s) (hd : d.length ≤ 1000000) :
    ∀ (l : List Zt) (k : Nat) (L : List Int) (c : Bool), d.drop k = l → L.length = d.length → (∀ j, 0 ≤ nth L j ∧ nth L j ≤ (d.length : Int)) →
      Xv f e l k (L, c) = (match Qc5 (Kh d) d.length (List.range' k l.length) (c, L) with
        | none => .ret (.ret ([], false))
        | some s => .brk (s.2, s.1))
  | [], k, L, c, _, _, _ => by simp [Xv, Qc5, he]
  | a :: l, k, L, c, hl, hlen, hL => by
    have hk : d[k]? = some a := by
      have := congrArg (·[0]?) hl
      simpa using this
    have hkl : k < d.length := (List.getElem?_eq_some_iff.1 hk).1
    have ha : nth d k = a := nth_of hk
    have hrest : d.drop (k + 1) = l := by rw [← List.drop_drop, hl]; rfl
    have hb : ∀ j, 0 ≤ nth L j ∧ nth L j ≤ 1000000 := fun j => by have := hL j; omega
    have hM : leastD d a L = Qeo (Kh d k) L := by rw [← ha]; exact least_eq hb hkl
    simp only [Xv, hf k a (L, c), List.length_cons, List.range'_succ, Qc5, hM]
    by_cases h1 : (d.length : Int) < Qeo (Kh d k) L
    · rw [decide_eq_true (show Qeo (Kh d k) L > (d.length : Int) from h1), cond_true, if_pos h1]
    · rw [decide_eq_false (show ¬ Qeo (Kh d k) L > (d.length : Int) from h1), cond_false, if_neg h1]
      by_cases h2 : nth L k < Qeo (Kh d k) L
      · rw [decide_eq_true (show Qeo (Kh d k) L > nth L k from h2), cond_true, if_pos h2]
        refine climb_round hf he hd l (k + 1) _ true hrest (by rw [List.length_set]; exact hlen) fun j => ?_
        have h0 := need_nonneg (Kh d k) L
        rw [nth_set _ _ (by omega)]
        split
        · omega
        · exact hL j
      · rw [decide_eq_false (show ¬ Qeo (Kh d k) L > nth L k from h2), cond_false, if_neg h2]
        exact climb_round hf he hd l (k + 1) L c hrest hlen hL
def endD : Option (List Int) → Out (List Int × Bool) (List Int)
  | none => .ret ([], false)
  | some L => .brk L
def LoopOk (d : List Zt) (f : StepD) (e : Nat → List Int × Bool → List Int × Bool) (F : List Int × Bool → Rd (List Int × Bool) (List Int × Bool) (List Int)) : Prop := ∀ s, F s = bif s.2 then (Out.on (Xv f e d 0 (s.1, false)) fun y1 => .next (y1.1, y1.2)) else .brk s.1
theorem whl_climb {d : List Zt} {f : StepD} {e : Nat → List Int × Bool → List Int × Bool} {F : List Int × Bool → Rd (List Int × Bool) (List Int × Bool) (List Int)} (hf : StepOk d f) (he : ∀ k s, e k s = s) (hF : LoopOk d f e F) (hd : d.length ≤ 1000000) :
    ∀ (n : Nat) (L : List Int) (c : Bool), L.length = d.length → (∀ j, 0 ≤ nth L j ∧ nth L j ≤ (d.length : Int)) → whl F n (L, c) = (climb (Kh d) d.length d.length n (c, L)).map endD
  | 0, L, c, _, _ => rfl
  | n + 1, L, false, _, _ => by
    simp only [whl, hF (L, false), cond_false, climb]
    rfl
  | n + 1, L, true, hlen, hL => by
    have hr := climb_round hf he hd d 0 L false rfl hlen hL
    have e1 : List.range' 0 d.length = List.range d.length := (List.range_eq_range' ..).symm
    rw [e1] at hr
    simp only [whl, hF (L, true), cond_true, hr, climb]
    cases hc : Qc5 (Kh d) d.length (List.range d.length) (false, L) with
    | none => rfl
    | some s =>
      obtain ⟨h1, _, _, h4⟩ := Qdq (List.range d.length) false L s (fun i hi => by rw [hlen]; exact Qbv hi) hc
      have := whl_climb hf he hF hd n s.2 s.1 (by rw [h1, rounds_len, hlen]) fun j => ⟨by rw [h1]; exact Int.le_trans (hL j).1 (rounds_ge (Kh d) j _ L), h4 (fun j => (hL j).2) j⟩
      exact this
theorem Qdb (n : Nat) : (List.replicate n (0 : Int)).length = n ∧ ∀ j, 0 ≤ nth (List.replicate n (0 : Int)) j ∧ nth (List.replicate n (0 : Int)) j ≤ (n : Int) :=
  ⟨by simp, fun j => by rw [nth_zero]; omega⟩
theorem strata_some {d : List Zt} {f : StepD} {e : Nat → List Int × Bool → List Int × Bool} {F : List Int × Bool → Rd (List Int × Bool) (List Int × Bool) (List Int)} (hf : StepOk d f) (he : ∀ k s, e k s = s) (hF : LoopOk d f e F) (hd : d.length ≤ 1000000) :
    (whl F (List.length d * List.length d + 3) (List.replicate (Int.toNat (d.length : Int)) (0 : Int), true)).isSome = true := by
  rw [Int.toNat_natCast, whl_climb hf he hF hd _ _ _ (Qdb _).1 (Qdb _).2, Option.isSome_map]
  refine climb_some _ _ _ (Qdb _).1 (fun j => ((Qdb _).2 j).2) ?_
  have : ((List.length d * List.length d + 3 : Nat) : Int) = (d.length : Int) * (d.length : Int) + 3 := by rw [Int.natCast_add, Int.natCast_mul]; rfl
  have h0 : (List.replicate d.length (0 : Int)).sum = 0 := by simp
  rw [this, h0]
  omega
open GoE (enc wide)
def Hc (b : (List Int)) (k0 : Nat) (a0 : Int) (_ : Unit) : Rd (Bool) (Unit) (Unit) := (bif (a0 != (nth b k0)) then (.ret false) else (.next ()))
def Qak (_ : Nat) (_ : Unit) : Unit := ()
def Kb (a_ : (List Int)) (b : (List Int)) : Bool := (bif ((a_.length : Int) != (b.length : Int)) then false else (Out.on (Xv (Hc b) Qak a_ 0 ()) (fun _ => true)))
theorem specl07Ints_a (a_ : (List Int)) (b : (List Int)) : ACalls Tryz.prog 120 [.h a_, .h b] (.b (Kb a_ b)) := by
 refine Qt (tt := tt) Qb Tryz.func120 (fn := Tryz.f120) rfl (by unfold Jr; kernel_rfl) (Nat.le_of_ble_eq_true rfl) fun w0 F0 hG => ?_
 refine Qa ?_
 refine rk Qb [(4, .b false)] [] [] [] [] (o0) ?_
 refine Qa ?_
 refine Qa ?_
 refine rk Qb [(10, .b ((a_.length : Int) != (b.length : Int)))] [] [] [] [(1, .val (.i (a_.length : Int))), (3, .val (.i (b.length : Int)))] (o2 (Qi (Xs a_)) (o1 (Qi (Xs b)))) ?_
 refine ck ((a_.length : Int) != (b.length : Int)) (fun h1 => ?_) (fun h1 => ?_)
 ·
  refine Qa ?_
  refine rk Qb [] [10] [] [] [] (o0) ?_
  refine Qq ?_
  exact Ze [] (congrArg (fun z => (.b z : AV)) (show Kb a_ b = false from X8 h1 (rfl)).symm)
 ·
  have h1d := H6 h1
  refine Qr ?_
  refine Qa ?_
  refine Qa ?_
  refine rk Qb [(5, .i 0)] [10] [] [] [] (o0) ?_
  refine wdT 0 0 .sh a_ (fun hw2 => ?_)
  have hl3 : List.length a_ ≤ 1073741824 := Qx (hw2)
  refine blk (fun (k0 : Nat) (s0 : Unit) => [(5, .i ((k0 : Nat) : Int))]) [5] (fun k0 s0 => []) [] (fun (y0 : Unit) => []) [0, 1, 5] (fun y0 => []) [] (fun (k0 : Nat) (s0 : Unit) => (Xv (Hc b) Qak a_ 0 ()) = Xv (Hc b) Qak (List.drop k0 a_) k0 s0) (fun (y0 : Unit) => (Xv (Hc b) Qak a_ 0 ()) = .brk y0) a_.length () (Qd (by kernel_rfl)) rfl (fun k0 s0 hk0 hI0 => ?_) (fun k0 s0 hk0 hI0 => ?_) (fun y0 hD0 => ?_)
  ·
   obtain ⟨a0, hx0⟩ := Yl (l := a_) (i := k0) hk0
   refine Qa ?_
   refine Qa ?_
   refine rk Qb [(14, .b true)] [] [] [] [(2, .val (.i (a_.length : Int))), (3, .val (.b true))] (o2 (Qi (Xs a_)) (o1 (Qi (Qh (decide_eq_true (p := ((k0 : Nat) : Int) < (a_.length : Int)) (by omega)))))) ?_
   refine ckT ?_
   refine Qr ?_
   refine Qa ?_
   refine Xf ?_
   refine Qa ?_
   refine wdT 1 0 .sh b (fun hw5 => ?_)
   have hl6 : List.length b ≤ 1073741824 := Qx (hw5)
   have hx4 : b[k0]? = some (nth b k0) := Yj (by omega)
   refine rd' Qb Js [(25, .b (a0 != (nth b k0)))] [14] [] [] [(2, .row [.i a0]), (6, .row [.i (nth b k0)])] (o2 (Qy (X4 (i := ((k0 : Nat) : Int)) (by omega) rfl hx0)) (o1 (Qy (X4 (i := ((k0 : Nat) : Int)) (by omega) rfl hx4)))) ?_
   refine ck (a0 != (nth b k0)) (fun h7 => ?_) (fun h7 => ?_)
   ·
    refine Qa ?_
    refine rk Qb [] [25] [] [] [] (o0) ?_
    refine Qq ?_
    have hr8 : (Xv (Hc b) Qak a_ 0 ()) = .ret false := Jy hx0 (X8 h7 (rfl)) hI0
    exact Ze [] (congrArg (fun z => (.b z : AV)) (show Kb a_ b = false from Q6 h1 (on_r hr8)).symm)
   ·
    have h7d := H6 h7
    refine Qr ?_
    refine rk Qb [(5, .i ((k0 + 1 : Nat) : Int))] [5, 25] [] [] [(1, .val (.i ((k0 + 1 : Nat) : Int)))] (o1 (Qi (Km (Q8 k0 (by omega))))) ?_
    exact Exists.intro () (And.intro (Qd (by kernel_rfl)) (Xe hx0 (Q6 h7 (rfl)) hI0))
  ·
   refine Qa ?_
   refine Qa ?_
   refine rk Qb [(14, .b false)] [] [] [] [(2, .val (.i (a_.length : Int))), (3, .val (.b false))] (o2 (Qi (Xs a_)) (o1 (Qi (Qh (decide_eq_false (p := ((k0 : Nat) : Int) < (a_.length : Int)) (by omega)))))) ?_
   refine ckF ?_
   refine Xt ?_
   exact Exists.intro () (And.intro (Qd (by kernel_rfl)) (Ym hk0 (rfl) hI0))
  ·
   refine Qa ?_
   refine rk Qb [(4, .b true)] [4] [] [] [] (o0) ?_
   refine Qq ?_
   exact Ze [] (congrArg (fun z => (.b z : AV)) (show Kb a_ b = true from Q6 h1 (Hk hD0 (rfl))).symm)
def Qbb (d : (List Zt)) (_ : Nat) (s0 : (List Int)) : Rd ((List Int) × Bool) ((List Int)) ((List Int)) := (.next (J9 d s0))
def Qct (_ : Nat) (s0 : (List Int)) : (List Int) := s0
def Xw (d : (List Zt)) : (List Int) × Bool := (bif (!(Kg d)) then ([], false) else (Out.on (Hu (Qbb d) Qct (Int.toNat (IntKind.i64.wrap (IntKind.i64.wrap ((d.length : Int) * (d.length : Int)) + 1) + 1)) 0 (List.replicate (Int.toNat (d.length : Int)) (0 : Int))) (fun y0 => (bif (!(Kb (J9 d y0) y0)) then ([], false) else (y0, true)))))
theorem specStrata_a (d : (List Zt)) : ACalls Tryz.prog 117 [.h d] (.tup [(false, [.o 0 (((Xw d)).1)]), (false, [.b (((Xw d)).2)])]) := by
 refine Qt (tt := tt) Qb Tryz.func117 (fn := Tryz.f117) rfl (by unfold Jr; kernel_rfl) (Nat.le_of_ble_eq_true rfl) fun w0 F0 hG => ?_
 refine Qa ?_
 refine rk Qb [(2, .e 0), (3, .b false)] [] [] [] [] (o0) ?_
 refine Qa ?_
 refine Qa ?_
 refine rk Qb [(8, .b (!(Kg d)))] [] [] [] [(1, .val (.b (Kg d)))] (o1 (Qg (specIsValidDirs_a d))) ?_
 refine ck (!(Kg d)) (fun h1 => ?_) (fun h1 => ?_)
 ·
  refine Qa ?_
  refine rk Qb [(2, .one (.slc (.own true 576) 1 []))] [2, 8] [] [] [] (o0) ?_
  refine Qq ?_
  exact Ze [] (congrArg (fun z => (.tup [(false, [.o 0 z.1]), (false, [.b z.2])] : AV)) (show Xw d = ([], false) from X8 h1 (rfl)).symm)
 ·
  have h1n : (Kg d) = true := Jn h1
  have h1nv := dirs5 h1n
  refine Qr ?_
  refine Qa ?_
  refine wdT 0 0 .sh d (fun hw2 => ?_)
  have hl3 : List.length d ≤ 1073741824 := Qx (hw2)
  refine rk Qb [(4, .one (.slc (.own true 768) 1 (List.replicate (Int.toNat (d.length : Int)) [.i 0])))] [8] [] [] [(1, .val (.i (d.length : Int)))] (o2 (Qi (Xs d)) (o1 (ob_rng (lo := 0) (hi := (d.length : Int)) (n := 1073741824) (⟨by omega, by omega, by omega⟩)))) ?_
  refine eqn [(4, .o 768 (List.replicate (Int.toNat (d.length : Int)) (0 : Int)))] [4] [] [] (by rw [show (List.replicate (Int.toNat (d.length : Int)) [.i 0]) = (eL (List.replicate (Int.toNat (d.length : Int)) (0 : Int))) from mk_eL _ (0 : Int)]; first | done | kernel_rfl) ?_
  refine Qa ?_
  refine Qa ?_
  refine rk Qb [(5, .i 0)] [] [] [] [] (o0) ?_
  refine blk (fun (k0 : Nat) (s0 : (List Int)) => [(4, .o 147203 s0), (5, .i ((k0 : Nat) : Int))]) [4, 5] (fun k0 s0 => []) [] (fun (y0 : (List Int)) => [(4, .o 147353 y0)]) [4, 5] (fun y0 => []) [] (fun (k0 : Nat) (s0 : (List Int)) => (Hu (Qbb d) Qct (Int.toNat (IntKind.i64.wrap (IntKind.i64.wrap ((d.length : Int) * (d.length : Int)) + 1) + 1)) 0 (List.replicate (Int.toNat (d.length : Int)) (0 : Int))) = Hu (Qbb d) Qct ((Int.toNat (IntKind.i64.wrap (IntKind.i64.wrap ((d.length : Int) * (d.length : Int)) + 1) + 1)) - k0) k0 s0 ∧ List.length s0 = List.length d) (fun (y0 : (List Int)) => (Hu (Qbb d) Qct (Int.toNat (IntKind.i64.wrap (IntKind.i64.wrap ((d.length : Int) * (d.length : Int)) + 1) + 1)) 0 (List.replicate (Int.toNat (d.length : Int)) (0 : Int))) = .brk y0 ∧ List.length y0 = List.length d) (Int.toNat (IntKind.i64.wrap (IntKind.i64.wrap ((d.length : Int) * (d.length : Int)) + 1) + 1)) (List.replicate (Int.toNat (d.length : Int)) (0 : Int)) (Yt [(768, 147203)] (by kernel_rfl)) ⟨rfl, (by simp)⟩ (fun k0 s0 hk0 hI0 => ?_) (fun k0 s0 hk0 hI0 => ?_) (fun y0 hD0 => ?_)
  ·
   have hA0_0 := hI0.2
   refine Qa ?_
   refine Qa ?_
   refine rk Qb [(20, .b true)] [] [] [] [(2, .val (.i (d.length : Int))), (4, .val (.i (d.length : Int))), (7, .val (.b true))] (o2 (Qi (Xs d)) (o2 (Qi (Xs d)) (o1 (Qi (Qh (decide_eq_true (p := ((k0 : Nat) : Int) ≤ IntKind.i64.wrap (IntKind.i64.wrap ((d.length : Int) * (d.length : Int)) + 1)) (by omega))))))) ?_
   refine ckT ?_
   refine Qr ?_
   refine Qa ?_
   refine Xf ?_
   refine rk Qb [(4, .o 1600 (J9 d s0))] [4, 20] [] [] [(2, .val (.o 0 (J9 d s0)))] (o1 (Qg (specl13Raise_a d s0 (by omega)))) ?_
   refine rk Qb [(5, .i ((k0 + 1 : Nat) : Int))] [5] [] [] [(1, .val (.i ((k0 + 1 : Nat) : Int)))] (o1 (Qi (Km (Q8 k0 (by omega))))) ?_
   exact Exists.intro (J9 d s0) (And.intro (Yt [(1600, 147203)] (by kernel_rfl)) ⟨Vh hk0 (rfl) hI0.1, (by have hz := l13Raise_len d s0; omega)⟩)
  ·
   have hA0_0 := hI0.2
   refine Qa ?_
   refine Qa ?_
   refine rk Qb [(20, .b false)] [] [] [] [(2, .val (.i (d.length : Int))), (4, .val (.i (d.length : Int))), (7, .val (.b false))] (o2 (Qi (Xs d)) (o2 (Qi (Xs d)) (o1 (Qi (Qh (decide_eq_false (p := ((k0 : Nat) : Int) ≤ IntKind.i64.wrap (IntKind.i64.wrap ((d.length : Int) * (d.length : Int)) + 1)) (by omega))))))) ?_
   refine ckF ?_
   refine Xt ?_
   exact Exists.intro s0 (And.intro (Yt [(147203, 147353)] (by kernel_rfl)) ⟨Qbu hk0 (rfl) hI0.1, by first | omega | (simp only [List.length_set]; omega)⟩)
  ·
   have hD0_0 := hD0.2
   refine Qa ?_
   refine Qa ?_
   refine rk Qb [(31, .b (!(Kb (J9 d y0) y0)))] [0] [] [] [(2, .val (.o 0 (J9 d y0))), (4, .val (.b (Kb (J9 d y0) y0)))] (o2 (Qg (specl13Raise_a d y0 (by omega))) (o1 (Qg (specl07Ints_a (J9 d y0) y0)))) ?_
   refine ck (!(Kb (J9 d y0) y0)) (fun h4 => ?_) (fun h4 => ?_)
   ·
    refine Qa ?_
    refine rk Qb [(2, .one (.slc (.own true 2048) 1 []))] [2, 31] [] [] [] (o0) ?_
    refine Qq ?_
    exact Ze [] (congrArg (fun z => (.tup [(false, [.o 0 z.1]), (false, [.b z.2])] : AV)) (show Xw d = ([], false) from Q6 h1 (Hk hD0.1 (X8 h4 (rfl)))).symm)
   ·
    refine Qr ?_
    refine Qa ?_
    refine rk Qb [(2, .o 147353 y0), (3, .b true)] [2, 3, 4, 31] [] [] [] (o0) ?_
    refine Qq ?_
    exact Ze [] (congrArg (fun z => (.tup [(false, [.o 0 z.1]), (false, [.b z.2])] : AV)) (show Xw d = (y0, true) from Q6 h1 (Hk hD0.1 (Q6 h4 (rfl)))).symm)
def Ub (d : (List Zt)) (k1 : Nat) (a1 : Zt) (s1 : (List Int) × Bool) : Rd (Rd ((List Int) × Bool) ((List Int) × Bool) ((List Int))) ((List Int) × Bool) ((List Int) × Bool) := (bif decide ((max (Xu d s1.1 (Yh a1.2) 0) (Xu d s1.1 (X1 a1.2) 1)) > (d.length : Int)) then (.ret (.ret ([], false))) else (bif decide ((max (Xu d s1.1 (Yh a1.2) 0) (Xu d s1.1 (X1 a1.2) 1)) > (nth s1.1 k1)) then (.next (List.set s1.1 k1 (max (Xu d s1.1 (Yh a1.2) 0) (Xu d s1.1 (X1 a1.2) 1)), true)) else (.next (s1.1, s1.2))))
def Uc (_ : Nat) (s1 : (List Int) × Bool) : (List Int) × Bool := (s1.1, s1.2)
def Ud (d : (List Zt)) (s0 : (List Int) × Bool) : Rd ((List Int) × Bool) ((List Int) × Bool) ((List Int)) := (bif s0.2 then (Out.on (Xv (Ub d) Uc d 0 (s0.1, false)) (fun y1 => (.next (y1.1, y1.2)))) else (.brk s0.1))
def Qz (d : (List Zt)) : (List Int) × Bool := (bif (!(Q2 d)) then ([], false) else (Out.on (whlD (Ud d) (List.length d * List.length d + 3) ((List.replicate (Int.toNat (d.length : Int)) (0 : Int)), true)) (fun y0 => (y0, true))))
theorem Qep (d : List Zt) (hd : d.length ≤ 5) : (whl (Ud d) (List.length d * List.length d + 3) (List.replicate (Int.toNat (d.length : Int)) (0 : Int), true)).isSome = true := strata_some (f := Ub d) (e := Uc) (fun _ _ _ => rfl) (fun _ _ => rfl) (fun _ => rfl) (by omega)
theorem implStrata_a (d : (List Zt)) : ACalls Tryz.prog 175 [.h d] (.tup [(false, [.o 0 (((Qz d)).1)]), (false, [.b (((Qz d)).2)])]) := by
 refine Qt (tt := tt) Qb Tryz.func175 (fn := Tryz.f175) rfl (by unfold Jr; kernel_rfl) (Nat.le_of_ble_eq_true rfl) fun w0 F0 hG => ?_
 refine Qa ?_
 refine rk Qb [(2, .e 0), (3, .b false)] [] [] [] [] (o0) ?_
 refine Qa ?_
 refine Qa ?_
 refine rk Qb [(11, .b (!(Q2 d)))] [] [] [] [(1, .val (.b (Q2 d)))] (o1 (Qg (Jh d))) ?_
 refine ck (!(Q2 d)) (fun h1 => ?_) (fun h1 => ?_)
 ·
  refine Qa ?_
  refine rk Qb [] [11] [] [] [] (o0) ?_
  refine opn [(false, 2, 0, true, 384000, 1)] ?_
  refine Qq ?_
  exact Ze [] (congrArg (fun z => (.tup [(false, [.o 0 z.1]), (false, [.b z.2])] : AV)) (show Qz d = ([], false) from X8 h1 (rfl)).symm)
 ·
  have h1n : (Q2 d) = true := Jn h1
  refine Qr ?_
  refine Qa ?_
  refine wdT 0 0 .sh d (fun hw2 => ?_)
  have hl3 : List.length d ≤ 1073741824 := Qx (hw2)
  refine rk Qb [(4, .one (.slc (.own true 896) 1 (List.replicate (Int.toNat (d.length : Int)) [.i 0])))] [11] [] [] [(1, .val (.i (d.length : Int)))] (o2 (Qi (Xs d)) (o1 (ob_rng (lo := 0) (hi := (d.length : Int)) (n := 1073741824) (⟨by omega, by omega, by omega⟩)))) ?_
  refine eqn [(4, .o 896 (List.replicate (Int.toNat (d.length : Int)) (0 : Int)))] [4] [] [] (by rw [show (List.replicate (Int.toNat (d.length : Int)) [.i 0]) = (eL (List.replicate (Int.toNat (d.length : Int)) (0 : Int))) from mk_eL _ (0 : Int)]; first | done | kernel_rfl) ?_
  refine Qa ?_
  refine Qa ?_
  refine rk Qb [(5, .b true)] [] [] [] [] (o0) ?_
  refine blw (fun (s0 : (List Int) × Bool) => [(4, .o 896 s0.1), (5, .b s0.2)]) [4, 5] (fun s0 => []) [] (fun (y0 : (List Int)) => [(4, .o 896 y0)]) [0, 4, 5] (fun y0 => []) [] (fun (k0 : Nat) (s0 : (List Int) × Bool) => whl (Ud d) k0 s0 = some (whlD (Ud d) (List.length d * List.length d + 3) ((List.replicate (Int.toNat (d.length : Int)) (0 : Int)), true)) ∧ List.length s0.1 = List.length d) (fun (y0 : (List Int)) => (whlD (Ud d) (List.length d * List.length d + 3) ((List.replicate (Int.toNat (d.length : Int)) (0 : Int)), true)) = .brk y0) (List.length d * List.length d + 3) ((List.replicate (Int.toNat (d.length : Int)) (0 : Int)), true) (Qd (by kernel_rfl)) ⟨whl_some (Qep d (Qdr (h1n))), (by simp)⟩ (fun _ h => whl_zero h.1) (fun k0 s0 hI0 => ?_) (fun y0 hD0 => ?_)
  ·
   have hA0_0 := hI0.2
   refine Qa ?_
   refine Qa ?_
   refine rk Qb [(15, .b s0.2)] [] [] [] [] (o0) ?_
   refine ck s0.2 (fun h4 => ?_) (fun h4 => ?_)
   ·
    refine Qr ?_
    refine Xf ?_
    refine Qa ?_
    refine rk Qb [(5, .b false)] [5, 15] [] [] [] (o0) ?_
    refine Qa ?_
    refine rk Qb [(16, .h d), (17, .i (d.length : Int)), (18, .i 0)] [] [] [] [(1, .val (.i (d.length : Int)))] (o1 (Qi (Xs d))) ?_
    refine blk (fun (k1 : Nat) (s1 : (List Int) × Bool) => [(4, .o 896 s1.1), (5, .b s1.2), (18, .i ((k1 : Nat) : Int))]) [4, 5, 18] (fun k1 s1 => []) [] (fun (y1 : (List Int) × Bool) => [(4, .o 896 y1.1), (5, .b y1.2)]) [4, 5, 16, 17, 18] (fun y1 => []) [] (fun (k1 : Nat) (s1 : (List Int) × Bool) => (Xv (Ub d) Uc d 0 (s0.1, false)) = Xv (Ub d) Uc (List.drop k1 d) k1 s1 ∧ List.length s1.1 = List.length s0.1) (fun (y1 : (List Int) × Bool) => (Xv (Ub d) Uc d 0 (s0.1, false)) = .brk y1 ∧ List.length y1.1 = List.length s0.1) d.length (s0.1, false) (Qd (by kernel_rfl)) ⟨rfl, (by simp)⟩ (fun k1 s1 hk1 hI1 => ?_) (fun k1 s1 hk1 hI1 => ?_) (fun y1 hD1 => ?_)
    ·
     have hA1_0 := hI1.2
     obtain ⟨a1, hx1⟩ := Yl (l := d) (i := k1) hk1
     refine Qa ?_
     refine rk Qb [(19, .b true)] [] [] [] [(0, .val (.b true))] (o1 (Qi (Qh (decide_eq_true (p := ((k1 : Nat) : Int) < (d.length : Int)) (by omega))))) ?_
     refine Qa ?_
     refine ckT ?_
     refine Qr ?_
     refine Qa ?_
     refine Xf ?_
     refine Qa ?_
     refine rk Qb [(6, .i ((k1 : Nat) : Int)), (7, .p 7 0)] [19] [(7, [.s a1.1, .h a1.2])] [] [(1, .row [.s a1.1, .h a1.2])] (o1 (Qy (X4 (i := ((k1 : Nat) : Int)) (by omega) rfl hx1))) ?_
     refine Qa ?_
     refine rd' Qb Js [(8, .i (max (Xu d s1.1 (Yh a1.2) 0) (Xu d s1.1 (X1 a1.2) 1)))] [7] [] [7] [(4, .val (.h (Yh a1.2))), (5, .val (.i (Xu d s1.1 (Yh a1.2) 0))), (10, .val (.h (X1 a1.2))), (11, .val (.i (Xu d s1.1 (X1 a1.2) 1)))] (o2 (Qg (implPositiveDeps_a a1.2)) (o2 (Qg (Qe8 d s1.1 (Yh a1.2) 0 (by omega))) (o2 (Qg (implNegativeDeps_a a1.2)) (o1 (Qg (Qe8 d s1.1 (X1 a1.2) 1 (by omega))))))) ?_
     refine Qa ?_
     refine Qa ?_
     refine rk Qb [(39, .b (decide ((max (Xu d s1.1 (Yh a1.2) 0) (Xu d s1.1 (X1 a1.2) 1)) > (d.length : Int))))] [] [] [] [(2, .val (.i (d.length : Int)))] (o1 (Qi (Xs d))) ?_
     refine ck (decide ((max (Xu d s1.1 (Yh a1.2) 0) (Xu d s1.1 (X1 a1.2) 1)) > (d.length : Int))) (fun h5 => ?_) (fun h5 => ?_)
     ·
      refine Qa ?_
      refine rk Qb [] [39] [] [] [] (o0) ?_
      refine opn [(false, 2, 0, true, 384000, 1)] ?_
      refine Qq ?_
      have hr6 : (Xv (Ub d) Uc d 0 (s0.1, false)) = .ret (.ret ([], false)) := Jy hx1 (X8 h5 (rfl)) hI1.1
      have hr7 : (whlD (Ud d) (List.length d * List.length d + 3) ((List.replicate (Int.toNat (d.length : Int)) (0 : Int)), true)) = .ret ([], false) := whl_ret (X8 h4 (on_r hr6)) hI0.1
      exact Ze [] (congrArg (fun z => (.tup [(false, [.o 0 z.1]), (false, [.b z.2])] : AV)) (show Qz d = ([], false) from Q6 h1 (on_r hr7)).symm)
     ·
      have h5d := of_decide_eq_false h5
      refine Qr ?_
      refine Qa ?_
      refine wdT 4 0 (.own true 896) s1.1 (fun hw9 => ?_)
      have hl10 : List.length s1.1 ≤ 1073741824 := Qx (hw9)
      have hx8 : s1.1[k1]? = some (nth s1.1 k1) := Yj (by omega)
      refine rk Qb [(45, .b (decide ((max (Xu d s1.1 (Yh a1.2) 0) (Xu d s1.1 (X1 a1.2) 1)) > (nth s1.1 k1))))] [39] [] [] [(3, .rowE [.i (nth s1.1 k1)])] (o1 (Qy (X4 (i := ((k1 : Nat) : Int)) (by omega) rfl hx8))) ?_
      refine ck (decide ((max (Xu d s1.1 (Yh a1.2) 0) (Xu d s1.1 (X1 a1.2) 1)) > (nth s1.1 k1))) (fun h11 => ?_) (fun h11 => ?_)
      ·
       have h11d := of_decide_eq_true h11
       refine Qa ?_
       refine rk Qb [(4, .one (.slc (.own true 896) 1 (setRow (eL s1.1) k1 0 [.i (max (Xu d s1.1 (Yh a1.2) 0) (Xu d s1.1 (X1 a1.2) 1))])))] [4, 6, 8, 45] [] [] [(3, .rowE [.i (nth s1.1 k1)])] (o1 (Qy (X4 (i := ((k1 : Nat) : Int)) (by omega) rfl hx8))) ?_
       refine eqn [(4, .o 896 (List.set s1.1 k1 (max (Xu d s1.1 (Yh a1.2) 0) (Xu d s1.1 (X1 a1.2) 1))))] [4] [] [] (by rw [K0 (y := (max (Xu d s1.1 (Yh a1.2) 0) (Xu d s1.1 (X1 a1.2) 1))) hx8 rfl]; first | done | kernel_rfl) ?_
       refine rk Qb [(5, .b true)] [5] [] [] [] (o0) ?_
       refine rk Qb [(18, .i ((k1 + 1 : Nat) : Int))] [18] [] [] [(0, .val (.i ((k1 + 1 : Nat) : Int)))] (o1 (Qi (Km (Q8 k1 (by omega))))) ?_
       exact Exists.intro (List.set s1.1 k1 (max (Xu d s1.1 (Yh a1.2) 0) (Xu d s1.1 (X1 a1.2) 1)), true) (And.intro (Qd (by kernel_rfl)) ⟨Xe hx1 (Q6 h5 (X8 h11 (rfl))) hI1.1, (by first | omega | (simp only [List.length_set]; omega))⟩)
      ·
       have h11d := of_decide_eq_false h11
       refine Qr ?_
       refine rk Qb [(18, .i ((k1 + 1 : Nat) : Int))] [6, 8, 18, 45] [] [] [(0, .val (.i ((k1 + 1 : Nat) : Int)))] (o1 (Qi (Km (Q8 k1 (by omega))))) ?_
       exact Exists.intro (s1.1, s1.2) (And.intro (Qd (by kernel_rfl)) ⟨Xe hx1 (Q6 h5 (Q6 h11 (rfl))) hI1.1, (by first | omega | (simp only [List.length_set]; omega))⟩)
    ·
     have hA1_0 := hI1.2
     refine Qa ?_
     refine rk Qb [(19, .b false)] [] [] [] [(0, .val (.b false))] (o1 (Qi (Qh (decide_eq_false (p := ((k1 : Nat) : Int) < (d.length : Int)) (by omega))))) ?_
     refine Qa ?_
     refine ckF ?_
     refine Xt ?_
     exact Exists.intro (s1.1, s1.2) (And.intro (Qd (by kernel_rfl)) ⟨Ym hk1 (rfl) hI1.1, by first | omega | (simp only [List.length_set]; omega)⟩)
    ·
     have hD1_0 := hD1.2
     exact Exists.intro (y1.1, y1.2) (And.intro (Qd (by kernel_rfl)) ⟨whl_next (X8 h4 (Hk hD1.1 (rfl))) hI0.1, (by first | omega | (simp only [List.length_set]; omega))⟩)
   ·
    refine Xt ?_
    exact Exists.intro s0.1 (And.intro (Qd (by kernel_rfl)) (whl_brk (Q6 h4 (rfl)) hI0.1))
  ·
   refine Qa ?_
   refine rk Qb [(2, .o 896 y0), (3, .b true)] [2, 3, 4] [] [] [] (o0) ?_
   refine Qq ?_
   exact Ze [] (congrArg (fun z => (.tup [(false, [.o 0 z.1]), (false, [.b z.2])] : AV)) (show Qz d = (y0, true) from Q6 h1 (Hk hD0 (rfl))).symm)
end Go.Proofs.YtamghcfmhfknmaaGreat
namespace Go.Proofs.YtamghcfmhfknmaaGreat
open Go.RowKit
def Low (b : Int) (L : List Int) : Prop := ∀ j, 0 ≤ nth L j ∧ nth L j ≤ b
theorem bump_low {b w : Int} {i : Nat} {L : List Int} {p : Nat} (hi : i < L.length) (hw : 0 ≤ w ∧ w ≤ 1) (h : Low b L) : Low (b + w) (bump i L (p, w)) := fun j => by
  rw [bump_nth _ hi]
  have h1 := h j
  have h2 := h p
  have h3 := h i
  split
  · show 0 ≤ max (nth L i) (nth L p + w) ∧ max (nth L i) (nth L p + w) ≤ b + w; omega
  · omega
theorem f1_loop (d : List Zt) (k0 : Nat) : ∀ (l : List ByteArray) (k : Nat) (s : List Int) (b : Int), k0 < s.length → Low b s → Xv (Wa d k0) Up l k s = .brk (Qb3 k0 (K5 d 0 l) s) ∧ Low b (Qb3 k0 (K5 d 0 l) s)
  | [], k, s, b, _, h => ⟨rfl, h⟩
  | a :: l, k, s, b, hk, h => by
    have hf : Wa d k0 k a s = (bif (decide (0 ≤ Xc d a) && decide (nth s k0 < nth s (Int.toNat (Xc d a)))) then .next (List.set s k0 (nth s (Int.toNat (Xc d a)))) else .next s) := rfl
    simp only [Xv, hf, K5]
    by_cases h0 : 0 ≤ Xc d a
    · rw [if_pos h0, decide_eq_true h0, Bool.true_and]
      have hb : Low b (bump k0 s (Int.toNat (Xc d a), 0)) := by have := bump_low (w := 0) (p := Int.toNat (Xc d a)) hk (by omega) h; simpa using this
      have hbk : Qb3 k0 ((Int.toNat (Xc d a), 0) :: K5 d 0 l) s = Qb3 k0 (K5 d 0 l) (bump k0 s (Int.toNat (Xc d a), 0)) := rfl
      rw [hbk]
      have ih := f1_loop d k0 l (k + 1) (bump k0 s (Int.toNat (Xc d a), 0)) b (by rw [Qfr]; exact hk) hb
      by_cases h1 : nth s k0 < nth s (Int.toNat (Xc d a))
      · have e : bump k0 s (Int.toNat (Xc d a), 0) = List.set s k0 (nth s (Int.toNat (Xc d a))) := by unfold bump; simp [h1]
        rw [decide_eq_true h1, cond_true]
        rw [e] at ih ⊢; exact ih
      · have e : bump k0 s (Int.toNat (Xc d a), 0) = s := by unfold bump; simp [h1]
        rw [decide_eq_false h1, cond_false]
        rw [e] at ih ⊢; exact ih
    · rw [if_neg h0, decide_eq_false h0, Bool.false_and, cond_false]
      exact f1_loop d k0 l (k + 1) s b hk h
theorem f2_loop (d : List Zt) (k0 : Nat) : ∀ (l : List ByteArray) (k : Nat) (s : List Int) (b : Int), k0 < s.length → Low b s → b + l.length ≤ 1000000 → Xv (Wb d k0) Hn l k s = .brk (Qb3 k0 (K5 d 1 l) s) ∧ Low (b + l.length) (Qb3 k0 (K5 d 1 l) s)
  | [], k, s, b, _, h, _ => ⟨rfl, by show Low (b + ((0 : Nat) : Int)) s; simpa using h⟩
  | a :: l, k, s, b, hk, h, hb => by
    rw [List.length_cons] at hb ⊢
    have hf : Wb d k0 k a s = (bif (decide (0 ≤ Xc d a) && decide (nth s k0 < IntKind.i64.wrap (nth s (Int.toNat (Xc d a)) + 1))) then .next (List.set s k0 (IntKind.i64.wrap (nth s (Int.toNat (Xc d a)) + 1))) else .next s) := rfl
    simp only [Xv, hf, K5]
    have hl : b + ((l.length + 1 : Nat) : Int) = b + 1 + (l.length : Int) := by omega
    have hw : IntKind.i64.wrap (nth s (Int.toNat (Xc d a)) + 1) = nth s (Int.toNat (Xc d a)) + 1 := IntWalk.i64_in _ (by have := h (Int.toNat (Xc d a)); omega)
    rw [hl] at hb ⊢
    by_cases h0 : 0 ≤ Xc d a
    · rw [if_pos h0, decide_eq_true h0, Bool.true_and, hw]
      have hlow := bump_low (w := 1) (p := Int.toNat (Xc d a)) hk (by omega) h
      have hbk : Qb3 k0 ((Int.toNat (Xc d a), 1) :: K5 d 1 l) s = Qb3 k0 (K5 d 1 l) (bump k0 s (Int.toNat (Xc d a), 1)) := rfl
      rw [hbk]
      have ih := f2_loop d k0 l (k + 1) (bump k0 s (Int.toNat (Xc d a), 1)) (b + 1) (by rw [Qfr]; exact hk) hlow hb
      by_cases h1 : nth s k0 < nth s (Int.toNat (Xc d a)) + 1
      · have e : bump k0 s (Int.toNat (Xc d a), 1) = List.set s k0 (nth s (Int.toNat (Xc d a)) + 1) := by unfold bump; rw [if_pos h1]
        rw [decide_eq_true h1, cond_true]
        rw [e] at ih ⊢; exact ih
      · have e : bump k0 s (Int.toNat (Xc d a), 1) = s := by unfold bump; rw [if_neg h1]
        rw [decide_eq_false h1, cond_false]
        rw [e] at ih ⊢; exact ih
    · rw [if_neg h0, decide_eq_false h0, Bool.false_and, cond_false]
      exact f2_loop d k0 l (k + 1) s (b + 1) hk (fun j => by have := h j; omega) hb
theorem deps_grow (q : List Zo) (b : Bool) : ∀ (l : List Bool) (k : Nat) (s : List ByteArray), ∃ t, Xv (Kn q b) Vz l k s = .brk t ∧ t.length ≤ s.length + l.length
  | [], k, s => ⟨s, rfl, by simp⟩
  | a :: l, k, s => by
    simp only [Xv, Kn]
    cases (Jj (nth q k) && (a == b)) with
    | true =>
      obtain ⟨t, h1, h2⟩ := deps_grow q b l (k + 1) (s ++ [(nth q k).2.2.2.1])
      exact ⟨t, h1, by simp at h2 ⊢; omega⟩
    | false =>
      obtain ⟨t, h1, h2⟩ := deps_grow q b l (k + 1) s
      exact ⟨t, h1, by simp at h2 ⊢; omega⟩
theorem negated9 (q : List Zo) : List.length (Xq q) ≤ 9 := by
  cases hv : Q7 q with
  | true => have := negated_len q; have := (vq_len hv).2; omega
  | false => unfold Xq; rw [hv]; simp
theorem deps9 (q : List Zo) (b : Bool) : List.length (J4 q b) ≤ 9 := by
  unfold J4
  obtain ⟨t, h1, h2⟩ := deps_grow q b (Xq q) 0 []
  rw [h1]
  have h3 := negated9 q
  have h4 := compS_len (Qf0 t)
  rw [sortS_len] at h4
  show (compS (Qf0 t)).length ≤ 9
  simp at h2
  omega
theorem bumps_app (i : Nat) (E1 E2 : V8) (L : List Int) : Qb3 i (E1 ++ E2) L = Qb3 i E2 (Qb3 i E1 L) := List.foldl_append
theorem f0_step {d : List Zt} {k : Nat} {a : Zt} {s : List Int} {b : Int} (hk : d[k]? = some a) (hs : s.length = d.length) (h : Low b s) (hb : b + 9 ≤ 1000000) : Vk d k a s = .next (Qb3 k (Kh d k) s) ∧ Low (b + 9) (Qb3 k (Kh d k) s) := by
  have hkl : k < d.length := (List.getElem?_eq_some_iff.1 hk).1
  have ha : nth d k = a := nth_of hk
  obtain ⟨h1, h2⟩ := f1_loop d k (Yh a.2) 0 s b (by omega) h
  have h9 : (X1 a.2).length ≤ 9 := deps9 a.2 true
  obtain ⟨h3, h4⟩ := f2_loop d k (X1 a.2) 0 (Qb3 k (K5 d 0 (Yh a.2)) s) b (by rw [Qeg]; omega) h2 (by omega)
  have he : Kh d k = K5 d 0 (Yh a.2) ++ K5 d 1 (X1 a.2) := by unfold Kh; rw [if_pos hkl, ha]
  rw [he, bumps_app]
  refine ⟨?_, fun j => by have := h4 j; omega⟩
  unfold Vk
  rw [posdeps_eq, negdeps_eq, h1]
  simp only [Out.on]
  rw [h3]
theorem raise_loop {d : List Zt} : ∀ (l : List Zt) (k : Nat) (s : List Int) (b : Int), d.drop k = l → s.length = d.length → Low b s → b + 9 * l.length ≤ 1000000 → Xv (Vk d) Ho l k s = .brk (Qbk (Kh d) (List.range' k l.length) s) ∧ Low (b + 9 * l.length) (Qbk (Kh d) (List.range' k l.length) s)
  | [], k, s, b, _, _, h, _ => ⟨rfl, by show Low (b + 9 * ((0 : Nat) : Int)) s; simpa using h⟩
  | a :: l, k, s, b, hl, hs, h, hb => by
    have hk : d[k]? = some a := by
      have := congrArg (·[0]?) hl
      simpa using this
    have hrest : d.drop (k + 1) = l := by rw [← List.drop_drop, hl]; rfl
    rw [List.length_cons] at hb ⊢
    obtain ⟨h1, h2⟩ := f0_step hk hs h (by omega)
    have e : b + 9 * ((l.length + 1 : Nat) : Int) = b + 9 + 9 * (l.length : Int) := by omega
    rw [e] at hb ⊢
    obtain ⟨h3, h4⟩ := raise_loop l (k + 1) (Qb3 k (Kh d k) s) (b + 9) hrest (by rw [Qeg]; exact hs) h2 hb
    simp only [Xv, h1, List.range'_succ]
    exact ⟨h3, h4⟩
theorem raise_bump {d : List Zt} {s : List Int} {b : Int} (hs : s.length = d.length) (h : Low b s) (hb : b + 9 * d.length ≤ 1000000) : J9 d s = Qbk (Kh d) (List.range d.length) s ∧ Low (b + 9 * d.length) (Qbk (Kh d) (List.range d.length) s) := by
  obtain ⟨h1, h2⟩ := raise_loop d 0 s b rfl hs h hb
  have e1 : List.range' 0 d.length = List.range d.length := (List.range_eq_range' ..).symm
  rw [e1] at h1 h2
  refine ⟨?_, h2⟩
  unfold J9
  rw [h1]
  rfl
theorem rounds_loop {d : List Zt} (hd : d.length ≤ 5) : ∀ (n k m : Nat), m + n ≤ 1000 → Low (45 * m) (Qau (Kh d) d.length m) → Hu (Qbb d) Qct n k (Qau (Kh d) d.length m) = .brk (Qau (Kh d) d.length (m + n)) ∧ Low (45 * (m + n)) (Qau (Kh d) d.length (m + n))
  | 0, k, m, _, h => ⟨rfl, by simpa using h⟩
  | n + 1, k, m, hm, h => by
    obtain ⟨h1, h2⟩ := raise_bump (bafter_len (Kh d) d.length m) h (by omega)
    have e : Qau (Kh d) d.length (m + 1) = Qbk (Kh d) (List.range d.length) (Qau (Kh d) d.length m) := rfl
    simp only [Hu, Qbb, h1]
    rw [← e] at h2 ⊢
    have := rounds_loop hd n (k + 1) (m + 1) (by omega) (fun j => by have := h2 j; omega)
    rw [show m + (n + 1) = m + 1 + n by omega]
    refine ⟨this.1, fun j => by have := this.2 j; omega⟩
theorem ints_go (b : List Int) : ∀ (l : List Int) (k : Nat), l.length = (b.drop k).length → Out.on (Xv (Hc b) Qak l k ()) (fun _ => true) = decide (l = b.drop k)
  | [], k, h => by
    have : b.drop k = [] := List.eq_nil_of_length_eq_zero (by rw [← h]; rfl)
    rw [this]; rfl
  | a :: l, k, h => by
    have hk : k < b.length := by simp only [List.length_cons, List.length_drop] at h; omega
    have hd : b.drop k = nth b k :: b.drop (k + 1) := by
      rw [List.drop_eq_getElem_cons hk, show nth b k = b[k] by simp [nth, List.getD, hk]]
    rw [hd] at h ⊢
    simp only [Xv, Hc]
    by_cases e : a = nth b k
    · rw [show (a != nth b k) = false by simp [e], cond_false, ints_go b l (k + 1) (by simpa using h)]
      simp [e]
    · rw [show (a != nth b k) = true by simp [e], cond_true]
      simp [e, Out.on]
theorem ints_eq (a b : List Int) (h : a.length = b.length) : Kb a b = decide (a = b) := by
  unfold Kb
  rw [show ((a.length : Int) != (b.length : Int)) = false by simp [h], cond_false, ints_go b a 0 (by simpa using h), List.drop_zero]
theorem Qeq (d : List Zt) : Xw d = Qz d := by
  unfold Xw Qz
  rw [← vdirs_eq]
  cases hv : Q2 d with
  | false => rfl
  | true =>
    have h5 := Qdr hv
    obtain ⟨hn, _⟩ := dirs5 ((vdirs_eq d).symm.trans hv)
    simp only [Bool.not_true, cond_false]
    have hz : Qau (Kh d) d.length 0 = List.replicate (Int.toNat (d.length : Int)) (0 : Int) := by rw [Int.toNat_natCast]; rfl
    have hnn : d.length * d.length ≤ 25 := Nat.le_trans (Nat.mul_le_mul h5 h5) (by decide)
    obtain ⟨h1, h2⟩ := rounds_loop (d := d) h5 (d.length * d.length + 2) 0 0 (by omega) (fun j => by rw [hz, Int.toNat_natCast, nth_zero]; omega)
    rw [hz, Nat.zero_add] at h1
    rw [Nat.zero_add] at h2
    rw [hn, show Int.toNat (((d.length * d.length + 1 : Nat) : Int) + 1) = d.length * d.length + 2 by omega, h1]
    simp only [Out.on]
    have hlen := bafter_len (Kh d) d.length (d.length * d.length + 2)
    obtain ⟨h3, _⟩ := raise_bump (d := d) hlen h2 (by omega)
    rw [h3, ints_eq _ _ (by rw [brounds_len])]
    have hw := whl_climb (d := d) (f := Ub d) (e := Uc) (F := Ud d) (fun _ _ _ => rfl) (fun _ _ => rfl) (fun _ => rfl) (by omega) (d.length * d.length + 3) (List.replicate d.length 0) true (Qdb _).1 (Qdb _).2
    have hsome : (climb (Kh d) d.length d.length (d.length * d.length + 3) (true, List.replicate d.length 0)).isSome = true := by
      have := Qep d h5
      rw [Int.toNat_natCast, hw, Option.isSome_map] at this
      exact this
    obtain ⟨r, hr⟩ := Option.isSome_iff_exists.1 hsome
    unfold whlD
    rw [Int.toNat_natCast, hw, hr]
    obtain ⟨h6, h7⟩ := strata_eq (E := Kh d) (n := d.length) (fun i e he => edgesD_ok d i e he) hr
    by_cases hfix : Qbk (Kh d) (List.range d.length) (Qau (Kh d) d.length (d.length * d.length + 2)) = Qau (Kh d) d.length (d.length * d.length + 2)
    · rw [h6 hfix, decide_eq_true hfix]
      rfl
    · rw [h7 hfix, decide_eq_false hfix]
      rfl
open GoE (enc wide)
def Ws (name : ByteArray) (_ : Nat) (a0 : Kc) (_ : Unit) : Rd (Int) (Unit) (Unit) := (bif (a0.1.toList == name.toList) then (.ret a0.2) else (.next ()))
def Uu (_ : Nat) (_ : Unit) : Unit := ()
def U2 (s_ : (List Kc)) (name : ByteArray) : Int := (Out.on (Xv (Ws name) Uu s_ 0 ()) (fun _ => 0))
theorem implFieldKind_a (s_ : (List Kc)) (name : ByteArray) : ACalls Tryz.prog 251 [.h s_, .s name] (.i (U2 s_ name)) := by
 refine Qt (tt := tt) Qb Tryz.func251 (fn := Tryz.f251) rfl (by unfold Jr; kernel_rfl) (Nat.le_of_ble_eq_true rfl) fun w0 F0 hG => ?_
 refine Qa ?_
 refine rk Qb [(4, .i 0)] [] [] [] [] (o0) ?_
 refine Qa ?_
 refine Qa ?_
 refine rk Qb [(7, .h s_), (8, .i (s_.length : Int)), (9, .i 0)] [0] [] [] [(1, .val (.i (s_.length : Int)))] (o1 (Qi (Xs s_))) ?_
 refine wdT 7 0 .sh s_ (fun hw1 => ?_)
 have hl2 : List.length s_ ≤ 1073741824 := Qx (hw1)
 refine blk (fun (k0 : Nat) (s0 : Unit) => [(9, .i ((k0 : Nat) : Int))]) [9] (fun k0 s0 => []) [] (fun (y0 : Unit) => []) [1, 7, 8, 9] (fun y0 => []) [] (fun (k0 : Nat) (s0 : Unit) => (Xv (Ws name) Uu s_ 0 ()) = Xv (Ws name) Uu (List.drop k0 s_) k0 s0) (fun (y0 : Unit) => (Xv (Ws name) Uu s_ 0 ()) = .brk y0) s_.length () (Qd (by kernel_rfl)) rfl (fun k0 s0 hk0 hI0 => ?_) (fun k0 s0 hk0 hI0 => ?_) (fun y0 hD0 => ?_)
 ·
  obtain ⟨a0, hx0⟩ := Yl (l := s_) (i := k0) hk0
  refine Qa ?_
  refine rk Qb [(10, .b true)] [] [] [] [(0, .val (.b true))] (o1 (Qi (Qh (decide_eq_true (p := ((k0 : Nat) : Int) < (s_.length : Int)) (by omega))))) ?_
  refine Qa ?_
  refine ckT ?_
  refine Qr ?_
  refine Qa ?_
  refine Xf ?_
  refine Qa ?_
  refine rk Qb [(6, .p 6 0)] [10] [(6, [.s a0.1, .i a0.2])] [] [(0, .row [.s a0.1, .i a0.2])] (o1 (Qy (X4 (i := ((k0 : Nat) : Int)) (by omega) rfl hx0))) ?_
  refine Qa ?_
  refine rk Qb [(16, .b (a0.1.toList == name.toList))] [] [] [] [] (o0) ?_
  refine ck (a0.1.toList == name.toList) (fun h3 => ?_) (fun h3 => ?_)
  ·
   refine Qa ?_
   refine rk Qb [(4, .i a0.2)] [4, 6, 16] [] [6] [] (o0) ?_
   refine Qq ?_
   have hr4 : (Xv (Ws name) Uu s_ 0 ()) = .ret a0.2 := Jy hx0 (X8 h3 (rfl)) hI0
   exact Ze [] (congrArg (fun z => (.i z : AV)) (show U2 s_ name = a0.2 from on_r hr4).symm)
  ·
   refine Qr ?_
   refine rk Qb [(9, .i ((k0 + 1 : Nat) : Int))] [6, 9, 16] [] [6] [(0, .val (.i ((k0 + 1 : Nat) : Int)))] (o1 (Qi (Km (Q8 k0 (by omega))))) ?_
   exact Exists.intro () (And.intro (Qd (by kernel_rfl)) (Xe hx0 (Q6 h3 (rfl)) hI0))
 ·
  refine Qa ?_
  refine rk Qb [(10, .b false)] [] [] [] [(0, .val (.b false))] (o1 (Qi (Qh (decide_eq_false (p := ((k0 : Nat) : Int) < (s_.length : Int)) (by omega))))) ?_
  refine Qa ?_
  refine ckF ?_
  refine Xt ?_
  exact Exists.intro () (And.intro (Qd (by kernel_rfl)) (Ym hk0 (rfl) hI0))
 ·
  refine Qa ?_
  refine rk Qb [] [] [] [] [] (o0) ?_
  refine Qq ?_
  exact Ze [] (congrArg (fun z => (.i z : AV)) (show U2 s_ name = 0 from Hk hD0 (rfl)).symm)
def Zu (s_ : (List Kc)) (name : ByteArray) (v : Qee) : Bool := ((Z9 v) && ((v.1 != (0 : Int)) && (v.1 == (U2 s_ name))))
theorem Qeh (s_ : (List Kc)) (name : ByteArray) (v : Qee) : ACalls Tryz.prog 225 [.h s_, .s name, .a [.i v.1, .i v.2.1, .s v.2.2]] (.b (Zu s_ name v)) := by
 refine Qt (tt := tt) Qb Tryz.func225 (fn := Tryz.f225) rfl (by unfold Jr; kernel_rfl) (Nat.le_of_ble_eq_true rfl) fun w0 F0 hG => ?_
 refine Qa ?_
 refine rk Qb [(5, .p 5 0), (6, .b false)] [2] [(5, [.i v.1, .i v.2.1, .s v.2.2])] [] [] (o0) ?_
 refine Qa ?_
 refine jn [(6, .b ((Z9 v) && ((v.1 != (0 : Int)) && (v.1 == (U2 s_ name)))))] [0, 1, 5, 6] [] [5] (Z9 v) (fun h1 => ?_) (fun h1 => ?_) ?_
 ·
  refine X9 (v.1 != (0 : Int)) (fun h2 => ?_) (fun h2 => ?_)
  ·
   refine rd' Qb Js [(6, .b (v.1 == (U2 s_ name)))] [0, 1, 5, 6] [] [5] [(1, .val (.b true)), (5, .val (.b true)), (12, .val (.i (U2 s_ name)))] (o2 (Qg (cb h1 (Vi v))) (o2 (Qi (Qh h2)) (o1 (Qg (implFieldKind_a s_ name))))) ?_
   exact ⟨rfl, Qd (by rw [h1, h2]; first | done | kernel_rfl)⟩
  ·
   refine rd' Qb Js [] [0, 1, 5] [] [5] [(1, .val (.b true)), (5, .val (.b false))] (o2 (Qg (cb h1 (Vi v))) (o1 (Qi (Qh h2)))) ?_
   exact ⟨rfl, Qd (by rw [h1, h2]; first | done | kernel_rfl)⟩
 ·
  refine rd' Qb Js [] [0, 1, 5] [] [5] [(1, .val (.b false))] (o1 (Qg (cb h1 (Vi v)))) ?_
  exact ⟨rfl, Qd (by rw [h1]; first | done | kernel_rfl)⟩
 refine Qq ?_
 exact Ze [] (congrArg (fun z => (.b z : AV)) (show Zu s_ name v = ((Z9 v) && ((v.1 != (0 : Int)) && (v.1 == (U2 s_ name)))) from rfl).symm)
def Vw (n : Int) : Bool := (Xy n 0 2)
theorem Qay (n : Int) : ACalls Tryz.prog 35 [.i n] (.b (Vw n)) := by
 refine Qt (tt := tt) Qb Tryz.func35 (fn := Tryz.f35) rfl (by unfold Jr; kernel_rfl) (Nat.le_of_ble_eq_true rfl) fun w0 F0 hG => ?_
 refine Qa ?_
 refine rk Qb [(2, .b false)] [] [] [] [] (o0) ?_
 refine Qa ?_
 refine rk Qb [(2, .b (Xy n 0 2))] [0, 2] [] [] [(1, .val (.b (Xy n 0 2)))] (o1 (Qg (Jx n 0 2))) ?_
 refine Qq ?_
 exact Ze [] (congrArg (fun z => (.b z : AV)) (show Vw n = (Xy n 0 2) from rfl).symm)
def Ka (s_ : (List Kc)) (k0 : Nat) (a0 : Kc) (_ : Unit) : Rd (Bool) (Unit) (Unit) := (bif ((!(Yn a0.1)) || (bif (a0.2 != (1 : Int)) then ((a0.2 != (2 : Int)) || (decide (((k0 : Nat) : Int) > (0 : Int)) && (!(Op.bytesLess ((nth s_ (Int.toNat (((k0 : Nat) : Int) - 1))).1).toList a0.1.toList)))) else (decide (((k0 : Nat) : Int) > (0 : Int)) && (!(Op.bytesLess ((nth s_ (Int.toNat (((k0 : Nat) : Int) - 1))).1).toList a0.1.toList))))) then (.ret false) else (.next ()))
def Kr (_ : Nat) (_ : Unit) : Unit := ()
def Zv (s_ : (List Kc)) : Bool := (Out.on (Xv (Ka s_) Kr s_ 0 ()) (fun _ => decide ((s_.length : Int) ≤ (5 : Int))))
theorem Hy (s_ : (List Kc)) : ACalls Tryz.prog 196 [.h s_] (.b (Zv s_)) := by
 refine Qt (tt := tt) Qb Tryz.func196 (fn := Tryz.f196) rfl (by unfold Jr; kernel_rfl) (Nat.le_of_ble_eq_true rfl) fun w0 F0 hG => ?_
 refine Qa ?_
 refine rk Qb [(2, .b false)] [] [] [] [] (o0) ?_
 refine Qa ?_
 refine Qa ?_
 refine rk Qb [(5, .h s_), (6, .i (s_.length : Int)), (7, .i 0)] [] [] [] [(1, .val (.i (s_.length : Int)))] (o1 (Qi (Xs s_))) ?_
 refine wdT 0 0 .sh s_ (fun hw1 => ?_)
 have hl2 : List.length s_ ≤ 1073741824 := Qx (hw1)
 refine blk (fun (k0 : Nat) (s0 : Unit) => [(7, .i ((k0 : Nat) : Int))]) [7] (fun k0 s0 => []) [] (fun (y0 : Unit) => []) [5, 6, 7] (fun y0 => []) [] (fun (k0 : Nat) (s0 : Unit) => (Xv (Ka s_) Kr s_ 0 ()) = Xv (Ka s_) Kr (List.drop k0 s_) k0 s0) (fun (y0 : Unit) => (Xv (Ka s_) Kr s_ 0 ()) = .brk y0) s_.length () (Qd (by kernel_rfl)) rfl (fun k0 s0 hk0 hI0 => ?_) (fun k0 s0 hk0 hI0 => ?_) (fun y0 hD0 => ?_)
 ·
  obtain ⟨a0, hx0⟩ := Yl (l := s_) (i := k0) hk0
  refine Qa ?_
  refine rk Qb [(8, .b true)] [] [] [] [(0, .val (.b true))] (o1 (Qi (Qh (decide_eq_true (p := ((k0 : Nat) : Int) < (s_.length : Int)) (by omega))))) ?_
  refine Qa ?_
  refine ckT ?_
  refine Qr ?_
  refine Qa ?_
  refine Xf ?_
  refine Qa ?_
  refine rk Qb [(3, .i ((k0 : Nat) : Int)), (4, .p 4 0)] [8] [(4, [.s a0.1, .i a0.2])] [] [(1, .row [.s a0.1, .i a0.2])] (o1 (Qy (X4 (i := ((k0 : Nat) : Int)) (by omega) rfl hx0))) ?_
  refine Qa ?_
  refine jn [(40, .b ((!(Yn a0.1)) || (bif (a0.2 != (1 : Int)) then ((a0.2 != (2 : Int)) || (decide (((k0 : Nat) : Int) > (0 : Int)) && (!(Op.bytesLess ((nth s_ (Int.toNat (((k0 : Nat) : Int) - 1))).1).toList a0.1.toList)))) else (decide (((k0 : Nat) : Int) > (0 : Int)) && (!(Op.bytesLess ((nth s_ (Int.toNat (((k0 : Nat) : Int) - 1))).1).toList a0.1.toList))))))] [3, 4] [] [4] (!(Yn a0.1)) (fun h3 => ?_) (fun h3 => ?_) ?_
  ·
   have h3n : (Yn a0.1) = false := Ug h3
   refine rd' Qb Js [(40, .b true)] [3, 4] [] [4] [(2, .val (.b false)), (3, .val (.b true))] (o2 (Qg (cb h3n (Zq a0.1))) (o1 (Qi (show .b (!false) = .b true from rfl)))) ?_
   exact ⟨rfl, Qd (by rw [h3]; first | done | kernel_rfl)⟩
  ·
   have h3n : (Yn a0.1) = true := Jn h3
   refine X9 (a0.2 != (1 : Int)) (fun h4 => ?_) (fun h4 => ?_)
   ·
    have h4d := ne_of_bne h4
    refine X9 (a0.2 != (2 : Int)) (fun h5 => ?_) (fun h5 => ?_)
    ·
     refine rd' Qb Js [(40, .b true)] [3, 4] [] [4] [(2, .val (.b true)), (3, .val (.b false)), (7, .val (.b true)), (11, .val (.b true))] (o2 (Qg (cb h3n (Zq a0.1))) (o2 (Qi (show .b (!true) = .b false from rfl)) (o2 (Qi (Qh h4)) (o1 (Qi (Qh h5)))))) ?_
     exact ⟨rfl, Qd (by rw [h3, h4, h5]; first | done | kernel_rfl)⟩
    ·
     have h5d := H6 h5
     refine X9 (decide (((k0 : Nat) : Int) > (0 : Int))) (fun h6 => ?_) (fun h6 => ?_)
     ·
      have h6d := of_decide_eq_true h6
      have hx7 : s_[(Int.toNat (((k0 : Nat) : Int) - 1))]? = some (nth s_ (Int.toNat (((k0 : Nat) : Int) - 1))) := Yj (by omega)
      refine rd' Qb Js [(40, .b (!(Op.bytesLess ((nth s_ (Int.toNat (((k0 : Nat) : Int) - 1))).1).toList a0.1.toList)))] [3, 4] [] [4] [(2, .val (.b true)), (3, .val (.b false)), (7, .val (.b true)), (11, .val (.b false)), (16, .val (.b true)), (20, .val (.i (((k0 : Nat) : Int) - 1))), (21, .row [.s ((nth s_ (Int.toNat (((k0 : Nat) : Int) - 1))).1), .i ((nth s_ (Int.toNat (((k0 : Nat) : Int) - 1))).2)])] (o2 (Qg (cb h3n (Zq a0.1))) (o2 (Qi (show .b (!true) = .b false from rfl)) (o2 (Qi (Qh h4)) (o2 (Qi (Qh h5)) (o2 (Qi (Qh h6)) (o2 (Qi (Km (IntWalk.i64_in (((k0 : Nat) : Int) - 1) (by omega)))) (o1 (Qy (X4 (i := (((k0 : Nat) : Int) - 1)) (by omega) rfl hx7))))))))) ?_
      exact ⟨rfl, Qd (by rw [h3, h4, h5, h6]; first | done | kernel_rfl)⟩
     ·
      refine rd' Qb Js [(40, .b false)] [3, 4] [] [4] [(2, .val (.b true)), (3, .val (.b false)), (7, .val (.b true)), (11, .val (.b false)), (16, .val (.b false))] (o2 (Qg (cb h3n (Zq a0.1))) (o2 (Qi (show .b (!true) = .b false from rfl)) (o2 (Qi (Qh h4)) (o2 (Qi (Qh h5)) (o1 (Qi (Qh h6))))))) ?_
      exact ⟨rfl, Qd (by rw [h3, h4, h5, h6]; first | done | kernel_rfl)⟩
   ·
    have h4d := H6 h4
    refine X9 (decide (((k0 : Nat) : Int) > (0 : Int))) (fun h8 => ?_) (fun h8 => ?_)
    ·
     have h8d := of_decide_eq_true h8
     have hx9 : s_[(Int.toNat (((k0 : Nat) : Int) - 1))]? = some (nth s_ (Int.toNat (((k0 : Nat) : Int) - 1))) := Yj (by omega)
     refine rd' Qb Js [(40, .b (!(Op.bytesLess ((nth s_ (Int.toNat (((k0 : Nat) : Int) - 1))).1).toList a0.1.toList)))] [3, 4] [] [4] [(2, .val (.b true)), (3, .val (.b false)), (7, .val (.b false)), (16, .val (.b true)), (20, .val (.i (((k0 : Nat) : Int) - 1))), (21, .row [.s ((nth s_ (Int.toNat (((k0 : Nat) : Int) - 1))).1), .i ((nth s_ (Int.toNat (((k0 : Nat) : Int) - 1))).2)])] (o2 (Qg (cb h3n (Zq a0.1))) (o2 (Qi (show .b (!true) = .b false from rfl)) (o2 (Qi (Qh h4)) (o2 (Qi (Qh h8)) (o2 (Qi (Km (IntWalk.i64_in (((k0 : Nat) : Int) - 1) (by omega)))) (o1 (Qy (X4 (i := (((k0 : Nat) : Int) - 1)) (by omega) rfl hx9)))))))) ?_
     exact ⟨rfl, Qd (by rw [h3, h4, h8]; first | done | kernel_rfl)⟩
    ·
     refine rd' Qb Js [(40, .b false)] [3, 4] [] [4] [(2, .val (.b true)), (3, .val (.b false)), (7, .val (.b false)), (16, .val (.b false))] (o2 (Qg (cb h3n (Zq a0.1))) (o2 (Qi (show .b (!true) = .b false from rfl)) (o2 (Qi (Qh h4)) (o1 (Qi (Qh h8)))))) ?_
     exact ⟨rfl, Qd (by rw [h3, h4, h8]; first | done | kernel_rfl)⟩
  refine ck ((!(Yn a0.1)) || (bif (a0.2 != (1 : Int)) then ((a0.2 != (2 : Int)) || (decide (((k0 : Nat) : Int) > (0 : Int)) && (!(Op.bytesLess ((nth s_ (Int.toNat (((k0 : Nat) : Int) - 1))).1).toList a0.1.toList)))) else (decide (((k0 : Nat) : Int) > (0 : Int)) && (!(Op.bytesLess ((nth s_ (Int.toNat (((k0 : Nat) : Int) - 1))).1).toList a0.1.toList))))) (fun h10 => ?_) (fun h10 => ?_)
  ·
   refine Qa ?_
   refine rk Qb [] [40] [] [] [] (o0) ?_
   refine Qq ?_
   have hr11 : (Xv (Ka s_) Kr s_ 0 ()) = .ret false := Jy hx0 (X8 h10 (rfl)) hI0
   exact Ze [] (congrArg (fun z => (.b z : AV)) (show Zv s_ = false from on_r hr11).symm)
  ·
   refine Qr ?_
   refine rk Qb [(7, .i ((k0 + 1 : Nat) : Int))] [7, 40] [] [] [(0, .val (.i ((k0 + 1 : Nat) : Int)))] (o1 (Qi (Km (Q8 k0 (by omega))))) ?_
   exact Exists.intro () (And.intro (Qd (by kernel_rfl)) (Xe hx0 (Q6 h10 (rfl)) hI0))
 ·
  refine Qa ?_
  refine rk Qb [(8, .b false)] [] [] [] [(0, .val (.b false))] (o1 (Qi (Qh (decide_eq_false (p := ((k0 : Nat) : Int) < (s_.length : Int)) (by omega))))) ?_
  refine Qa ?_
  refine ckF ?_
  refine Xt ?_
  exact Exists.intro () (And.intro (Qd (by kernel_rfl)) (Ym hk0 (rfl) hI0))
 ·
  refine Qa ?_
  refine rk Qb [(2, .b (decide ((s_.length : Int) ≤ (5 : Int))))] [0, 2] [] [] [(1, .val (.i (s_.length : Int)))] (o1 (Qi (Xs s_))) ?_
  refine Qq ?_
  exact Ze [] (congrArg (fun z => (.b z : AV)) (show Zv s_ = decide ((s_.length : Int) ≤ (5 : Int)) from Hk hD0 (rfl)).symm)
def Jk (s_ : (List Kc)) (f : Zb) (k0 : Nat) (a0 : AttrD) (_ : Unit) : Rd (Bool) (Unit) (Unit) := (bif (bif decide (((k0 : Nat) : Int) > (0 : Int)) then ((!(Op.bytesLess ((nth f.2.2.2.2 (Int.toNat (((k0 : Nat) : Int) - 1))).1).toList a0.1.toList)) || (!(Zu s_ a0.1 a0.2))) else (!(Zu s_ a0.1 a0.2))) then (.ret false) else (.next ()))
def Kt (_ : Nat) (_ : Unit) : Unit := ()
def Yc (s_ : (List Kc)) (f : Zb) : Bool := (Out.on (Xv (Jk s_ f) Kt f.2.2.2.2 0 ()) (fun _ => ((Xy f.1 1 60) && ((Vw f.2.1) && ((Xy f.2.2.2.1 0 60) && (Zv s_))))))
theorem Ui (s_ : (List Kc)) (f : Zb) : ACalls Tryz.prog 179 [.h s_, .a [.i f.1, .i f.2.1, .b f.2.2.1, .i f.2.2.2.1, .h f.2.2.2.2]] (.b (Yc s_ f)) := by
 refine Qt (tt := tt) Qb Tryz.func179 (fn := Tryz.f179) rfl (by unfold Jr; kernel_rfl) (Nat.le_of_ble_eq_true rfl) fun w0 F0 hG => ?_
 refine Qa ?_
 refine rk Qb [(3, .p 3 0), (4, .b false)] [1] [(3, [.i f.1, .i f.2.1, .b f.2.2.1, .i f.2.2.2.1, .h f.2.2.2.2])] [] [] (o0) ?_
 refine Qa ?_
 refine Qa ?_
 refine rk Qb [(8, .h f.2.2.2.2), (9, .i (f.2.2.2.2.length : Int)), (10, .i 0)] [] [] [] [(2, .val (.i (f.2.2.2.2.length : Int)))] (o1 (Qi (Xs f.2.2.2.2))) ?_
 refine wdT 8 0 .sh f.2.2.2.2 (fun hw1 => ?_)
 have hl2 : List.length f.2.2.2.2 ≤ 1073741824 := Qx (hw1)
 refine blk (fun (k0 : Nat) (s0 : Unit) => [(10, .i ((k0 : Nat) : Int))]) [10] (fun k0 s0 => []) [] (fun (y0 : Unit) => []) [8, 9, 10] (fun y0 => []) [] (fun (k0 : Nat) (s0 : Unit) => (Xv (Jk s_ f) Kt f.2.2.2.2 0 ()) = Xv (Jk s_ f) Kt (List.drop k0 f.2.2.2.2) k0 s0) (fun (y0 : Unit) => (Xv (Jk s_ f) Kt f.2.2.2.2 0 ()) = .brk y0) f.2.2.2.2.length () (Qd (by kernel_rfl)) rfl (fun k0 s0 hk0 hI0 => ?_) (fun k0 s0 hk0 hI0 => ?_) (fun y0 hD0 => ?_)
 ·
  obtain ⟨a0, hx0⟩ := Yl (l := f.2.2.2.2) (i := k0) hk0
  refine Qa ?_
  refine rk Qb [(11, .b true)] [] [] [] [(0, .val (.b true))] (o1 (Qi (Qh (decide_eq_true (p := ((k0 : Nat) : Int) < (f.2.2.2.2.length : Int)) (by omega))))) ?_
  refine Qa ?_
  refine ckT ?_
  refine Qr ?_
  refine Qa ?_
  refine Xf ?_
  refine Qa ?_
  refine rk Qb [(5, .i ((k0 : Nat) : Int)), (6, .p 6 0)] [11] [(6, [.s a0.1, .i a0.2.1, .i a0.2.2.1, .s a0.2.2.2])] [] [(1, .row [.s a0.1, .i a0.2.1, .i a0.2.2.1, .s a0.2.2.2])] (o1 (Qy (X4 (i := ((k0 : Nat) : Int)) (by omega) rfl hx0))) ?_
  refine Qa ?_
  refine jn [(37, .b (bif decide (((k0 : Nat) : Int) > (0 : Int)) then ((!(Op.bytesLess ((nth f.2.2.2.2 (Int.toNat (((k0 : Nat) : Int) - 1))).1).toList a0.1.toList)) || (!(Zu s_ a0.1 a0.2))) else (!(Zu s_ a0.1 a0.2))))] [5, 6] [] [6] (decide (((k0 : Nat) : Int) > (0 : Int))) (fun h3 => ?_) (fun h3 => ?_) ?_
  ·
   have h3d := of_decide_eq_true h3
   refine X9 (!(Op.bytesLess ((nth f.2.2.2.2 (Int.toNat (((k0 : Nat) : Int) - 1))).1).toList a0.1.toList)) (fun h4 => ?_) (fun h4 => ?_)
   ·
    have hx5 : f.2.2.2.2[(Int.toNat (((k0 : Nat) : Int) - 1))]? = some (nth f.2.2.2.2 (Int.toNat (((k0 : Nat) : Int) - 1))) := Yj (by omega)
    refine rd' Qb Js [(37, .b true)] [5, 6] [] [6] [(1, .val (.b true)), (6, .val (.i (((k0 : Nat) : Int) - 1))), (7, .row [.s ((nth f.2.2.2.2 (Int.toNat (((k0 : Nat) : Int) - 1))).1), .i ((nth f.2.2.2.2 (Int.toNat (((k0 : Nat) : Int) - 1))).2.1), .i ((nth f.2.2.2.2 (Int.toNat (((k0 : Nat) : Int) - 1))).2.2.1), .s ((nth f.2.2.2.2 (Int.toNat (((k0 : Nat) : Int) - 1))).2.2.2)]), (12, .val (.b true))] (o2 (Qi (Qh h3)) (o2 (Qi (Km (IntWalk.i64_in (((k0 : Nat) : Int) - 1) (by omega)))) (o2 (Qy (X4 (i := (((k0 : Nat) : Int) - 1)) (by omega) rfl hx5)) (o1 (Qi (Qh h4)))))) ?_
    exact ⟨rfl, Qd (by rw [h3, h4]; first | done | kernel_rfl)⟩
   ·
    have hx6 : f.2.2.2.2[(Int.toNat (((k0 : Nat) : Int) - 1))]? = some (nth f.2.2.2.2 (Int.toNat (((k0 : Nat) : Int) - 1))) := Yj (by omega)
    refine rd' Qb Js [(37, .b (!(Zu s_ a0.1 a0.2)))] [5, 6] [] [6] [(1, .val (.b true)), (6, .val (.i (((k0 : Nat) : Int) - 1))), (7, .row [.s ((nth f.2.2.2.2 (Int.toNat (((k0 : Nat) : Int) - 1))).1), .i ((nth f.2.2.2.2 (Int.toNat (((k0 : Nat) : Int) - 1))).2.1), .i ((nth f.2.2.2.2 (Int.toNat (((k0 : Nat) : Int) - 1))).2.2.1), .s ((nth f.2.2.2.2 (Int.toNat (((k0 : Nat) : Int) - 1))).2.2.2)]), (12, .val (.b false)), (20, .val (.b (Zu s_ a0.1 a0.2)))] (o2 (Qi (Qh h3)) (o2 (Qi (Km (IntWalk.i64_in (((k0 : Nat) : Int) - 1) (by omega)))) (o2 (Qy (X4 (i := (((k0 : Nat) : Int) - 1)) (by omega) rfl hx6)) (o2 (Qi (Qh h4)) (o1 (Qg (Qeh s_ a0.1 a0.2))))))) ?_
    exact ⟨rfl, Qd (by rw [h3, h4]; first | done | kernel_rfl)⟩
  ·
   refine rd' Qb Js [(37, .b (!(Zu s_ a0.1 a0.2)))] [5, 6] [] [6] [(1, .val (.b false)), (20, .val (.b (Zu s_ a0.1 a0.2)))] (o2 (Qi (Qh h3)) (o1 (Qg (Qeh s_ a0.1 a0.2)))) ?_
   exact ⟨rfl, Qd (by rw [h3]; first | done | kernel_rfl)⟩
  refine ck (bif decide (((k0 : Nat) : Int) > (0 : Int)) then ((!(Op.bytesLess ((nth f.2.2.2.2 (Int.toNat (((k0 : Nat) : Int) - 1))).1).toList a0.1.toList)) || (!(Zu s_ a0.1 a0.2))) else (!(Zu s_ a0.1 a0.2))) (fun h7 => ?_) (fun h7 => ?_)
  ·
   refine Qa ?_
   refine rk Qb [] [37] [] [] [] (o0) ?_
   refine Qq ?_
   have hr8 : (Xv (Jk s_ f) Kt f.2.2.2.2 0 ()) = .ret false := Jy hx0 (X8 h7 (rfl)) hI0
   exact Ze [] (congrArg (fun z => (.b z : AV)) (show Yc s_ f = false from on_r hr8).symm)
  ·
   refine Qr ?_
   refine rk Qb [(10, .i ((k0 + 1 : Nat) : Int))] [10, 37] [] [] [(0, .val (.i ((k0 + 1 : Nat) : Int)))] (o1 (Qi (Km (Q8 k0 (by omega))))) ?_
   exact Exists.intro () (And.intro (Qd (by kernel_rfl)) (Xe hx0 (Q6 h7 (rfl)) hI0))
 ·
  refine Qa ?_
  refine rk Qb [(11, .b false)] [] [] [] [(0, .val (.b false))] (o1 (Qi (Qh (decide_eq_false (p := ((k0 : Nat) : Int) < (f.2.2.2.2.length : Int)) (by omega))))) ?_
  refine Qa ?_
  refine ckF ?_
  refine Xt ?_
  exact Exists.intro () (And.intro (Qd (by kernel_rfl)) (Ym hk0 (rfl) hI0))
 ·
  refine Qa ?_
  refine jn [(4, .b ((Xy f.1 1 60) && ((Vw f.2.1) && ((Xy f.2.2.2.1 0 60) && (Zv s_)))))] [0, 3, 4] [] [3] (Xy f.1 1 60) (fun h9 => ?_) (fun h9 => ?_) ?_
  ·
   have h9w := within_iff.1 h9
   refine X9 (Vw f.2.1) (fun h10 => ?_) (fun h10 => ?_)
   ·
    refine X9 (Xy f.2.2.2.1 0 60) (fun h11 => ?_) (fun h11 => ?_)
    ·
     have h11w := within_iff.1 h11
     refine rk Qb [(4, .b (Zv s_))] [0, 3, 4] [] [3] [(2, .val (.b true)), (6, .val (.b true)), (11, .val (.b true)), (15, .val (.b (Zv s_)))] (o2 (Qg (cb h9 (Jx f.1 1 60))) (o2 (Qg (cb h10 (Qay f.2.1))) (o2 (Qg (cb h11 (Jx f.2.2.2.1 0 60))) (o1 (Qg (Hy s_)))))) ?_
     exact ⟨rfl, Qd (by rw [h9, h10, h11]; first | done | kernel_rfl)⟩
    ·
     refine rk Qb [] [0, 3] [] [3] [(2, .val (.b true)), (6, .val (.b true)), (11, .val (.b false))] (o2 (Qg (cb h9 (Jx f.1 1 60))) (o2 (Qg (cb h10 (Qay f.2.1))) (o1 (Qg (cb h11 (Jx f.2.2.2.1 0 60)))))) ?_
     exact ⟨rfl, Qd (by rw [h9, h10, h11]; first | done | kernel_rfl)⟩
   ·
    refine rk Qb [] [0, 3] [] [3] [(2, .val (.b true)), (6, .val (.b false))] (o2 (Qg (cb h9 (Jx f.1 1 60))) (o1 (Qg (cb h10 (Qay f.2.1))))) ?_
    exact ⟨rfl, Qd (by rw [h9, h10]; first | done | kernel_rfl)⟩
  ·
   refine rk Qb [] [0, 3] [] [3] [(2, .val (.b false))] (o1 (Qg (cb h9 (Jx f.1 1 60)))) ?_
   exact ⟨rfl, Qd (by rw [h9]; first | done | kernel_rfl)⟩
  refine Qq ?_
  exact Ze [] (congrArg (fun z => (.b z : AV)) (show Yc s_ f = ((Xy f.1 1 60) && ((Vw f.2.1) && ((Xy f.2.2.2.1 0 60) && (Zv s_)))) from Hk hD0 (rfl)).symm)
def Zw (s_ : Zp) (k0 : Nat) (a0 : Zb) (_ : Unit) : Rd (Bool) (Unit) (Unit) := (bif ((!(Yc s_.1 a0)) || (decide (a0.1 ≥ s_.2.2) || (decide (((k0 : Nat) : Int) > (0 : Int)) && decide ((nth s_.2.1 (Int.toNat (((k0 : Nat) : Int) - 1))).1 ≥ a0.1)))) then (.ret false) else (.next ()))
def J5 (_ : Nat) (_ : Unit) : Unit := ()
def Xb (s_ : Zp) : Bool := (Out.on (Xv (Zw s_) J5 s_.2.1 0 ()) (fun _ => ((Zv s_.1) && (decide ((s_.2.1.length : Int) ≤ (12 : Int)) && (Xy s_.2.2 1 61)))))
theorem Kd (s_ : Zp) : ACalls Tryz.prog 149 [.a [.h s_.1, .h s_.2.1, .i s_.2.2]] (.b (Xb s_)) := by
 refine Qt (tt := tt) Qb Tryz.func149 (fn := Tryz.f149) rfl (by unfold Jr; kernel_rfl) (Nat.le_of_ble_eq_true rfl) fun w0 F0 hG => ?_
 refine Qa ?_
 refine rk Qb [(1, .p 1 0), (2, .b false)] [0] [(1, [.h s_.1, .h s_.2.1, .i s_.2.2])] [] [] (o0) ?_
 refine Qa ?_
 refine Qa ?_
 refine rk Qb [(6, .h s_.2.1), (7, .i (s_.2.1.length : Int)), (8, .i 0)] [] [] [] [(2, .val (.i (s_.2.1.length : Int)))] (o1 (Qi (Xs s_.2.1))) ?_
 refine wdT 6 0 .sh s_.2.1 (fun hw1 => ?_)
 have hl2 : List.length s_.2.1 ≤ 1073741824 := Qx (hw1)
 refine blk (fun (k0 : Nat) (s0 : Unit) => [(8, .i ((k0 : Nat) : Int))]) [8] (fun k0 s0 => []) [] (fun (y0 : Unit) => []) [6, 7, 8] (fun y0 => []) [] (fun (k0 : Nat) (s0 : Unit) => (Xv (Zw s_) J5 s_.2.1 0 ()) = Xv (Zw s_) J5 (List.drop k0 s_.2.1) k0 s0) (fun (y0 : Unit) => (Xv (Zw s_) J5 s_.2.1 0 ()) = .brk y0) s_.2.1.length () (Qd (by kernel_rfl)) rfl (fun k0 s0 hk0 hI0 => ?_) (fun k0 s0 hk0 hI0 => ?_) (fun y0 hD0 => ?_)
 ·
  obtain ⟨a0, hx0⟩ := Yl (l := s_.2.1) (i := k0) hk0
  refine Qa ?_
  refine rk Qb [(9, .b true)] [] [] [] [(0, .val (.b true))] (o1 (Qi (Qh (decide_eq_true (p := ((k0 : Nat) : Int) < (s_.2.1.length : Int)) (by omega))))) ?_
  refine Qa ?_
  refine ckT ?_
  refine Qr ?_
  refine Qa ?_
  refine Xf ?_
  refine Qa ?_
  refine rk Qb [(3, .i ((k0 : Nat) : Int)), (4, .p 4 0)] [9] [(4, [.i a0.1, .i a0.2.1, .b a0.2.2.1, .i a0.2.2.2.1, .h a0.2.2.2.2])] [] [(1, .row [.i a0.1, .i a0.2.1, .b a0.2.2.1, .i a0.2.2.2.1, .h a0.2.2.2.2])] (o1 (Qy (X4 (i := ((k0 : Nat) : Int)) (by omega) rfl hx0))) ?_
  refine Qa ?_
  refine jn [(40, .b ((!(Yc s_.1 a0)) || (decide (a0.1 ≥ s_.2.2) || (decide (((k0 : Nat) : Int) > (0 : Int)) && decide ((nth s_.2.1 (Int.toNat (((k0 : Nat) : Int) - 1))).1 ≥ a0.1)))))] [3, 4] [] [4] (!(Yc s_.1 a0)) (fun h3 => ?_) (fun h3 => ?_) ?_
  ·
   have h3n : (Yc s_.1 a0) = false := Ug h3
   refine rd' Qb Js [(40, .b true)] [3, 4] [] [4] [(3, .val (.b false)), (4, .val (.b true))] (o2 (Qg (cb h3n (Ui s_.1 a0))) (o1 (Qi (show .b (!false) = .b true from rfl)))) ?_
   exact ⟨rfl, Qd (by rw [h3]; first | done | kernel_rfl)⟩
  ·
   have h3n : (Yc s_.1 a0) = true := Jn h3
   refine X9 (decide (a0.1 ≥ s_.2.2)) (fun h4 => ?_) (fun h4 => ?_)
   ·
    refine rd' Qb Js [(40, .b true)] [3, 4] [] [4] [(3, .val (.b true)), (4, .val (.b false)), (10, .val (.b true))] (o2 (Qg (cb h3n (Ui s_.1 a0))) (o2 (Qi (show .b (!true) = .b false from rfl)) (o1 (Qi (Qh h4))))) ?_
    exact ⟨rfl, Qd (by rw [h3, h4]; first | done | kernel_rfl)⟩
   ·
    have h4d := of_decide_eq_false h4
    refine X9 (decide (((k0 : Nat) : Int) > (0 : Int))) (fun h5 => ?_) (fun h5 => ?_)
    ·
     have h5d := of_decide_eq_true h5
     have hx6 : s_.2.1[(Int.toNat (((k0 : Nat) : Int) - 1))]? = some (nth s_.2.1 (Int.toNat (((k0 : Nat) : Int) - 1))) := Yj (by omega)
     refine rd' Qb Js [(40, .b (decide ((nth s_.2.1 (Int.toNat (((k0 : Nat) : Int) - 1))).1 ≥ a0.1)))] [3, 4] [] [4] [(3, .val (.b true)), (4, .val (.b false)), (10, .val (.b false)), (14, .val (.b true)), (19, .val (.i (((k0 : Nat) : Int) - 1))), (20, .row [.i ((nth s_.2.1 (Int.toNat (((k0 : Nat) : Int) - 1))).1), .i ((nth s_.2.1 (Int.toNat (((k0 : Nat) : Int) - 1))).2.1), .b ((nth s_.2.1 (Int.toNat (((k0 : Nat) : Int) - 1))).2.2.1), .i ((nth s_.2.1 (Int.toNat (((k0 : Nat) : Int) - 1))).2.2.2.1), .h ((nth s_.2.1 (Int.toNat (((k0 : Nat) : Int) - 1))).2.2.2.2)])] (o2 (Qg (cb h3n (Ui s_.1 a0))) (o2 (Qi (show .b (!true) = .b false from rfl)) (o2 (Qi (Qh h4)) (o2 (Qi (Qh h5)) (o2 (Qi (Km (IntWalk.i64_in (((k0 : Nat) : Int) - 1) (by omega)))) (o1 (Qy (X4 (i := (((k0 : Nat) : Int) - 1)) (by omega) rfl hx6)))))))) ?_
     exact ⟨rfl, Qd (by rw [h3, h4, h5]; first | done | kernel_rfl)⟩
    ·
     refine rd' Qb Js [(40, .b false)] [3, 4] [] [4] [(3, .val (.b true)), (4, .val (.b false)), (10, .val (.b false)), (14, .val (.b false))] (o2 (Qg (cb h3n (Ui s_.1 a0))) (o2 (Qi (show .b (!true) = .b false from rfl)) (o2 (Qi (Qh h4)) (o1 (Qi (Qh h5)))))) ?_
     exact ⟨rfl, Qd (by rw [h3, h4, h5]; first | done | kernel_rfl)⟩
  refine ck ((!(Yc s_.1 a0)) || (decide (a0.1 ≥ s_.2.2) || (decide (((k0 : Nat) : Int) > (0 : Int)) && decide ((nth s_.2.1 (Int.toNat (((k0 : Nat) : Int) - 1))).1 ≥ a0.1)))) (fun h7 => ?_) (fun h7 => ?_)
  ·
   refine Qa ?_
   refine rk Qb [] [40] [] [] [] (o0) ?_
   refine Qq ?_
   have hr8 : (Xv (Zw s_) J5 s_.2.1 0 ()) = .ret false := Jy hx0 (X8 h7 (rfl)) hI0
   exact Ze [] (congrArg (fun z => (.b z : AV)) (show Xb s_ = false from on_r hr8).symm)
  ·
   have h7r : ((decide (a0.1 ≥ s_.2.2) || (decide (((k0 : Nat) : Int) > (0 : Int)) && decide ((nth s_.2.1 (Int.toNat (((k0 : Nat) : Int) - 1))).1 ≥ a0.1)))) = false := or_r h7
   have h7rl : (decide (a0.1 ≥ s_.2.2)) = false := or_l h7r
   have h7rld := of_decide_eq_false h7rl
   refine Qr ?_
   refine rk Qb [(8, .i ((k0 + 1 : Nat) : Int))] [8, 40] [] [] [(0, .val (.i ((k0 + 1 : Nat) : Int)))] (o1 (Qi (Km (Q8 k0 (by omega))))) ?_
   exact Exists.intro () (And.intro (Qd (by kernel_rfl)) (Xe hx0 (Q6 h7 (rfl)) hI0))
 ·
  refine Qa ?_
  refine rk Qb [(9, .b false)] [] [] [] [(0, .val (.b false))] (o1 (Qi (Qh (decide_eq_false (p := ((k0 : Nat) : Int) < (s_.2.1.length : Int)) (by omega))))) ?_
  refine Qa ?_
  refine ckF ?_
  refine Xt ?_
  exact Exists.intro () (And.intro (Qd (by kernel_rfl)) (Ym hk0 (rfl) hI0))
 ·
  refine Qa ?_
  refine jn [(2, .b ((Zv s_.1) && (decide ((s_.2.1.length : Int) ≤ (12 : Int)) && (Xy s_.2.2 1 61))))] [1, 2] [] [1] (Zv s_.1) (fun h9 => ?_) (fun h9 => ?_) ?_
  ·
   refine X9 (decide ((s_.2.1.length : Int) ≤ (12 : Int))) (fun h10 => ?_) (fun h10 => ?_)
   ·
    refine rk Qb [(2, .b (Xy s_.2.2 1 61))] [1, 2] [] [1] [(2, .val (.b true)), (6, .val (.i (s_.2.1.length : Int))), (7, .val (.b true)), (12, .val (.b (Xy s_.2.2 1 61)))] (o2 (Qg (cb h9 (Hy s_.1))) (o2 (Qi (Xs s_.2.1)) (o2 (Qi (Qh h10)) (o1 (Qg (Jx s_.2.2 1 61)))))) ?_
    exact ⟨rfl, Qd (by rw [h9, h10]; first | done | kernel_rfl)⟩
   ·
    refine rk Qb [] [1] [] [1] [(2, .val (.b true)), (6, .val (.i (s_.2.1.length : Int))), (7, .val (.b false))] (o2 (Qg (cb h9 (Hy s_.1))) (o2 (Qi (Xs s_.2.1)) (o1 (Qi (Qh h10))))) ?_
    exact ⟨rfl, Qd (by rw [h9, h10]; first | done | kernel_rfl)⟩
  ·
   refine rk Qb [] [1] [] [1] [(2, .val (.b false))] (o1 (Qg (cb h9 (Hy s_.1)))) ?_
   exact ⟨rfl, Qd (by rw [h9]; first | done | kernel_rfl)⟩
  refine Qq ?_
  exact Ze [] (congrArg (fun z => (.b z : AV)) (show Xb s_ = ((Zv s_.1) && (decide ((s_.2.1.length : Int) ≤ (12 : Int)) && (Xy s_.2.2 1 61))) from Hk hD0 (rfl)).symm)
def H8 (name : ByteArray) (_ : Nat) (a0 : Kc) (_ : Unit) : Rd (Int) (Unit) (Unit) := (bif (a0.1.toList == name.toList) then (.ret a0.2) else (.next ()))
def H9 (_ : Nat) (_ : Unit) : Unit := ()
def U3 (s_ : (List Kc)) (name : ByteArray) : Int := (Out.on (Xv (H8 name) H9 s_ 0 ()) (fun _ => 0))
theorem specFieldKind_a (s_ : (List Kc)) (name : ByteArray) : ACalls Tryz.prog 195 [.h s_, .s name] (.i (U3 s_ name)) := by
 refine Qt (tt := tt) Qb Tryz.func195 (fn := Tryz.f195) rfl (by unfold Jr; kernel_rfl) (Nat.le_of_ble_eq_true rfl) fun w0 F0 hG => ?_
 refine Qa ?_
 refine rk Qb [(4, .i 0)] [] [] [] [] (o0) ?_
 refine Qa ?_
 refine Qa ?_
 refine rk Qb [(5, .i 0)] [] [] [] [] (o0) ?_
 refine wdT 0 0 .sh s_ (fun hw1 => ?_)
 have hl2 : List.length s_ ≤ 1073741824 := Qx (hw1)
 refine blk (fun (k0 : Nat) (s0 : Unit) => [(5, .i ((k0 : Nat) : Int))]) [5] (fun k0 s0 => []) [] (fun (y0 : Unit) => []) [0, 1, 5] (fun y0 => []) [] (fun (k0 : Nat) (s0 : Unit) => (Xv (H8 name) H9 s_ 0 ()) = Xv (H8 name) H9 (List.drop k0 s_) k0 s0) (fun (y0 : Unit) => (Xv (H8 name) H9 s_ 0 ()) = .brk y0) s_.length () (Qd (by kernel_rfl)) rfl (fun k0 s0 hk0 hI0 => ?_) (fun k0 s0 hk0 hI0 => ?_) (fun y0 hD0 => ?_)
 ·
  obtain ⟨a0, hx0⟩ := Yl (l := s_) (i := k0) hk0
  refine Qa ?_
  refine Qa ?_
  refine rk Qb [(9, .b true)] [] [] [] [(2, .val (.i (s_.length : Int))), (3, .val (.b true))] (o2 (Qi (Xs s_)) (o1 (Qi (Qh (decide_eq_true (p := ((k0 : Nat) : Int) < (s_.length : Int)) (by omega)))))) ?_
  refine ckT ?_
  refine Qr ?_
  refine Qa ?_
  refine Xf ?_
  refine Qa ?_
  refine rk Qb [(18, .b (a0.1.toList == name.toList))] [9] [] [] [(2, .row [.s a0.1, .i a0.2])] (o1 (Qy (X4 (i := ((k0 : Nat) : Int)) (by omega) rfl hx0))) ?_
  refine ck (a0.1.toList == name.toList) (fun h3 => ?_) (fun h3 => ?_)
  ·
   refine Qa ?_
   refine rk Qb [(4, .i a0.2)] [4, 18] [] [] [(2, .row [.s a0.1, .i a0.2])] (o1 (Qy (X4 (i := ((k0 : Nat) : Int)) (by omega) rfl hx0))) ?_
   refine Qq ?_
   have hr4 : (Xv (H8 name) H9 s_ 0 ()) = .ret a0.2 := Jy hx0 (X8 h3 (rfl)) hI0
   exact Ze [] (congrArg (fun z => (.i z : AV)) (show U3 s_ name = a0.2 from on_r hr4).symm)
  ·
   refine Qr ?_
   refine rk Qb [(5, .i ((k0 + 1 : Nat) : Int))] [5, 18] [] [] [(1, .val (.i ((k0 + 1 : Nat) : Int)))] (o1 (Qi (Km (Q8 k0 (by omega))))) ?_
   exact Exists.intro () (And.intro (Qd (by kernel_rfl)) (Xe hx0 (Q6 h3 (rfl)) hI0))
 ·
  refine Qa ?_
  refine Qa ?_
  refine rk Qb [(9, .b false)] [] [] [] [(2, .val (.i (s_.length : Int))), (3, .val (.b false))] (o2 (Qi (Xs s_)) (o1 (Qi (Qh (decide_eq_false (p := ((k0 : Nat) : Int) < (s_.length : Int)) (by omega)))))) ?_
  refine ckF ?_
  refine Xt ?_
  exact Exists.intro () (And.intro (Qd (by kernel_rfl)) (Ym hk0 (rfl) hI0))
 ·
  refine Qa ?_
  refine rk Qb [] [] [] [] [] (o0) ?_
  refine Qq ?_
  exact Ze [] (congrArg (fun z => (.i z : AV)) (show U3 s_ name = 0 from Hk hD0 (rfl)).symm)
def Vb (s_ : (List Kc)) (name : ByteArray) (v : Qee) : Bool := ((Zi v) && ((v.1 != (0 : Int)) && (v.1 == (U3 s_ name))))
theorem Qb4 (s_ : (List Kc)) (name : ByteArray) (v : Qee) : ACalls Tryz.prog 147 [.h s_, .s name, .a [.i v.1, .i v.2.1, .s v.2.2]] (.b (Vb s_ name v)) := by
 refine Qt (tt := tt) Qb Tryz.func147 (fn := Tryz.f147) rfl (by unfold Jr; kernel_rfl) (Nat.le_of_ble_eq_true rfl) fun w0 F0 hG => ?_
 refine Qa ?_
 refine rk Qb [(5, .p 5 0), (6, .b false)] [2] [(5, [.i v.1, .i v.2.1, .s v.2.2])] [] [] (o0) ?_
 refine Qa ?_
 refine jn [(6, .b ((Zi v) && ((v.1 != (0 : Int)) && (v.1 == (U3 s_ name)))))] [0, 1, 5, 6] [] [5] (Zi v) (fun h1 => ?_) (fun h1 => ?_) ?_
 ·
  refine X9 (v.1 != (0 : Int)) (fun h2 => ?_) (fun h2 => ?_)
  ·
   refine rd' Qb Js [(6, .b (v.1 == (U3 s_ name)))] [0, 1, 5, 6] [] [5] [(1, .val (.b true)), (5, .val (.b true)), (12, .val (.i (U3 s_ name)))] (o2 (Qg (cb h1 (Ji v))) (o2 (Qi (Qh h2)) (o1 (Qg (specFieldKind_a s_ name))))) ?_
   exact ⟨rfl, Qd (by rw [h1, h2]; first | done | kernel_rfl)⟩
  ·
   refine rd' Qb Js [] [0, 1, 5] [] [5] [(1, .val (.b true)), (5, .val (.b false))] (o2 (Qg (cb h1 (Ji v))) (o1 (Qi (Qh h2)))) ?_
   exact ⟨rfl, Qd (by rw [h1, h2]; first | done | kernel_rfl)⟩
 ·
  refine rd' Qb Js [] [0, 1, 5] [] [5] [(1, .val (.b false))] (o1 (Qg (cb h1 (Ji v)))) ?_
  exact ⟨rfl, Qd (by rw [h1]; first | done | kernel_rfl)⟩
 refine Qq ?_
 exact Ze [] (congrArg (fun z => (.b z : AV)) (show Vb s_ name v = ((Zi v) && ((v.1 != (0 : Int)) && (v.1 == (U3 s_ name)))) from rfl).symm)
def W6 (s_ : (List Kc)) (k0 : Nat) (a0 : Kc) (_ : Unit) : Rd (Bool) (Unit) (Unit) := (bif ((!(X5 a0.1)) || ((!(Xr a0.2 1 2)) || (decide (((k0 : Nat) : Int) > (0 : Int)) && (!(Op.bytesLess ((nth s_ (Int.toNat (((k0 : Nat) : Int) - 1))).1).toList a0.1.toList))))) then (.ret false) else (.next ()))
def W7 (_ : Nat) (_ : Unit) : Unit := ()
def Jt (s_ : (List Kc)) : Bool := (Out.on (Xv (W6 s_) W7 s_ 0 ()) (fun _ => decide ((s_.length : Int) ≤ (5 : Int))))
theorem Va (s_ : (List Kc)) : ACalls Tryz.prog 146 [.h s_] (.b (Jt s_)) := by
 refine Qt (tt := tt) Qb Tryz.func146 (fn := Tryz.f146) rfl (by unfold Jr; kernel_rfl) (Nat.le_of_ble_eq_true rfl) fun w0 F0 hG => ?_
 refine Qa ?_
 refine rk Qb [(2, .b false)] [] [] [] [] (o0) ?_
 refine Qa ?_
 refine Qa ?_
 refine rk Qb [(3, .i 0)] [] [] [] [] (o0) ?_
 refine wdT 0 0 .sh s_ (fun hw1 => ?_)
 have hl2 : List.length s_ ≤ 1073741824 := Qx (hw1)
 refine blk (fun (k0 : Nat) (s0 : Unit) => [(3, .i ((k0 : Nat) : Int))]) [3] (fun k0 s0 => []) [] (fun (y0 : Unit) => []) [3] (fun y0 => []) [] (fun (k0 : Nat) (s0 : Unit) => (Xv (W6 s_) W7 s_ 0 ()) = Xv (W6 s_) W7 (List.drop k0 s_) k0 s0) (fun (y0 : Unit) => (Xv (W6 s_) W7 s_ 0 ()) = .brk y0) s_.length () (Qd (by kernel_rfl)) rfl (fun k0 s0 hk0 hI0 => ?_) (fun k0 s0 hk0 hI0 => ?_) (fun y0 hD0 => ?_)
 ·
  obtain ⟨a0, hx0⟩ := Yl (l := s_) (i := k0) hk0
  refine Qa ?_
  refine Qa ?_
  refine rk Qb [(7, .b true)] [] [] [] [(2, .val (.i (s_.length : Int))), (3, .val (.b true))] (o2 (Qi (Xs s_)) (o1 (Qi (Qh (decide_eq_true (p := ((k0 : Nat) : Int) < (s_.length : Int)) (by omega)))))) ?_
  refine ckT ?_
  refine Qr ?_
  refine Qa ?_
  refine Xf ?_
  refine Qa ?_
  refine jn [(43, .b ((!(X5 a0.1)) || ((!(Xr a0.2 1 2)) || (decide (((k0 : Nat) : Int) > (0 : Int)) && (!(Op.bytesLess ((nth s_ (Int.toNat (((k0 : Nat) : Int) - 1))).1).toList a0.1.toList))))))] [7] [] [] (!(X5 a0.1)) (fun h3 => ?_) (fun h3 => ?_) ?_
  ·
   have h3n : (X5 a0.1) = false := Ug h3
   refine rd' Qb Js [(43, .b true)] [7] [] [] [(2, .row [.s a0.1, .i a0.2]), (5, .val (.b false)), (6, .val (.b true))] (o2 (Qy (X4 (i := ((k0 : Nat) : Int)) (by omega) rfl hx0)) (o2 (Qg (cb h3n (Yu a0.1))) (o1 (Qi (show .b (!false) = .b true from rfl))))) ?_
   exact ⟨rfl, Qd (by rw [h3]; first | done | kernel_rfl)⟩
  ·
   have h3n : (X5 a0.1) = true := Jn h3
   refine X9 (!(Xr a0.2 1 2)) (fun h4 => ?_) (fun h4 => ?_)
   ·
    have h4n : (Xr a0.2 1 2) = false := Ug h4
    refine rd' Qb Js [(43, .b true)] [7] [] [] [(2, .row [.s a0.1, .i a0.2]), (5, .val (.b true)), (6, .val (.b false)), (10, .row [.s a0.1, .i a0.2]), (13, .val (.b false)), (14, .val (.b true))] (o2 (Qy (X4 (i := ((k0 : Nat) : Int)) (by omega) rfl hx0)) (o2 (Qg (cb h3n (Yu a0.1))) (o2 (Qi (show .b (!true) = .b false from rfl)) (o2 (Qy (X4 (i := ((k0 : Nat) : Int)) (by omega) rfl hx0)) (o2 (Qg (cb h4n (Jz a0.2 1 2))) (o1 (Qi (show .b (!false) = .b true from rfl)))))))) ?_
    exact ⟨rfl, Qd (by rw [h3, h4]; first | done | kernel_rfl)⟩
   ·
    have h4n : (Xr a0.2 1 2) = true := Jn h4
    have h4nw := l01In_iff.1 h4n
    refine X9 (decide (((k0 : Nat) : Int) > (0 : Int))) (fun h5 => ?_) (fun h5 => ?_)
    ·
     have h5d := of_decide_eq_true h5
     have hx6 : s_[(Int.toNat (((k0 : Nat) : Int) - 1))]? = some (nth s_ (Int.toNat (((k0 : Nat) : Int) - 1))) := Yj (by omega)
     refine rd' Qb Js [(43, .b (!(Op.bytesLess ((nth s_ (Int.toNat (((k0 : Nat) : Int) - 1))).1).toList a0.1.toList)))] [7] [] [] [(2, .row [.s a0.1, .i a0.2]), (5, .val (.b true)), (6, .val (.b false)), (10, .row [.s a0.1, .i a0.2]), (13, .val (.b true)), (14, .val (.b false)), (18, .val (.b true)), (22, .val (.i (((k0 : Nat) : Int) - 1))), (23, .row [.s ((nth s_ (Int.toNat (((k0 : Nat) : Int) - 1))).1), .i ((nth s_ (Int.toNat (((k0 : Nat) : Int) - 1))).2)]), (28, .row [.s a0.1, .i a0.2])] (o2 (Qy (X4 (i := ((k0 : Nat) : Int)) (by omega) rfl hx0)) (o2 (Qg (cb h3n (Yu a0.1))) (o2 (Qi (show .b (!true) = .b false from rfl)) (o2 (Qy (X4 (i := ((k0 : Nat) : Int)) (by omega) rfl hx0)) (o2 (Qg (cb h4n (Jz a0.2 1 2))) (o2 (Qi (show .b (!true) = .b false from rfl)) (o2 (Qi (Qh h5)) (o2 (Qi (Km (IntWalk.i64_in (((k0 : Nat) : Int) - 1) (by omega)))) (o2 (Qy (X4 (i := (((k0 : Nat) : Int) - 1)) (by omega) rfl hx6)) (o1 (Qy (X4 (i := ((k0 : Nat) : Int)) (by omega) rfl hx0)))))))))))) ?_
     exact ⟨rfl, Qd (by rw [h3, h4, h5]; first | done | kernel_rfl)⟩
    ·
     have h5d := of_decide_eq_false h5
     refine rd' Qb Js [(43, .b false)] [7] [] [] [(2, .row [.s a0.1, .i a0.2]), (5, .val (.b true)), (6, .val (.b false)), (10, .row [.s a0.1, .i a0.2]), (13, .val (.b true)), (14, .val (.b false)), (18, .val (.b false))] (o2 (Qy (X4 (i := ((k0 : Nat) : Int)) (by omega) rfl hx0)) (o2 (Qg (cb h3n (Yu a0.1))) (o2 (Qi (show .b (!true) = .b false from rfl)) (o2 (Qy (X4 (i := ((k0 : Nat) : Int)) (by omega) rfl hx0)) (o2 (Qg (cb h4n (Jz a0.2 1 2))) (o2 (Qi (show .b (!true) = .b false from rfl)) (o1 (Qi (Qh h5))))))))) ?_
     exact ⟨rfl, Qd (by rw [h3, h4, h5]; first | done | kernel_rfl)⟩
  refine ck ((!(X5 a0.1)) || ((!(Xr a0.2 1 2)) || (decide (((k0 : Nat) : Int) > (0 : Int)) && (!(Op.bytesLess ((nth s_ (Int.toNat (((k0 : Nat) : Int) - 1))).1).toList a0.1.toList))))) (fun h7 => ?_) (fun h7 => ?_)
  ·
   refine Qa ?_
   refine rk Qb [] [43] [] [] [] (o0) ?_
   refine Qq ?_
   have hr8 : (Xv (W6 s_) W7 s_ 0 ()) = .ret false := Jy hx0 (X8 h7 (rfl)) hI0
   exact Ze [] (congrArg (fun z => (.b z : AV)) (show Jt s_ = false from on_r hr8).symm)
  ·
   have h7r : (((!(Xr a0.2 1 2)) || (decide (((k0 : Nat) : Int) > (0 : Int)) && (!(Op.bytesLess ((nth s_ (Int.toNat (((k0 : Nat) : Int) - 1))).1).toList a0.1.toList))))) = false := or_r h7
   have h7rl : ((!(Xr a0.2 1 2))) = false := or_l h7r
   have h7rln : (Xr a0.2 1 2) = true := Jn h7rl
   have h7rlnw := l01In_iff.1 h7rln
   refine Qr ?_
   refine rk Qb [(3, .i ((k0 + 1 : Nat) : Int))] [3, 43] [] [] [(1, .val (.i ((k0 + 1 : Nat) : Int)))] (o1 (Qi (Km (Q8 k0 (by omega))))) ?_
   exact Exists.intro () (And.intro (Qd (by kernel_rfl)) (Xe hx0 (Q6 h7 (rfl)) hI0))
 ·
  refine Qa ?_
  refine Qa ?_
  refine rk Qb [(7, .b false)] [] [] [] [(2, .val (.i (s_.length : Int))), (3, .val (.b false))] (o2 (Qi (Xs s_)) (o1 (Qi (Qh (decide_eq_false (p := ((k0 : Nat) : Int) < (s_.length : Int)) (by omega)))))) ?_
  refine ckF ?_
  refine Xt ?_
  exact Exists.intro () (And.intro (Qd (by kernel_rfl)) (Ym hk0 (rfl) hI0))
 ·
  refine Qa ?_
  refine rk Qb [(2, .b (decide ((s_.length : Int) ≤ (5 : Int))))] [0, 2] [] [] [(1, .val (.i (s_.length : Int)))] (o1 (Qi (Xs s_))) ?_
  refine Qq ?_
  exact Ze [] (congrArg (fun z => (.b z : AV)) (show Jt s_ = decide ((s_.length : Int) ≤ (5 : Int)) from Hk hD0 (rfl)).symm)
def U4 (s_ : (List Kc)) (f : Zb) (k0 : Nat) (a0 : AttrD) (_ : Unit) : Rd (Bool) (Unit) (Unit) := (bif ((!(Vb s_ a0.1 a0.2)) || (decide (((k0 : Nat) : Int) > (0 : Int)) && (!(Op.bytesLess ((nth f.2.2.2.2 (Int.toNat (((k0 : Nat) : Int) - 1))).1).toList a0.1.toList)))) then (.ret false) else (.next ()))
def U5 (_ : Nat) (_ : Unit) : Unit := ()
def Vl (s_ : (List Kc)) (f : Zb) : Bool := (Out.on (Xv (U4 s_ f) U5 f.2.2.2.2 0 ()) (fun _ => ((Jt s_) && ((Xr f.1 1 60) && ((Xr f.2.1 0 2) && (Xr f.2.2.2.1 0 60))))))
theorem Qbc (s_ : (List Kc)) (f : Zb) : ACalls Tryz.prog 92 [.h s_, .a [.i f.1, .i f.2.1, .b f.2.2.1, .i f.2.2.2.1, .h f.2.2.2.2]] (.b (Vl s_ f)) := by
 refine Qt (tt := tt) Qb Tryz.func92 (fn := Tryz.f92) rfl (by unfold Jr; kernel_rfl) (Nat.le_of_ble_eq_true rfl) fun w0 F0 hG => ?_
 refine Qa ?_
 refine rk Qb [(3, .p 3 0), (4, .b false)] [1] [(3, [.i f.1, .i f.2.1, .b f.2.2.1, .i f.2.2.2.1, .h f.2.2.2.2])] [] [] (o0) ?_
 refine Qa ?_
 refine Qa ?_
 refine rk Qb [(5, .i 0)] [] [] [] [] (o0) ?_
 refine wdB 3 4 .sh f.2.2.2.2 (fun hw1 => ?_)
 have hl2 : List.length f.2.2.2.2 ≤ 1073741824 := Qx (hw1)
 refine blk (fun (k0 : Nat) (s0 : Unit) => [(5, .i ((k0 : Nat) : Int))]) [5] (fun k0 s0 => []) [] (fun (y0 : Unit) => []) [5] (fun y0 => []) [] (fun (k0 : Nat) (s0 : Unit) => (Xv (U4 s_ f) U5 f.2.2.2.2 0 ()) = Xv (U4 s_ f) U5 (List.drop k0 f.2.2.2.2) k0 s0) (fun (y0 : Unit) => (Xv (U4 s_ f) U5 f.2.2.2.2 0 ()) = .brk y0) f.2.2.2.2.length () (Qd (by kernel_rfl)) rfl (fun k0 s0 hk0 hI0 => ?_) (fun k0 s0 hk0 hI0 => ?_) (fun y0 hD0 => ?_)
 ·
  obtain ⟨a0, hx0⟩ := Yl (l := f.2.2.2.2) (i := k0) hk0
  refine Qa ?_
  refine Qa ?_
  refine rk Qb [(10, .b true)] [] [] [] [(3, .val (.i (f.2.2.2.2.length : Int))), (4, .val (.b true))] (o2 (Qi (Xs f.2.2.2.2)) (o1 (Qi (Qh (decide_eq_true (p := ((k0 : Nat) : Int) < (f.2.2.2.2.length : Int)) (by omega)))))) ?_
  refine ckT ?_
  refine Qr ?_
  refine Qa ?_
  refine Xf ?_
  refine Qa ?_
  refine jn [(47, .b ((!(Vb s_ a0.1 a0.2)) || (decide (((k0 : Nat) : Int) > (0 : Int)) && (!(Op.bytesLess ((nth f.2.2.2.2 (Int.toNat (((k0 : Nat) : Int) - 1))).1).toList a0.1.toList)))))] [10] [] [] (!(Vb s_ a0.1 a0.2)) (fun h3 => ?_) (fun h3 => ?_) ?_
  ·
   have h3n : (Vb s_ a0.1 a0.2) = false := Ug h3
   refine rd' Qb Js [(47, .b true)] [10] [] [] [(4, .row [.s a0.1, .i a0.2.1, .i a0.2.2.1, .s a0.2.2.2]), (10, .row [.s a0.1, .i a0.2.1, .i a0.2.2.1, .s a0.2.2.2]), (13, .val (.b false)), (14, .val (.b true))] (o2 (Qy (X4 (i := ((k0 : Nat) : Int)) (by omega) rfl hx0)) (o2 (Qy (X4 (i := ((k0 : Nat) : Int)) (by omega) rfl hx0)) (o2 (Qg (cb h3n (Qb4 s_ a0.1 a0.2))) (o1 (Qi (show .b (!false) = .b true from rfl)))))) ?_
   exact ⟨rfl, Qd (by rw [h3]; first | done | kernel_rfl)⟩
  ·
   have h3n : (Vb s_ a0.1 a0.2) = true := Jn h3
   refine X9 (decide (((k0 : Nat) : Int) > (0 : Int))) (fun h4 => ?_) (fun h4 => ?_)
   ·
    have h4d := of_decide_eq_true h4
    have hx5 : f.2.2.2.2[(Int.toNat (((k0 : Nat) : Int) - 1))]? = some (nth f.2.2.2.2 (Int.toNat (((k0 : Nat) : Int) - 1))) := Yj (by omega)
    refine rd' Qb Js [(47, .b (!(Op.bytesLess ((nth f.2.2.2.2 (Int.toNat (((k0 : Nat) : Int) - 1))).1).toList a0.1.toList)))] [10] [] [] [(4, .row [.s a0.1, .i a0.2.1, .i a0.2.2.1, .s a0.2.2.2]), (10, .row [.s a0.1, .i a0.2.1, .i a0.2.2.1, .s a0.2.2.2]), (13, .val (.b true)), (14, .val (.b false)), (17, .val (.b true)), (22, .val (.i (((k0 : Nat) : Int) - 1))), (23, .row [.s ((nth f.2.2.2.2 (Int.toNat (((k0 : Nat) : Int) - 1))).1), .i ((nth f.2.2.2.2 (Int.toNat (((k0 : Nat) : Int) - 1))).2.1), .i ((nth f.2.2.2.2 (Int.toNat (((k0 : Nat) : Int) - 1))).2.2.1), .s ((nth f.2.2.2.2 (Int.toNat (((k0 : Nat) : Int) - 1))).2.2.2)]), (29, .row [.s a0.1, .i a0.2.1, .i a0.2.2.1, .s a0.2.2.2])] (o2 (Qy (X4 (i := ((k0 : Nat) : Int)) (by omega) rfl hx0)) (o2 (Qy (X4 (i := ((k0 : Nat) : Int)) (by omega) rfl hx0)) (o2 (Qg (cb h3n (Qb4 s_ a0.1 a0.2))) (o2 (Qi (show .b (!true) = .b false from rfl)) (o2 (Qi (Qh h4)) (o2 (Qi (Km (IntWalk.i64_in (((k0 : Nat) : Int) - 1) (by omega)))) (o2 (Qy (X4 (i := (((k0 : Nat) : Int) - 1)) (by omega) rfl hx5)) (o1 (Qy (X4 (i := ((k0 : Nat) : Int)) (by omega) rfl hx0)))))))))) ?_
    exact ⟨rfl, Qd (by rw [h3, h4]; first | done | kernel_rfl)⟩
   ·
    have h4d := of_decide_eq_false h4
    refine rd' Qb Js [(47, .b false)] [10] [] [] [(4, .row [.s a0.1, .i a0.2.1, .i a0.2.2.1, .s a0.2.2.2]), (10, .row [.s a0.1, .i a0.2.1, .i a0.2.2.1, .s a0.2.2.2]), (13, .val (.b true)), (14, .val (.b false)), (17, .val (.b false))] (o2 (Qy (X4 (i := ((k0 : Nat) : Int)) (by omega) rfl hx0)) (o2 (Qy (X4 (i := ((k0 : Nat) : Int)) (by omega) rfl hx0)) (o2 (Qg (cb h3n (Qb4 s_ a0.1 a0.2))) (o2 (Qi (show .b (!true) = .b false from rfl)) (o1 (Qi (Qh h4))))))) ?_
    exact ⟨rfl, Qd (by rw [h3, h4]; first | done | kernel_rfl)⟩
  refine ck ((!(Vb s_ a0.1 a0.2)) || (decide (((k0 : Nat) : Int) > (0 : Int)) && (!(Op.bytesLess ((nth f.2.2.2.2 (Int.toNat (((k0 : Nat) : Int) - 1))).1).toList a0.1.toList)))) (fun h6 => ?_) (fun h6 => ?_)
  ·
   refine Qa ?_
   refine rk Qb [] [47] [] [] [] (o0) ?_
   refine Qq ?_
   have hr7 : (Xv (U4 s_ f) U5 f.2.2.2.2 0 ()) = .ret false := Jy hx0 (X8 h6 (rfl)) hI0
   exact Ze [] (congrArg (fun z => (.b z : AV)) (show Vl s_ f = false from on_r hr7).symm)
  ·
   refine Qr ?_
   refine rk Qb [(5, .i ((k0 + 1 : Nat) : Int))] [5, 47] [] [] [(1, .val (.i ((k0 + 1 : Nat) : Int)))] (o1 (Qi (Km (Q8 k0 (by omega))))) ?_
   exact Exists.intro () (And.intro (Qd (by kernel_rfl)) (Xe hx0 (Q6 h6 (rfl)) hI0))
 ·
  refine Qa ?_
  refine Qa ?_
  refine rk Qb [(10, .b false)] [] [] [] [(3, .val (.i (f.2.2.2.2.length : Int))), (4, .val (.b false))] (o2 (Qi (Xs f.2.2.2.2)) (o1 (Qi (Qh (decide_eq_false (p := ((k0 : Nat) : Int) < (f.2.2.2.2.length : Int)) (by omega)))))) ?_
  refine ckF ?_
  refine Xt ?_
  exact Exists.intro () (And.intro (Qd (by kernel_rfl)) (Ym hk0 (rfl) hI0))
 ·
  refine Qa ?_
  refine jn [(4, .b ((Jt s_) && ((Xr f.1 1 60) && ((Xr f.2.1 0 2) && (Xr f.2.2.2.1 0 60)))))] [0, 3, 4] [] [3] (Jt s_) (fun h8 => ?_) (fun h8 => ?_) ?_
  ·
   refine X9 (Xr f.1 1 60) (fun h9 => ?_) (fun h9 => ?_)
   ·
    have h9w := l01In_iff.1 h9
    refine X9 (Xr f.2.1 0 2) (fun h10 => ?_) (fun h10 => ?_)
    ·
     have h10w := l01In_iff.1 h10
     refine rk Qb [(4, .b (Xr f.2.2.2.1 0 60))] [0, 3, 4] [] [3] [(1, .val (.b true)), (5, .val (.b true)), (10, .val (.b true)), (15, .val (.b (Xr f.2.2.2.1 0 60)))] (o2 (Qg (cb h8 (Va s_))) (o2 (Qg (cb h9 (Jz f.1 1 60))) (o2 (Qg (cb h10 (Jz f.2.1 0 2))) (o1 (Qg (Jz f.2.2.2.1 0 60)))))) ?_
     exact ⟨rfl, Qd (by rw [h8, h9, h10]; first | done | kernel_rfl)⟩
    ·
     refine rk Qb [] [0, 3] [] [3] [(1, .val (.b true)), (5, .val (.b true)), (10, .val (.b false))] (o2 (Qg (cb h8 (Va s_))) (o2 (Qg (cb h9 (Jz f.1 1 60))) (o1 (Qg (cb h10 (Jz f.2.1 0 2)))))) ?_
     exact ⟨rfl, Qd (by rw [h8, h9, h10]; first | done | kernel_rfl)⟩
   ·
    refine rk Qb [] [0, 3] [] [3] [(1, .val (.b true)), (5, .val (.b false))] (o2 (Qg (cb h8 (Va s_))) (o1 (Qg (cb h9 (Jz f.1 1 60))))) ?_
    exact ⟨rfl, Qd (by rw [h8, h9]; first | done | kernel_rfl)⟩
  ·
   refine rk Qb [] [0, 3] [] [3] [(1, .val (.b false))] (o1 (Qg (cb h8 (Va s_)))) ?_
   exact ⟨rfl, Qd (by rw [h8]; first | done | kernel_rfl)⟩
  refine Qq ?_
  exact Ze [] (congrArg (fun z => (.b z : AV)) (show Vl s_ f = ((Jt s_) && ((Xr f.1 1 60) && ((Xr f.2.1 0 2) && (Xr f.2.2.2.1 0 60)))) from Hk hD0 (rfl)).symm)
def Uq (s_ : Zp) (k0 : Nat) (a0 : Zb) (_ : Unit) : Rd (Bool) (Unit) (Unit) := (bif ((!(Vl s_.1 a0)) || (decide (a0.1 ≥ s_.2.2) || (decide (((k0 : Nat) : Int) > (0 : Int)) && decide ((nth s_.2.1 (Int.toNat (((k0 : Nat) : Int) - 1))).1 ≥ a0.1)))) then (.ret false) else (.next ()))
def Ur (_ : Nat) (_ : Unit) : Unit := ()
def Ko (s_ : Zp) : Bool := (Out.on (Xv (Uq s_) Ur s_.2.1 0 ()) (fun _ => ((Jt s_.1) && (decide ((s_.2.1.length : Int) ≤ (12 : Int)) && (Xr s_.2.2 1 61)))))
theorem specIsValidStore_a (s_ : Zp) : ACalls Tryz.prog 91 [.a [.h s_.1, .h s_.2.1, .i s_.2.2]] (.b (Ko s_)) := by
 refine Qt (tt := tt) Qb Tryz.func91 (fn := Tryz.f91) rfl (by unfold Jr; kernel_rfl) (Nat.le_of_ble_eq_true rfl) fun w0 F0 hG => ?_
 refine Qa ?_
 refine rk Qb [(1, .p 1 0), (2, .b false)] [0] [(1, [.h s_.1, .h s_.2.1, .i s_.2.2])] [] [] (o0) ?_
 refine Qa ?_
 refine Qa ?_
 refine rk Qb [(3, .i 0)] [] [] [] [] (o0) ?_
 refine wdB 1 1 .sh s_.2.1 (fun hw1 => ?_)
 have hl2 : List.length s_.2.1 ≤ 1073741824 := Qx (hw1)
 refine blk (fun (k0 : Nat) (s0 : Unit) => [(3, .i ((k0 : Nat) : Int))]) [3] (fun k0 s0 => []) [] (fun (y0 : Unit) => []) [3] (fun y0 => []) [] (fun (k0 : Nat) (s0 : Unit) => (Xv (Uq s_) Ur s_.2.1 0 ()) = Xv (Uq s_) Ur (List.drop k0 s_.2.1) k0 s0) (fun (y0 : Unit) => (Xv (Uq s_) Ur s_.2.1 0 ()) = .brk y0) s_.2.1.length () (Qd (by kernel_rfl)) rfl (fun k0 s0 hk0 hI0 => ?_) (fun k0 s0 hk0 hI0 => ?_) (fun y0 hD0 => ?_)
 ·
  obtain ⟨a0, hx0⟩ := Yl (l := s_.2.1) (i := k0) hk0
  refine Qa ?_
  refine Qa ?_
  refine rk Qb [(8, .b true)] [] [] [] [(3, .val (.i (s_.2.1.length : Int))), (4, .val (.b true))] (o2 (Qi (Xs s_.2.1)) (o1 (Qi (Qh (decide_eq_true (p := ((k0 : Nat) : Int) < (s_.2.1.length : Int)) (by omega)))))) ?_
  refine ckT ?_
  refine Qr ?_
  refine Qa ?_
  refine Xf ?_
  refine Qa ?_
  refine jn [(50, .b ((!(Vl s_.1 a0)) || (decide (a0.1 ≥ s_.2.2) || (decide (((k0 : Nat) : Int) > (0 : Int)) && decide ((nth s_.2.1 (Int.toNat (((k0 : Nat) : Int) - 1))).1 ≥ a0.1)))))] [8] [] [] (!(Vl s_.1 a0)) (fun h3 => ?_) (fun h3 => ?_) ?_
  ·
   have h3n : (Vl s_.1 a0) = false := Ug h3
   refine rd' Qb Js [(50, .b true)] [8] [] [] [(5, .row [.i a0.1, .i a0.2.1, .b a0.2.2.1, .i a0.2.2.2.1, .h a0.2.2.2.2]), (7, .val (.b false)), (8, .val (.b true))] (o2 (Qy (X4 (i := ((k0 : Nat) : Int)) (by omega) rfl hx0)) (o2 (Qg (cb h3n (Qbc s_.1 a0))) (o1 (Qi (show .b (!false) = .b true from rfl))))) ?_
   exact ⟨rfl, Qd (by rw [h3]; first | done | kernel_rfl)⟩
  ·
   have h3n : (Vl s_.1 a0) = true := Jn h3
   refine X9 (decide (a0.1 ≥ s_.2.2)) (fun h4 => ?_) (fun h4 => ?_)
   ·
    have h4d := of_decide_eq_true h4
    refine rd' Qb Js [(50, .b true)] [8] [] [] [(5, .row [.i a0.1, .i a0.2.1, .b a0.2.2.1, .i a0.2.2.2.1, .h a0.2.2.2.2]), (7, .val (.b true)), (8, .val (.b false)), (13, .row [.i a0.1, .i a0.2.1, .b a0.2.2.1, .i a0.2.2.2.1, .h a0.2.2.2.2]), (18, .val (.b true))] (o2 (Qy (X4 (i := ((k0 : Nat) : Int)) (by omega) rfl hx0)) (o2 (Qg (cb h3n (Qbc s_.1 a0))) (o2 (Qi (show .b (!true) = .b false from rfl)) (o2 (Qy (X4 (i := ((k0 : Nat) : Int)) (by omega) rfl hx0)) (o1 (Qi (Qh h4))))))) ?_
    exact ⟨rfl, Qd (by rw [h3, h4]; first | done | kernel_rfl)⟩
   ·
    have h4d := of_decide_eq_false h4
    refine X9 (decide (((k0 : Nat) : Int) > (0 : Int))) (fun h5 => ?_) (fun h5 => ?_)
    ·
     have h5d := of_decide_eq_true h5
     have hx6 : s_.2.1[(Int.toNat (((k0 : Nat) : Int) - 1))]? = some (nth s_.2.1 (Int.toNat (((k0 : Nat) : Int) - 1))) := Yj (by omega)
     refine rd' Qb Js [(50, .b (decide ((nth s_.2.1 (Int.toNat (((k0 : Nat) : Int) - 1))).1 ≥ a0.1)))] [8] [] [] [(5, .row [.i a0.1, .i a0.2.1, .b a0.2.2.1, .i a0.2.2.2.1, .h a0.2.2.2.2]), (7, .val (.b true)), (8, .val (.b false)), (13, .row [.i a0.1, .i a0.2.1, .b a0.2.2.1, .i a0.2.2.2.1, .h a0.2.2.2.2]), (18, .val (.b false)), (22, .val (.b true)), (27, .val (.i (((k0 : Nat) : Int) - 1))), (28, .row [.i ((nth s_.2.1 (Int.toNat (((k0 : Nat) : Int) - 1))).1), .i ((nth s_.2.1 (Int.toNat (((k0 : Nat) : Int) - 1))).2.1), .b ((nth s_.2.1 (Int.toNat (((k0 : Nat) : Int) - 1))).2.2.1), .i ((nth s_.2.1 (Int.toNat (((k0 : Nat) : Int) - 1))).2.2.2.1), .h ((nth s_.2.1 (Int.toNat (((k0 : Nat) : Int) - 1))).2.2.2.2)]), (34, .row [.i a0.1, .i a0.2.1, .b a0.2.2.1, .i a0.2.2.2.1, .h a0.2.2.2.2])] (o2 (Qy (X4 (i := ((k0 : Nat) : Int)) (by omega) rfl hx0)) (o2 (Qg (cb h3n (Qbc s_.1 a0))) (o2 (Qi (show .b (!true) = .b false from rfl)) (o2 (Qy (X4 (i := ((k0 : Nat) : Int)) (by omega) rfl hx0)) (o2 (Qi (Qh h4)) (o2 (Qi (Qh h5)) (o2 (Qi (Km (IntWalk.i64_in (((k0 : Nat) : Int) - 1) (by omega)))) (o2 (Qy (X4 (i := (((k0 : Nat) : Int) - 1)) (by omega) rfl hx6)) (o1 (Qy (X4 (i := ((k0 : Nat) : Int)) (by omega) rfl hx0))))))))))) ?_
     exact ⟨rfl, Qd (by rw [h3, h4, h5]; first | done | kernel_rfl)⟩
    ·
     have h5d := of_decide_eq_false h5
     refine rd' Qb Js [(50, .b false)] [8] [] [] [(5, .row [.i a0.1, .i a0.2.1, .b a0.2.2.1, .i a0.2.2.2.1, .h a0.2.2.2.2]), (7, .val (.b true)), (8, .val (.b false)), (13, .row [.i a0.1, .i a0.2.1, .b a0.2.2.1, .i a0.2.2.2.1, .h a0.2.2.2.2]), (18, .val (.b false)), (22, .val (.b false))] (o2 (Qy (X4 (i := ((k0 : Nat) : Int)) (by omega) rfl hx0)) (o2 (Qg (cb h3n (Qbc s_.1 a0))) (o2 (Qi (show .b (!true) = .b false from rfl)) (o2 (Qy (X4 (i := ((k0 : Nat) : Int)) (by omega) rfl hx0)) (o2 (Qi (Qh h4)) (o1 (Qi (Qh h5)))))))) ?_
     exact ⟨rfl, Qd (by rw [h3, h4, h5]; first | done | kernel_rfl)⟩
  refine ck ((!(Vl s_.1 a0)) || (decide (a0.1 ≥ s_.2.2) || (decide (((k0 : Nat) : Int) > (0 : Int)) && decide ((nth s_.2.1 (Int.toNat (((k0 : Nat) : Int) - 1))).1 ≥ a0.1)))) (fun h7 => ?_) (fun h7 => ?_)
  ·
   refine Qa ?_
   refine rk Qb [] [50] [] [] [] (o0) ?_
   refine Qq ?_
   have hr8 : (Xv (Uq s_) Ur s_.2.1 0 ()) = .ret false := Jy hx0 (X8 h7 (rfl)) hI0
   exact Ze [] (congrArg (fun z => (.b z : AV)) (show Ko s_ = false from on_r hr8).symm)
  ·
   have h7r : ((decide (a0.1 ≥ s_.2.2) || (decide (((k0 : Nat) : Int) > (0 : Int)) && decide ((nth s_.2.1 (Int.toNat (((k0 : Nat) : Int) - 1))).1 ≥ a0.1)))) = false := or_r h7
   have h7rl : (decide (a0.1 ≥ s_.2.2)) = false := or_l h7r
   have h7rld := of_decide_eq_false h7rl
   refine Qr ?_
   refine rk Qb [(3, .i ((k0 + 1 : Nat) : Int))] [3, 50] [] [] [(1, .val (.i ((k0 + 1 : Nat) : Int)))] (o1 (Qi (Km (Q8 k0 (by omega))))) ?_
   exact Exists.intro () (And.intro (Qd (by kernel_rfl)) (Xe hx0 (Q6 h7 (rfl)) hI0))
 ·
  refine Qa ?_
  refine Qa ?_
  refine rk Qb [(8, .b false)] [] [] [] [(3, .val (.i (s_.2.1.length : Int))), (4, .val (.b false))] (o2 (Qi (Xs s_.2.1)) (o1 (Qi (Qh (decide_eq_false (p := ((k0 : Nat) : Int) < (s_.2.1.length : Int)) (by omega)))))) ?_
  refine ckF ?_
  refine Xt ?_
  exact Exists.intro () (And.intro (Qd (by kernel_rfl)) (Ym hk0 (rfl) hI0))
 ·
  refine Qa ?_
  refine jn [(2, .b ((Jt s_.1) && (decide ((s_.2.1.length : Int) ≤ (12 : Int)) && (Xr s_.2.2 1 61))))] [1, 2] [] [1] (Jt s_.1) (fun h9 => ?_) (fun h9 => ?_) ?_
  ·
   refine X9 (decide ((s_.2.1.length : Int) ≤ (12 : Int))) (fun h10 => ?_) (fun h10 => ?_)
   ·
    refine rk Qb [(2, .b (Xr s_.2.2 1 61))] [1, 2] [] [1] [(2, .val (.b true)), (6, .val (.i (s_.2.1.length : Int))), (7, .val (.b true)), (12, .val (.b (Xr s_.2.2 1 61)))] (o2 (Qg (cb h9 (Va s_.1))) (o2 (Qi (Xs s_.2.1)) (o2 (Qi (Qh h10)) (o1 (Qg (Jz s_.2.2 1 61)))))) ?_
    exact ⟨rfl, Qd (by rw [h9, h10]; first | done | kernel_rfl)⟩
   ·
    refine rk Qb [] [1] [] [1] [(2, .val (.b true)), (6, .val (.i (s_.2.1.length : Int))), (7, .val (.b false))] (o2 (Qg (cb h9 (Va s_.1))) (o2 (Qi (Xs s_.2.1)) (o1 (Qi (Qh h10))))) ?_
    exact ⟨rfl, Qd (by rw [h9, h10]; first | done | kernel_rfl)⟩
  ·
   refine rk Qb [] [1] [] [1] [(2, .val (.b false))] (o1 (Qg (cb h9 (Va s_.1)))) ?_
   exact ⟨rfl, Qd (by rw [h9]; first | done | kernel_rfl)⟩
  refine Qq ?_
  exact Ze [] (congrArg (fun z => (.b z : AV)) (show Ko s_ = ((Jt s_.1) && (decide ((s_.2.1.length : Int) ≤ (12 : Int)) && (Xr s_.2.2 1 61))) from Hk hD0 (rfl)).symm)
end Go.Proofs.YtamghcfmhfknmaaGreat
namespace Go.Proofs.YtamghcfmhfknmaaGreat
open Go.RowKit
open GoE (enc wide)
def Qbn (name : ByteArray) (_ : Nat) (a0 : AttrD) (_ : Unit) : Rd (Qee) (Unit) (Unit) := (bif (a0.1.toList == name.toList) then (.ret a0.2) else (.next ()))
def Qbo (_ : Nat) (_ : Unit) : Unit := ()
def Xa (f : Zb) (name : ByteArray) : Qee := (Out.on (Xv (Qbn name) Qbo f.2.2.2.2 0 ()) (fun _ => (0, 0, ⟨#[]⟩)))
theorem Qcu (f : Zb) (name : ByteArray) : ACalls Tryz.prog 239 [.a [.i f.1, .i f.2.1, .b f.2.2.1, .i f.2.2.2.1, .h f.2.2.2.2], .s name] (.a [.i ((Xa f name).1), .i ((Xa f name).2.1), .s ((Xa f name).2.2)]) := by
 refine Qt (tt := tt) Qb Tryz.func239 (fn := Tryz.f239) rfl (by unfold Jr; kernel_rfl) (Nat.le_of_ble_eq_true rfl) fun w0 F0 hG => ?_
 refine Qa ?_
 refine rk Qb [(2, .p 2 0), (4, .p 4 0)] [0] [(2, [.i f.1, .i f.2.1, .b f.2.2.1, .i f.2.2.2.1, .h f.2.2.2.2]), (4, [.i 0, .i 0, .s ⟨#[]⟩])] [] [] (o0) ?_
 refine Qa ?_
 refine Qa ?_
 refine rk Qb [(8, .h f.2.2.2.2), (9, .i (f.2.2.2.2.length : Int)), (10, .i 0)] [2] [] [2] [(2, .val (.i (f.2.2.2.2.length : Int)))] (o1 (Qi (Xs f.2.2.2.2))) ?_
 refine wdT 8 0 .sh f.2.2.2.2 (fun hw1 => ?_)
 have hl2 : List.length f.2.2.2.2 ≤ 1073741824 := Qx (hw1)
 refine blk (fun (k0 : Nat) (s0 : Unit) => [(10, .i ((k0 : Nat) : Int))]) [10] (fun k0 s0 => []) [] (fun (y0 : Unit) => []) [1, 8, 9, 10] (fun y0 => []) [] (fun (k0 : Nat) (s0 : Unit) => (Xv (Qbn name) Qbo f.2.2.2.2 0 ()) = Xv (Qbn name) Qbo (List.drop k0 f.2.2.2.2) k0 s0) (fun (y0 : Unit) => (Xv (Qbn name) Qbo f.2.2.2.2 0 ()) = .brk y0) f.2.2.2.2.length () (Qd (by kernel_rfl)) rfl (fun k0 s0 hk0 hI0 => ?_) (fun k0 s0 hk0 hI0 => ?_) (fun y0 hD0 => ?_)
 ·
  obtain ⟨a0, hx0⟩ := Yl (l := f.2.2.2.2) (i := k0) hk0
  refine Qa ?_
  refine rk Qb [(11, .b true)] [] [] [] [(0, .val (.b true))] (o1 (Qi (Qh (decide_eq_true (p := ((k0 : Nat) : Int) < (f.2.2.2.2.length : Int)) (by omega))))) ?_
  refine Qa ?_
  refine ckT ?_
  refine Qr ?_
  refine Qa ?_
  refine Xf ?_
  refine Qa ?_
  refine rk Qb [(6, .p 6 0)] [11] [(6, [.s a0.1, .i a0.2.1, .i a0.2.2.1, .s a0.2.2.2])] [] [(0, .row [.s a0.1, .i a0.2.1, .i a0.2.2.1, .s a0.2.2.2])] (o1 (Qy (X4 (i := ((k0 : Nat) : Int)) (by omega) rfl hx0))) ?_
  refine Qa ?_
  refine rk Qb [(17, .b (a0.1.toList == name.toList))] [] [] [] [] (o0) ?_
  refine ck (a0.1.toList == name.toList) (fun h3 => ?_) (fun h3 => ?_)
  ·
   refine Qa ?_
   refine rk Qb [] [6, 17] [(4, [.i a0.2.1, .i a0.2.2.1, .s a0.2.2.2])] [4, 6] [] (o0) ?_
   refine Qq ?_
   have hr4 : (Xv (Qbn name) Qbo f.2.2.2.2 0 ()) = .ret a0.2 := Jy hx0 (X8 h3 (rfl)) hI0
   exact Ze [] (congrArg (fun z => (.a [.i z.1, .i z.2.1, .s z.2.2] : AV)) (show Xa f name = a0.2 from on_r hr4).symm)
  ·
   refine Qr ?_
   refine rk Qb [(10, .i ((k0 + 1 : Nat) : Int))] [6, 10, 17] [] [6] [(0, .val (.i ((k0 + 1 : Nat) : Int)))] (o1 (Qi (Km (Q8 k0 (by omega))))) ?_
   exact Exists.intro () (And.intro (Qd (by kernel_rfl)) (Xe hx0 (Q6 h3 (rfl)) hI0))
 ·
  refine Qa ?_
  refine rk Qb [(11, .b false)] [] [] [] [(0, .val (.b false))] (o1 (Qi (Qh (decide_eq_false (p := ((k0 : Nat) : Int) < (f.2.2.2.2.length : Int)) (by omega))))) ?_
  refine Qa ?_
  refine ckF ?_
  refine Xt ?_
  exact Exists.intro () (And.intro (Qd (by kernel_rfl)) (Ym hk0 (rfl) hI0))
 ·
  refine Qa ?_
  refine rk Qb [] [] [] [] [] (o0) ?_
  refine Qq ?_
  exact Ze [] (congrArg (fun z => (.a [.i z.1, .i z.2.1, .s z.2.2] : AV)) (show Xa f name = (0, 0, ⟨#[]⟩) from Hk hD0 (rfl)).symm)
def Ki (f : Zb) (name : ByteArray) : Int × Bool := (bif ((Xa f name).1 != (1 : Int)) then (0, false) else ((Xa f name).2.1, true))
theorem implIntAttr_a (f : Zb) (name : ByteArray) : ACalls Tryz.prog 240 [.a [.i f.1, .i f.2.1, .b f.2.2.1, .i f.2.2.2.1, .h f.2.2.2.2], .s name] (.tup [(false, [.i (((Ki f name)).1)]), (false, [.b (((Ki f name)).2)])]) := by
 refine Qt (tt := tt) Qb Tryz.func240 (fn := Tryz.f240) rfl (by unfold Jr; kernel_rfl) (Nat.le_of_ble_eq_true rfl) fun w0 F0 hG => ?_
 refine Qa ?_
 refine rk Qb [(2, .p 2 0), (4, .i 0), (5, .b false)] [0] [(2, [.i f.1, .i f.2.1, .b f.2.2.1, .i f.2.2.2.1, .h f.2.2.2.2])] [] [] (o0) ?_
 refine Qa ?_
 refine rk Qb [(6, .p 6 0)] [1, 2] [(6, [.i ((Xa f name).1), .i ((Xa f name).2.1), .s ((Xa f name).2.2)])] [2] [(2, .val (.a [.i ((Xa f name).1), .i ((Xa f name).2.1), .s ((Xa f name).2.2)]))] (o1 (Qg (Qcu f name))) ?_
 refine Qa ?_
 refine Qa ?_
 refine rk Qb [(12, .b ((Xa f name).1 != (1 : Int)))] [] [] [] [] (o0) ?_
 refine ck ((Xa f name).1 != (1 : Int)) (fun h1 => ?_) (fun h1 => ?_)
 ·
  refine Qa ?_
  refine rk Qb [] [12] [] [] [] (o0) ?_
  refine Qq ?_
  exact Ze [] (congrArg (fun z => (.tup [(false, [.i z.1]), (false, [.b z.2])] : AV)) (show Ki f name = (0, false) from X8 h1 (rfl)).symm)
 ·
  refine Qr ?_
  refine Qa ?_
  refine rk Qb [(4, .i ((Xa f name).2.1)), (5, .b true)] [4, 5, 6, 12] [] [6] [] (o0) ?_
  refine Qq ?_
  exact Ze [] (congrArg (fun z => (.tup [(false, [.i z.1]), (false, [.b z.2])] : AV)) (show Ki f name = ((Xa f name).2.1, true) from Q6 h1 (rfl)).symm)
def V1 (name : ByteArray) (_ : Nat) (a0 : Qs) (_ : Unit) : Rd ((List Int)) (Unit) (Unit) := (bif (a0.1.toList == name.toList) then (.ret a0.2) else (.next ()))
def Wt (_ : Nat) (_ : Unit) : Unit := ()
def Q5 (r : (List Qs)) (name : ByteArray) : (List Int) := (Out.on (Xv (V1 name) Wt r 0 ()) (fun _ => []))
theorem Qcv (r : (List Qs)) (name : ByteArray) : ACalls Tryz.prog 90 [.h r, .s name] (.o 0 (Q5 r name)) := by
 refine Qt (tt := tt) Qb Tryz.func90 (fn := Tryz.f90) rfl (by unfold Jr; kernel_rfl) (Nat.le_of_ble_eq_true rfl) fun w0 F0 hG => ?_
 refine Qa ?_
 refine rk Qb [(4, .e 0)] [] [] [] [] (o0) ?_
 refine Qa ?_
 refine Qa ?_
 refine rk Qb [(7, .h r), (8, .i (r.length : Int)), (9, .i 0)] [0] [] [] [(1, .val (.i (r.length : Int)))] (o1 (Qi (Xs r))) ?_
 refine wdT 7 0 .sh r (fun hw1 => ?_)
 have hl2 : List.length r ≤ 1073741824 := Qx (hw1)
 refine blk (fun (k0 : Nat) (s0 : Unit) => [(9, .i ((k0 : Nat) : Int))]) [9] (fun k0 s0 => []) [] (fun (y0 : Unit) => []) [1, 7, 8, 9] (fun y0 => []) [] (fun (k0 : Nat) (s0 : Unit) => (Xv (V1 name) Wt r 0 ()) = Xv (V1 name) Wt (List.drop k0 r) k0 s0) (fun (y0 : Unit) => (Xv (V1 name) Wt r 0 ()) = .brk y0) r.length () (Qd (by kernel_rfl)) rfl (fun k0 s0 hk0 hI0 => ?_) (fun k0 s0 hk0 hI0 => ?_) (fun y0 hD0 => ?_)
 ·
  obtain ⟨a0, hx0⟩ := Yl (l := r) (i := k0) hk0
  refine Qa ?_
  refine rk Qb [(10, .b true)] [] [] [] [(0, .val (.b true))] (o1 (Qi (Qh (decide_eq_true (p := ((k0 : Nat) : Int) < (r.length : Int)) (by omega))))) ?_
  refine Qa ?_
  refine ckT ?_
  refine Qr ?_
  refine Qa ?_
  refine Xf ?_
  refine Qa ?_
  refine rk Qb [(6, .p 6 0)] [10] [(6, [.s a0.1, .h a0.2])] [] [(0, .row [.s a0.1, .h a0.2])] (o1 (Qy (X4 (i := ((k0 : Nat) : Int)) (by omega) rfl hx0))) ?_
  refine Qa ?_
  refine rk Qb [(16, .b (a0.1.toList == name.toList))] [] [] [] [] (o0) ?_
  refine ck (a0.1.toList == name.toList) (fun h3 => ?_) (fun h3 => ?_)
  ·
   refine Qa ?_
   refine rk Qb [(4, .o 1216 a0.2)] [4, 6, 16] [] [6] [(2, .val (.o 0 a0.2))] (o1 (Qg (cloneInt_a a0.2))) ?_
   refine Qq ?_
   have hr4 : (Xv (V1 name) Wt r 0 ()) = .ret a0.2 := Jy hx0 (X8 h3 (rfl)) hI0
   exact Ze [] (congrArg (fun z => (.o 0 z : AV)) (show Q5 r name = a0.2 from on_r hr4).symm)
  ·
   refine Qr ?_
   refine rk Qb [(9, .i ((k0 + 1 : Nat) : Int))] [6, 9, 16] [] [6] [(0, .val (.i ((k0 + 1 : Nat) : Int)))] (o1 (Qi (Km (Q8 k0 (by omega))))) ?_
   exact Exists.intro () (And.intro (Qd (by kernel_rfl)) (Xe hx0 (Q6 h3 (rfl)) hI0))
 ·
  refine Qa ?_
  refine rk Qb [(10, .b false)] [] [] [] [(0, .val (.b false))] (o1 (Qi (Qh (decide_eq_false (p := ((k0 : Nat) : Int) < (r.length : Int)) (by omega))))) ?_
  refine Qa ?_
  refine ckF ?_
  refine Xt ?_
  exact Exists.intro () (And.intro (Qd (by kernel_rfl)) (Ym hk0 (rfl) hI0))
 ·
  refine Qa ?_
  refine rk Qb [] [] [] [] [] (o0) ?_
  refine opn [(false, 4, 0, true, 384000, 1)] ?_
  refine Qq ?_
  exact Ze [] (congrArg (fun z => (.o 0 z : AV)) (show Q5 r name = [] from Hk hD0 (rfl)).symm)
def Jl (v : Int) (k0 : Nat) (a0 : Int) (_ : Unit) : Rd (Int) (Unit) (Unit) := (bif (v == a0) then (.ret ((k0 : Nat) : Int)) else (.next ()))
def Ku (_ : Nat) (_ : Unit) : Unit := ()
def Vm (s_ : (List Int)) (v : Int) : Int := (Out.on (Xv (Jl v) Ku s_ 0 ()) (fun _ => -1))
theorem slicesIndex_int_a (s_ : (List Int)) (v : Int) : ACalls Tryz.prog 114 [.h s_, .i v] (.i (Vm s_ v)) := by
 refine Qt (tt := tt) Qb Tryz.func114 (fn := Tryz.f114) rfl (by unfold Jr; kernel_rfl) (Nat.le_of_ble_eq_true rfl) fun w0 F0 hG => ?_
 refine Qa ?_
 refine rk Qb [(4, .i 0)] [] [] [] [] (o0) ?_
 refine Qa ?_
 refine Qa ?_
 refine rk Qb [(7, .i (s_.length : Int)), (8, .i 0)] [] [] [] [(1, .val (.i (s_.length : Int)))] (o1 (Qi (Xs s_))) ?_
 refine wdT 0 0 .sh s_ (fun hw1 => ?_)
 have hl2 : List.length s_ ≤ 1073741824 := Qx (hw1)
 refine blk (fun (k0 : Nat) (s0 : Unit) => [(8, .i ((k0 : Nat) : Int))]) [8] (fun k0 s0 => []) [] (fun (y0 : Unit) => []) [0, 1, 7, 8] (fun y0 => []) [] (fun (k0 : Nat) (s0 : Unit) => (Xv (Jl v) Ku s_ 0 ()) = Xv (Jl v) Ku (List.drop k0 s_) k0 s0) (fun (y0 : Unit) => (Xv (Jl v) Ku s_ 0 ()) = .brk y0) s_.length () (Qd (by kernel_rfl)) rfl (fun k0 s0 hk0 hI0 => ?_) (fun k0 s0 hk0 hI0 => ?_) (fun y0 hD0 => ?_)
 ·
  obtain ⟨a0, hx0⟩ := Yl (l := s_) (i := k0) hk0
  refine Qa ?_
  refine rk Qb [(9, .b true)] [] [] [] [(0, .val (.b true))] (o1 (Qi (Qh (decide_eq_true (p := ((k0 : Nat) : Int) < (s_.length : Int)) (by omega))))) ?_
  refine Qa ?_
  refine ckT ?_
  refine Qr ?_
  refine Qa ?_
  refine Xf ?_
  refine Qa ?_
  refine rk Qb [(5, .i ((k0 : Nat) : Int))] [9] [] [] [] (o0) ?_
  refine Qa ?_
  refine rk Qb [(16, .b (v == a0))] [] [] [] [(3, .row [.i a0])] (o1 (Qy (X4 (i := ((k0 : Nat) : Int)) (by omega) rfl hx0))) ?_
  refine ck (v == a0) (fun h3 => ?_) (fun h3 => ?_)
  ·
   refine Qa ?_
   refine rk Qb [(4, .i ((k0 : Nat) : Int))] [4, 5, 16] [] [] [] (o0) ?_
   refine Qq ?_
   have hr4 : (Xv (Jl v) Ku s_ 0 ()) = .ret ((k0 : Nat) : Int) := Jy hx0 (X8 h3 (rfl)) hI0
   exact Ze [] (congrArg (fun z => (.i z : AV)) (show Vm s_ v = ((k0 : Nat) : Int) from on_r hr4).symm)
  ·
   have h3d := Zz h3
   refine Qr ?_
   refine rk Qb [(8, .i ((k0 + 1 : Nat) : Int))] [5, 8, 16] [] [] [(0, .val (.i ((k0 + 1 : Nat) : Int)))] (o1 (Qi (Km (Q8 k0 (by omega))))) ?_
   exact Exists.intro () (And.intro (Qd (by kernel_rfl)) (Xe hx0 (Q6 h3 (rfl)) hI0))
 ·
  refine Qa ?_
  refine rk Qb [(9, .b false)] [] [] [] [(0, .val (.b false))] (o1 (Qi (Qh (decide_eq_false (p := ((k0 : Nat) : Int) < (s_.length : Int)) (by omega))))) ?_
  refine Qa ?_
  refine ckF ?_
  refine Xt ?_
  exact Exists.intro () (And.intro (Qd (by kernel_rfl)) (Ym hk0 (rfl) hI0))
 ·
  refine Qa ?_
  refine rk Qb [(4, .i (-1))] [4] [] [] [] (o0) ?_
  refine Qq ?_
  exact Ze [] (congrArg (fun z => (.i z : AV)) (show Vm s_ v = -1 from Hk hD0 (rfl)).symm)
def Ja (s_ : (List Int)) (v : Int) : Bool := decide ((Vm s_ v) ≥ (0 : Int))
theorem Qdx (s_ : (List Int)) (v : Int) : ACalls Tryz.prog 67 [.h s_, .i v] (.b (Ja s_ v)) := by
 refine Qt (tt := tt) Qb Tryz.func67 (fn := Tryz.f67) rfl (by unfold Jr; kernel_rfl) (Nat.le_of_ble_eq_true rfl) fun w0 F0 hG => ?_
 refine Qa ?_
 refine rk Qb [(4, .b false)] [] [] [] [] (o0) ?_
 refine Qa ?_
 refine rk Qb [(4, .b (decide ((Vm s_ v) ≥ (0 : Int))))] [0, 1, 4] [] [] [(2, .val (.i (Vm s_ v)))] (o1 (Qg (slicesIndex_int_a s_ v))) ?_
 refine Qq ?_
 exact Ze [] (congrArg (fun z => (.b z : AV)) (show Ja s_ v = decide ((Vm s_ v) ≥ (0 : Int)) from rfl).symm)
def Jp (ids : (List Int)) (id : Int) : Bool := (Ja ids id)
theorem Qfw (ids : (List Int)) (id : Int) : ACalls Tryz.prog 153 [.h ids, .i id] (.b (Jp ids id)) := by
 refine Qt (tt := tt) Qb Tryz.func153 (fn := Tryz.f153) rfl (by unfold Jr; kernel_rfl) (Nat.le_of_ble_eq_true rfl) fun w0 F0 hG => ?_
 refine Qa ?_
 refine rk Qb [(4, .b false)] [] [] [] [] (o0) ?_
 refine Qa ?_
 refine rk Qb [(4, .b (Ja ids id))] [0, 1, 4] [] [] [(2, .val (.b (Ja ids id)))] (o1 (Qg (Qdx ids id))) ?_
 refine Qq ?_
 exact Ze [] (congrArg (fun z => (.b z : AV)) (show Jp ids id = (Ja ids id) from rfl).symm)
def Xl (n_ : Nat) (q : (List Zo)) (at_ : Int) (f : Zb) (r : (List Qs)) : Bool := match n_ with
 | 0 => default
 | n_ + 1 => (bif ((nth q (Int.toNat at_)).1 == (2 : Int)) then ((Xa f ((nth q (Int.toNat at_)).2.2.2.1)).1 != (0 : Int)) else (bif ((nth q (Int.toNat at_)).1 == (3 : Int)) then (((Xa f ((nth q (Int.toNat at_)).2.2.2.1)).1 == (nth q (Int.toNat at_)).2.2.2.2.1) && (((Xa f ((nth q (Int.toNat at_)).2.2.2.1)).2.1 == (nth q (Int.toNat at_)).2.2.2.2.2.1) && ((((Xa f ((nth q (Int.toNat at_)).2.2.2.1)).2.2).toList == ((nth q (Int.toNat at_)).2.2.2.2.2.2).toList) && true))) else (bif ((nth q (Int.toNat at_)).1 == (4 : Int)) then (((Ki f ((nth q (Int.toNat at_)).2.2.2.1))).2 && decide (((Ki f ((nth q (Int.toNat at_)).2.2.2.1))).1 < (nth q (Int.toNat at_)).2.2.2.2.2.1)) else (bif ((nth q (Int.toNat at_)).1 == (5 : Int)) then (!(Xl n_ q ((nth q (Int.toNat at_)).2.1) f r)) else (bif ((nth q (Int.toNat at_)).1 == (6 : Int)) then ((Xl n_ q ((nth q (Int.toNat at_)).2.1) f r) && (Xl n_ q ((nth q (Int.toNat at_)).2.2.1) f r)) else (bif ((nth q (Int.toNat at_)).1 == (7 : Int)) then ((Xl n_ q ((nth q (Int.toNat at_)).2.1) f r) || (Xl n_ q ((nth q (Int.toNat at_)).2.2.1) f r)) else (bif ((nth q (Int.toNat at_)).1 == (8 : Int)) then (Jp (Q5 r ((nth q (Int.toNat at_)).2.2.2.1)) f.1) else (bif ((nth q (Int.toNat at_)).1 == (9 : Int)) then ((f.2.2.2.1 != (0 : Int)) && (Jp (Q5 r ((nth q (Int.toNat at_)).2.2.2.1)) f.2.2.2.1)) else true))))))))
theorem implmatchesAt_a : ∀ (n_ : Nat) (q : (List Zo)) (at_ : Int) (f : Zb) (r : (List Qs)) (hv : Q7 q = true) (ha : 0 ≤ at_) (hb : at_ < (q.length : Int)) (hn : at_ < ((n_ : Nat) : Int)), ACalls Tryz.prog 199 [.h q, .i at_, .a [.i f.1, .i f.2.1, .b f.2.2.1, .i f.2.2.2.1, .h f.2.2.2.2], .h r] (.b (Xl n_ q at_ f r)) := by
 intro n_
 induction n_ with
 | zero => intro q at_ f r hv ha hb hn; exact (by omega : False).elim
 | succ n_ ih =>
  intro q at_ f r hv ha hb hn
  refine Qt (tt := tt) Qb Tryz.func199 (fn := Tryz.f199) rfl (by unfold Jr; kernel_rfl) (Nat.le_of_ble_eq_true rfl) fun w0 F0 hG => ?_
  refine Qa ?_
  refine rk Qb [(6, .p 6 0), (8, .b false)] [2] [(6, [.i f.1, .i f.2.1, .b f.2.2.1, .i f.2.2.2.1, .h f.2.2.2.2])] [] [] (o0) ?_
  refine Qa ?_
  refine wdT 0 0 .sh q (fun hw2 => ?_)
  have hl3 : List.length q ≤ 1073741824 := Qx (hw2)
  have hx1 : q[(Int.toNat at_)]? = some (nth q (Int.toNat at_)) := Yj (by omega)
  refine rk Qb [(9, .p 9 0)] [1] [(9, [.i ((nth q (Int.toNat at_)).1), .i ((nth q (Int.toNat at_)).2.1), .i ((nth q (Int.toNat at_)).2.2.1), .s ((nth q (Int.toNat at_)).2.2.2.1), .i ((nth q (Int.toNat at_)).2.2.2.2.1), .i ((nth q (Int.toNat at_)).2.2.2.2.2.1), .s ((nth q (Int.toNat at_)).2.2.2.2.2.2)])] [] [(2, .row [.i ((nth q (Int.toNat at_)).1), .i ((nth q (Int.toNat at_)).2.1), .i ((nth q (Int.toNat at_)).2.2.1), .s ((nth q (Int.toNat at_)).2.2.2.1), .i ((nth q (Int.toNat at_)).2.2.2.2.1), .i ((nth q (Int.toNat at_)).2.2.2.2.2.1), .s ((nth q (Int.toNat at_)).2.2.2.2.2.2)])] (o1 (Qy (X4 (i := at_) (by omega) rfl hx1))) ?_
  refine Qa ?_
  refine Qa ?_
  refine rk Qb [(17, .i ((nth q (Int.toNat at_)).1))] [] [] [] [] (o0) ?_
  refine Xf ?_
  refine Qa ?_
  refine rk Qb [(18, .b ((nth q (Int.toNat at_)).1 == (2 : Int)))] [] [] [] [] (o0) ?_
  refine ck ((nth q (Int.toNat at_)).1 == (2 : Int)) (fun h4 => ?_) (fun h4 => ?_)
  ·
   refine Qa ?_
   refine rk Qb [(8, .b ((Xa f ((nth q (Int.toNat at_)).2.2.2.1)).1 != (0 : Int)))] [0, 3, 6, 8, 9, 17, 18] [] [6, 9] [(3, .val (.a [.i ((Xa f ((nth q (Int.toNat at_)).2.2.2.1)).1), .i ((Xa f ((nth q (Int.toNat at_)).2.2.2.1)).2.1), .s ((Xa f ((nth q (Int.toNat at_)).2.2.2.1)).2.2)]))] (o1 (Qg (Qcu f ((nth q (Int.toNat at_)).2.2.2.1)))) ?_
   refine Qq ?_
   exact Ze [] (congrArg (fun z => (.b z : AV)) (show Xl (n_ + 1) q at_ f r = ((Xa f ((nth q (Int.toNat at_)).2.2.2.1)).1 != (0 : Int)) from X8 h4 (rfl)).symm)
  ·
   have h4d := Zz h4
   refine Qa ?_
   refine rk Qb [(26, .b ((nth q (Int.toNat at_)).1 == (3 : Int)))] [18] [] [] [] (o0) ?_
   refine ck ((nth q (Int.toNat at_)).1 == (3 : Int)) (fun h5 => ?_) (fun h5 => ?_)
   ·
    refine Qa ?_
    refine rd' Qb Js [(8, .b (((Xa f ((nth q (Int.toNat at_)).2.2.2.1)).1 == (nth q (Int.toNat at_)).2.2.2.2.1) && (((Xa f ((nth q (Int.toNat at_)).2.2.2.1)).2.1 == (nth q (Int.toNat at_)).2.2.2.2.2.1) && ((((Xa f ((nth q (Int.toNat at_)).2.2.2.1)).2.2).toList == ((nth q (Int.toNat at_)).2.2.2.2.2.2).toList) && true))))] [0, 3, 6, 8, 9, 17, 26] [] [6, 9] [(3, .val (.a [.i ((Xa f ((nth q (Int.toNat at_)).2.2.2.1)).1), .i ((Xa f ((nth q (Int.toNat at_)).2.2.2.1)).2.1), .s ((Xa f ((nth q (Int.toNat at_)).2.2.2.1)).2.2)]))] (o1 (Qg (Qcu f ((nth q (Int.toNat at_)).2.2.2.1)))) ?_
    refine Qq ?_
    exact Ze [] (congrArg (fun z => (.b z : AV)) (show Xl (n_ + 1) q at_ f r = (((Xa f ((nth q (Int.toNat at_)).2.2.2.1)).1 == (nth q (Int.toNat at_)).2.2.2.2.1) && (((Xa f ((nth q (Int.toNat at_)).2.2.2.1)).2.1 == (nth q (Int.toNat at_)).2.2.2.2.2.1) && ((((Xa f ((nth q (Int.toNat at_)).2.2.2.1)).2.2).toList == ((nth q (Int.toNat at_)).2.2.2.2.2.2).toList) && true))) from Q6 h4 (X8 h5 (rfl))).symm)
   ·
    have h5d := Zz h5
    refine Qa ?_
    refine rk Qb [(35, .b ((nth q (Int.toNat at_)).1 == (4 : Int)))] [26] [] [] [] (o0) ?_
    refine ck ((nth q (Int.toNat at_)).1 == (4 : Int)) (fun h6 => ?_) (fun h6 => ?_)
    ·
     refine Qa ?_
     refine rk Qb [(10, .i (((Ki f ((nth q (Int.toNat at_)).2.2.2.1))).1)), (11, .b (((Ki f ((nth q (Int.toNat at_)).2.2.2.1))).2))] [0, 3, 6, 17, 35] [] [6] [(3, .val (.tup [(false, [.i (((Ki f ((nth q (Int.toNat at_)).2.2.2.1))).1)]), (false, [.b (((Ki f ((nth q (Int.toNat at_)).2.2.2.1))).2)])]))] (o1 (Qg (implIntAttr_a f ((nth q (Int.toNat at_)).2.2.2.1)))) ?_
     refine Qa ?_
     refine jn [(8, .b (((Ki f ((nth q (Int.toNat at_)).2.2.2.1))).2 && decide (((Ki f ((nth q (Int.toNat at_)).2.2.2.1))).1 < (nth q (Int.toNat at_)).2.2.2.2.2.1)))] [8, 9, 10, 11] [] [9] (((Ki f ((nth q (Int.toNat at_)).2.2.2.1))).2) (fun h7 => ?_) (fun h7 => ?_) ?_
     ·
      refine rk Qb [(8, .b (decide (((Ki f ((nth q (Int.toNat at_)).2.2.2.1))).1 < (nth q (Int.toNat at_)).2.2.2.2.2.1)))] [8, 9, 10, 11] [] [9] [(0, .val (.b true))] (o1 (Qi (Qh h7))) ?_
      exact ⟨rfl, Qd (by rw [h7]; first | done | kernel_rfl)⟩
     ·
      refine rk Qb [] [9, 10, 11] [] [9] [(0, .val (.b false))] (o1 (Qi (Qh h7))) ?_
      exact ⟨rfl, Qd (by rw [h7]; first | done | kernel_rfl)⟩
     refine Qq ?_
     exact Ze [] (congrArg (fun z => (.b z : AV)) (show Xl (n_ + 1) q at_ f r = (((Ki f ((nth q (Int.toNat at_)).2.2.2.1))).2 && decide (((Ki f ((nth q (Int.toNat at_)).2.2.2.1))).1 < (nth q (Int.toNat at_)).2.2.2.2.2.1)) from Q6 h4 (Q6 h5 (X8 h6 (rfl)))).symm)
    ·
     have h6d := Zz h6
     refine Qa ?_
     refine rk Qb [(52, .b ((nth q (Int.toNat at_)).1 == (5 : Int)))] [35] [] [] [] (o0) ?_
     refine ck ((nth q (Int.toNat at_)).1 == (5 : Int)) (fun h8 => ?_) (fun h8 => ?_)
     ·
      have h8d := eq_of_beq h8
      refine Qa ?_
      refine rk Qb [(8, .b (!(Xl n_ q ((nth q (Int.toNat at_)).2.1) f r)))] [0, 3, 6, 8, 9, 17, 52] [] [6, 9] [(5, .val (.b (Xl n_ q ((nth q (Int.toNat at_)).2.1) f r)))] (o1 (Qg (ih q ((nth q (Int.toNat at_)).2.1) f r hv (by have hz := ql_a hv ha hb h8; omega) (by have hz := ql_a hv ha hb h8; omega) (by have hz := ql_a hv ha hb h8; omega)))) ?_
      refine Qq ?_
      exact Ze [] (congrArg (fun z => (.b z : AV)) (show Xl (n_ + 1) q at_ f r = (!(Xl n_ q ((nth q (Int.toNat at_)).2.1) f r)) from Q6 h4 (Q6 h5 (Q6 h6 (X8 h8 (rfl))))).symm)
     ·
      have h8d := Zz h8
      refine Qa ?_
      refine rk Qb [(61, .b ((nth q (Int.toNat at_)).1 == (6 : Int)))] [52] [] [] [] (o0) ?_
      refine ck ((nth q (Int.toNat at_)).1 == (6 : Int)) (fun h9 => ?_) (fun h9 => ?_)
      ·
       have h9d := eq_of_beq h9
       refine Qa ?_
       refine jn [(8, .b ((Xl n_ q ((nth q (Int.toNat at_)).2.1) f r) && (Xl n_ q ((nth q (Int.toNat at_)).2.2.1) f r)))] [0, 3, 6, 8, 9, 17, 61] [] [6, 9] (Xl n_ q ((nth q (Int.toNat at_)).2.1) f r) (fun h10 => ?_) (fun h10 => ?_) ?_
       ·
        refine rk Qb [(8, .b (Xl n_ q ((nth q (Int.toNat at_)).2.2.1) f r))] [0, 3, 6, 8, 9, 17, 61] [] [6, 9] [(5, .val (.b true)), (12, .val (.b (Xl n_ q ((nth q (Int.toNat at_)).2.2.1) f r)))] (o2 (Qg (cb h10 (ih q ((nth q (Int.toNat at_)).2.1) f r hv (by have hz := ql_b hv ha hb h9; omega) (by have hz := ql_b hv ha hb h9; omega) (by have hz := ql_b hv ha hb h9; omega)))) (o1 (Qg (ih q ((nth q (Int.toNat at_)).2.2.1) f r hv (by have hz := qr_b hv ha hb h9; omega) (by have hz := qr_b hv ha hb h9; omega) (by have hz := qr_b hv ha hb h9; omega))))) ?_
        exact ⟨rfl, Qd (by rw [h10]; first | done | kernel_rfl)⟩
       ·
        refine rk Qb [] [0, 3, 6, 9, 17, 61] [] [6, 9] [(5, .val (.b false))] (o1 (Qg (cb h10 (ih q ((nth q (Int.toNat at_)).2.1) f r hv (by have hz := ql_b hv ha hb h9; omega) (by have hz := ql_b hv ha hb h9; omega) (by have hz := ql_b hv ha hb h9; omega))))) ?_
        exact ⟨rfl, Qd (by rw [h10]; first | done | kernel_rfl)⟩
       refine Qq ?_
       exact Ze [] (congrArg (fun z => (.b z : AV)) (show Xl (n_ + 1) q at_ f r = ((Xl n_ q ((nth q (Int.toNat at_)).2.1) f r) && (Xl n_ q ((nth q (Int.toNat at_)).2.2.1) f r)) from Q6 h4 (Q6 h5 (Q6 h6 (Q6 h8 (X8 h9 (rfl)))))).symm)
      ·
       have h9d := Zz h9
       refine Qa ?_
       refine rk Qb [(77, .b ((nth q (Int.toNat at_)).1 == (7 : Int)))] [61] [] [] [] (o0) ?_
       refine ck ((nth q (Int.toNat at_)).1 == (7 : Int)) (fun h11 => ?_) (fun h11 => ?_)
       ·
        have h11d := eq_of_beq h11
        refine Qa ?_
        refine jn [(8, .b ((Xl n_ q ((nth q (Int.toNat at_)).2.1) f r) || (Xl n_ q ((nth q (Int.toNat at_)).2.2.1) f r)))] [0, 3, 6, 8, 9, 17, 77] [] [6, 9] (Xl n_ q ((nth q (Int.toNat at_)).2.1) f r) (fun h12 => ?_) (fun h12 => ?_) ?_
        ·
         refine rk Qb [(8, .b true)] [0, 3, 6, 8, 9, 17, 77] [] [6, 9] [(5, .val (.b true))] (o1 (Qg (cb h12 (ih q ((nth q (Int.toNat at_)).2.1) f r hv (by have hz := ql_c hv ha hb h11; omega) (by have hz := ql_c hv ha hb h11; omega) (by have hz := ql_c hv ha hb h11; omega))))) ?_
         exact ⟨rfl, Qd (by rw [h12]; first | done | kernel_rfl)⟩
        ·
         refine rk Qb [(8, .b (Xl n_ q ((nth q (Int.toNat at_)).2.2.1) f r))] [0, 3, 6, 8, 9, 17, 77] [] [6, 9] [(5, .val (.b false)), (12, .val (.b (Xl n_ q ((nth q (Int.toNat at_)).2.2.1) f r)))] (o2 (Qg (cb h12 (ih q ((nth q (Int.toNat at_)).2.1) f r hv (by have hz := ql_c hv ha hb h11; omega) (by have hz := ql_c hv ha hb h11; omega) (by have hz := ql_c hv ha hb h11; omega)))) (o1 (Qg (ih q ((nth q (Int.toNat at_)).2.2.1) f r hv (by have hz := qr_c hv ha hb h11; omega) (by have hz := qr_c hv ha hb h11; omega) (by have hz := qr_c hv ha hb h11; omega))))) ?_
         exact ⟨rfl, Qd (by rw [h12]; first | done | kernel_rfl)⟩
        refine Qq ?_
        exact Ze [] (congrArg (fun z => (.b z : AV)) (show Xl (n_ + 1) q at_ f r = ((Xl n_ q ((nth q (Int.toNat at_)).2.1) f r) || (Xl n_ q ((nth q (Int.toNat at_)).2.2.1) f r)) from Q6 h4 (Q6 h5 (Q6 h6 (Q6 h8 (Q6 h9 (X8 h11 (rfl))))))).symm)
       ·
        refine Qa ?_
        refine rk Qb [(93, .b ((nth q (Int.toNat at_)).1 == (8 : Int)))] [0, 77] [] [] [] (o0) ?_
        refine ck ((nth q (Int.toNat at_)).1 == (8 : Int)) (fun h13 => ?_) (fun h13 => ?_)
        ·
         refine Qa ?_
         refine rd' Qb Js [(8, .b (Jp (Q5 r ((nth q (Int.toNat at_)).2.2.2.1)) f.1))] [3, 6, 8, 9, 17, 93] [] [6, 9] [(3, .val (.o 0 (Q5 r ((nth q (Int.toNat at_)).2.2.2.1)))), (6, .val (.b (Jp (Q5 r ((nth q (Int.toNat at_)).2.2.2.1)) f.1)))] (o2 (Qg (Qcv r ((nth q (Int.toNat at_)).2.2.2.1))) (o1 (Qg (Qfw (Q5 r ((nth q (Int.toNat at_)).2.2.2.1)) f.1)))) ?_
         refine Qq ?_
         exact Ze [] (congrArg (fun z => (.b z : AV)) (show Xl (n_ + 1) q at_ f r = (Jp (Q5 r ((nth q (Int.toNat at_)).2.2.2.1)) f.1) from Q6 h4 (Q6 h5 (Q6 h6 (Q6 h8 (Q6 h9 (Q6 h11 (X8 h13 (rfl)))))))).symm)
        ·
         refine Qa ?_
         refine rk Qb [(102, .b ((nth q (Int.toNat at_)).1 == (9 : Int)))] [17, 93] [] [] [] (o0) ?_
         refine ck ((nth q (Int.toNat at_)).1 == (9 : Int)) (fun h14 => ?_) (fun h14 => ?_)
         ·
          refine Qa ?_
          refine jn [(8, .b ((f.2.2.2.1 != (0 : Int)) && (Jp (Q5 r ((nth q (Int.toNat at_)).2.2.2.1)) f.2.2.2.1)))] [3, 6, 8, 9, 102] [] [6, 9] (f.2.2.2.1 != (0 : Int)) (fun h15 => ?_) (fun h15 => ?_) ?_
          ·
           refine rd' Qb Js [(8, .b (Jp (Q5 r ((nth q (Int.toNat at_)).2.2.2.1)) f.2.2.2.1))] [3, 6, 8, 9, 102] [] [6, 9] [(2, .val (.b true)), (7, .val (.o 0 (Q5 r ((nth q (Int.toNat at_)).2.2.2.1)))), (10, .val (.b (Jp (Q5 r ((nth q (Int.toNat at_)).2.2.2.1)) f.2.2.2.1)))] (o2 (Qi (Qh h15)) (o2 (Qg (Qcv r ((nth q (Int.toNat at_)).2.2.2.1))) (o1 (Qg (Qfw (Q5 r ((nth q (Int.toNat at_)).2.2.2.1)) f.2.2.2.1))))) ?_
           exact ⟨rfl, Qd (by rw [h15]; first | done | kernel_rfl)⟩
          ·
           refine rd' Qb Js [] [3, 6, 9, 102] [] [6, 9] [(2, .val (.b false))] (o1 (Qi (Qh h15))) ?_
           exact ⟨rfl, Qd (by rw [h15]; first | done | kernel_rfl)⟩
          refine Qq ?_
          exact Ze [] (congrArg (fun z => (.b z : AV)) (show Xl (n_ + 1) q at_ f r = ((f.2.2.2.1 != (0 : Int)) && (Jp (Q5 r ((nth q (Int.toNat at_)).2.2.2.1)) f.2.2.2.1)) from Q6 h4 (Q6 h5 (Q6 h6 (Q6 h8 (Q6 h9 (Q6 h11 (Q6 h13 (X8 h14 (rfl))))))))).symm)
         ·
          refine Qr ?_
          refine Qa ?_
          refine rk Qb [(8, .b true)] [3, 6, 8, 9, 102] [] [6, 9] [] (o0) ?_
          refine Qq ?_
          exact Ze [] (congrArg (fun z => (.b z : AV)) (show Xl (n_ + 1) q at_ f r = true from Q6 h4 (Q6 h5 (Q6 h6 (Q6 h8 (Q6 h9 (Q6 h11 (Q6 h13 (Q6 h14 (rfl))))))))).symm)
def Vn (q : (List Zo)) (f : Zb) (r : (List Qs)) : Bool := ((Q7 q) && (Xl (List.length q) q ((q.length : Int) - 1) f r))
theorem implMatches_a (q : (List Zo)) (f : Zb) (r : (List Qs)) : ACalls Tryz.prog 224 [.h q, .a [.i f.1, .i f.2.1, .b f.2.2.1, .i f.2.2.2.1, .h f.2.2.2.2], .h r] (.b (Vn q f r)) := by
 refine Qt (tt := tt) Qb Tryz.func224 (fn := Tryz.f224) rfl (by unfold Jr; kernel_rfl) (Nat.le_of_ble_eq_true rfl) fun w0 F0 hG => ?_
 refine Qa ?_
 refine rk Qb [(4, .p 4 0), (6, .b false)] [1] [(4, [.i f.1, .i f.2.1, .b f.2.2.1, .i f.2.2.2.1, .h f.2.2.2.2])] [] [] (o0) ?_
 refine Qa ?_
 refine jn [(6, .b ((Q7 q) && (Xl (List.length q) q ((q.length : Int) - 1) f r)))] [0, 2, 4, 6] [] [4] (Q7 q) (fun h1 => ?_) (fun h1 => ?_) ?_
 ·
  refine wdT 0 0 .sh q (fun hw2 => ?_)
  have hl3 : List.length q ≤ 1073741824 := Qx (hw2)
  refine rk Qb [(6, .b (Xl (List.length q) q ((q.length : Int) - 1) f r))] [0, 2, 4, 6] [] [4] [(1, .val (.b true)), (5, .val (.i (q.length : Int))), (6, .val (.i ((q.length : Int) - 1))), (9, .val (.b (Xl (List.length q) q ((q.length : Int) - 1) f r)))] (o2 (Qg (cb h1 (U0 q))) (o2 (Qi (Xs q)) (o2 (Qi (Km (IntWalk.i64_in ((q.length : Int) - 1) (by omega)))) (o1 (Qg (implmatchesAt_a (List.length q) q ((q.length : Int) - 1) f r h1 (by have := vq_len h1; omega) (by omega) (by omega))))))) ?_
  exact ⟨rfl, Qd (by rw [h1]; first | done | kernel_rfl)⟩
 ·
  refine rk Qb [] [0, 2, 4] [] [4] [(1, .val (.b false))] (o1 (Qg (cb h1 (U0 q)))) ?_
  exact ⟨rfl, Qd (by rw [h1]; first | done | kernel_rfl)⟩
 refine Qq ?_
 exact Ze [] (congrArg (fun z => (.b z : AV)) (show Vn q f r = ((Q7 q) && (Xl (List.length q) q ((q.length : Int) - 1) f r)) from rfl).symm)
def Vo (q : (List Zo)) (r : (List Qs)) (_ : Nat) (a0 : Zb) (s0 : (List Int)) : Rd ((List Int)) ((List Int)) ((List Int)) := (bif (Vn q a0 r) then (.next (s0 ++ [a0.1])) else (.next s0))
def U6 (_ : Nat) (s0 : (List Int)) : (List Int) := s0
def Yv (s_ : Zp) (q : (List Zo)) (r : (List Qs)) : (List Int) := (Out.on (Xv (Vo q r) U6 s_.2.1 0 []) (fun y0 => y0))
theorem implSelectFiles_a (s_ : Zp) (q : (List Zo)) (r : (List Qs)) : ACalls Tryz.prog 177 [.a [.h s_.1, .h s_.2.1, .i s_.2.2], .h q, .h r] (.o 0 (Yv s_ q r)) := by
 refine Qt (tt := tt) Qb Tryz.func177 (fn := Tryz.f177) rfl (by unfold Jr; kernel_rfl) (Nat.le_of_ble_eq_true rfl) fun w0 F0 hG => ?_
 refine Qa ?_
 refine rk Qb [(3, .p 3 0), (6, .e 0)] [0] [(3, [.h s_.1, .h s_.2.1, .i s_.2.2])] [] [] (o0) ?_
 refine Qa ?_
 refine rk Qb [(7, .one (.slc (.own true 640) 1 []))] [] [] [] [] (o0) ?_
 refine Qa ?_
 refine Qa ?_
 refine rk Qb [(12, .h s_.2.1), (13, .i (s_.2.1.length : Int)), (14, .i 0)] [3] [] [3] [(2, .val (.i (s_.2.1.length : Int)))] (o1 (Qi (Xs s_.2.1))) ?_
 refine wdT 12 0 .sh s_.2.1 (fun hw1 => ?_)
 have hl2 : List.length s_.2.1 ≤ 1073741824 := Qx (hw1)
 refine blk (fun (k0 : Nat) (s0 : (List Int)) => [(7, .o 147203 s0), (14, .i ((k0 : Nat) : Int))]) [7, 14] (fun k0 s0 => []) [] (fun (y0 : (List Int)) => [(7, .o 147353 y0)]) [1, 2, 7, 12, 13, 14] (fun y0 => []) [] (fun (k0 : Nat) (s0 : (List Int)) => (Xv (Vo q r) U6 s_.2.1 0 []) = Xv (Vo q r) U6 (List.drop k0 s_.2.1) k0 s0 ∧ List.length s0 ≤ k0) (fun (y0 : (List Int)) => (Xv (Vo q r) U6 s_.2.1 0 []) = .brk y0) s_.2.1.length [] (Yt [(640, 147203)] (by kernel_rfl)) ⟨rfl, (by simp)⟩ (fun k0 s0 hk0 hI0 => ?_) (fun k0 s0 hk0 hI0 => ?_) (fun y0 hD0 => ?_)
 ·
  have hA0_0 := hI0.2
  obtain ⟨a0, hx0⟩ := Yl (l := s_.2.1) (i := k0) hk0
  refine Qa ?_
  refine rk Qb [(15, .b true)] [] [] [] [(0, .val (.b true))] (o1 (Qi (Qh (decide_eq_true (p := ((k0 : Nat) : Int) < (s_.2.1.length : Int)) (by omega))))) ?_
  refine Qa ?_
  refine ckT ?_
  refine Qr ?_
  refine Qa ?_
  refine Xf ?_
  refine Qa ?_
  refine rk Qb [(9, .p 9 0)] [15] [(9, [.i a0.1, .i a0.2.1, .b a0.2.2.1, .i a0.2.2.2.1, .h a0.2.2.2.2])] [] [(0, .row [.i a0.1, .i a0.2.1, .b a0.2.2.1, .i a0.2.2.2.1, .h a0.2.2.2.2])] (o1 (Qy (X4 (i := ((k0 : Nat) : Int)) (by omega) rfl hx0))) ?_
  refine Qa ?_
  refine rk Qb [(21, .b (Vn q a0 r))] [] [] [] [(3, .val (.b (Vn q a0 r)))] (o1 (Qg (implMatches_a q a0 r))) ?_
  refine ck (Vn q a0 r) (fun h3 => ?_) (fun h3 => ?_)
  ·
   refine wdT 7 0 (.own true 147203) s0 (fun hw4 => ?_)
   have hl5 : List.length s0 ≤ 1073741824 := Qx (hw4)
   refine rk Qb [(7, .one (.slc (.own true 1664) 1 ((eL s0) ++ [[.i a0.1]])))] [7, 9, 21] [] [9] [] (o1 (V9 (Wi (Xm s0) (Xm [a0.1]) (by first | omega | (simp only [List.length_cons, List.length_nil]; omega) | (simp; omega) | simp)))) ?_
   refine eqn [(7, .o 1664 (s0 ++ [a0.1]))] [7] [] [] (by rw [show ((eL s0) ++ [[.i a0.1]]) = (eL (s0 ++ [a0.1])) from Hj (rfl) (rfl)]; first | done | kernel_rfl) ?_
   refine rk Qb [(14, .i ((k0 + 1 : Nat) : Int))] [14] [] [] [(0, .val (.i ((k0 + 1 : Nat) : Int)))] (o1 (Qi (Km (Q8 k0 (by omega))))) ?_
   exact Exists.intro (s0 ++ [a0.1]) (And.intro (Yt [(1664, 147203)] (by kernel_rfl)) ⟨Xe hx0 (X8 h3 (rfl)) hI0.1, by first | omega | (simp; omega) | simp⟩)
  ·
   refine Qr ?_
   refine rk Qb [(14, .i ((k0 + 1 : Nat) : Int))] [9, 14, 21] [] [9] [(0, .val (.i ((k0 + 1 : Nat) : Int)))] (o1 (Qi (Km (Q8 k0 (by omega))))) ?_
   exact Exists.intro s0 (And.intro (Qd (by kernel_rfl)) ⟨Xe hx0 (Q6 h3 (rfl)) hI0.1, by first | omega | (simp; omega) | simp⟩)
 ·
  have hA0_0 := hI0.2
  refine Qa ?_
  refine rk Qb [(15, .b false)] [] [] [] [(0, .val (.b false))] (o1 (Qi (Qh (decide_eq_false (p := ((k0 : Nat) : Int) < (s_.2.1.length : Int)) (by omega))))) ?_
  refine Qa ?_
  refine ckF ?_
  refine Xt ?_
  exact Exists.intro s0 (And.intro (Yt [(147203, 147353)] (by kernel_rfl)) (Ym hk0 (rfl) hI0.1))
 ·
  refine Qa ?_
  refine rk Qb [(6, .o 147353 y0)] [6, 7] [] [] [] (o0) ?_
  refine Qq ?_
  exact Ze [] (congrArg (fun z => (.o 0 z : AV)) (show Yv s_ q r = y0 from Hk hD0 (rfl)).symm)
def Qbp (name : ByteArray) (_ : Nat) (a0 : AttrD) (_ : Unit) : Rd (Qee) (Unit) (Unit) := (bif (a0.1.toList == name.toList) then (.ret a0.2) else (.next ()))
def Qbq (_ : Nat) (_ : Unit) : Unit := ()
def Y5 (f : Zb) (name : ByteArray) : Qee := (Out.on (Xv (Qbp name) Qbq f.2.2.2.2 0 ()) (fun _ => (0, 0, ⟨#[]⟩)))
theorem specGetAttr_a (f : Zb) (name : ByteArray) : ACalls Tryz.prog 25 [.a [.i f.1, .i f.2.1, .b f.2.2.1, .i f.2.2.2.1, .h f.2.2.2.2], .s name] (.a [.i ((Y5 f name).1), .i ((Y5 f name).2.1), .s ((Y5 f name).2.2)]) := by
 refine Qt (tt := tt) Qb Tryz.func25 (fn := Tryz.f25) rfl (by unfold Jr; kernel_rfl) (Nat.le_of_ble_eq_true rfl) fun w0 F0 hG => ?_
 refine Qa ?_
 refine rk Qb [(2, .p 2 0), (4, .p 4 0)] [0] [(2, [.i f.1, .i f.2.1, .b f.2.2.1, .i f.2.2.2.1, .h f.2.2.2.2]), (4, [.i 0, .i 0, .s ⟨#[]⟩])] [] [] (o0) ?_
 refine Qa ?_
 refine Qa ?_
 refine rk Qb [(5, .i 0)] [] [] [] [] (o0) ?_
 refine wdB 2 4 .sh f.2.2.2.2 (fun hw1 => ?_)
 have hl2 : List.length f.2.2.2.2 ≤ 1073741824 := Qx (hw1)
 refine blk (fun (k0 : Nat) (s0 : Unit) => [(5, .i ((k0 : Nat) : Int))]) [5] (fun k0 s0 => []) [] (fun (y0 : Unit) => []) [1, 2, 5] (fun y0 => []) [2] (fun (k0 : Nat) (s0 : Unit) => (Xv (Qbp name) Qbq f.2.2.2.2 0 ()) = Xv (Qbp name) Qbq (List.drop k0 f.2.2.2.2) k0 s0) (fun (y0 : Unit) => (Xv (Qbp name) Qbq f.2.2.2.2 0 ()) = .brk y0) f.2.2.2.2.length () (Qd (by kernel_rfl)) rfl (fun k0 s0 hk0 hI0 => ?_) (fun k0 s0 hk0 hI0 => ?_) (fun y0 hD0 => ?_)
 ·
  obtain ⟨a0, hx0⟩ := Yl (l := f.2.2.2.2) (i := k0) hk0
  refine Qa ?_
  refine Qa ?_
  refine rk Qb [(10, .b true)] [] [] [] [(3, .val (.i (f.2.2.2.2.length : Int))), (4, .val (.b true))] (o2 (Qi (Xs f.2.2.2.2)) (o1 (Qi (Qh (decide_eq_true (p := ((k0 : Nat) : Int) < (f.2.2.2.2.length : Int)) (by omega)))))) ?_
  refine ckT ?_
  refine Qr ?_
  refine Qa ?_
  refine Xf ?_
  refine Qa ?_
  refine rk Qb [(20, .b (a0.1.toList == name.toList))] [10] [] [] [(3, .row [.s a0.1, .i a0.2.1, .i a0.2.2.1, .s a0.2.2.2])] (o1 (Qy (X4 (i := ((k0 : Nat) : Int)) (by omega) rfl hx0))) ?_
  refine ck (a0.1.toList == name.toList) (fun h3 => ?_) (fun h3 => ?_)
  ·
   refine Qa ?_
   refine rk Qb [] [20] [(4, [.i a0.2.1, .i a0.2.2.1, .s a0.2.2.2])] [4] [(3, .row [.s a0.1, .i a0.2.1, .i a0.2.2.1, .s a0.2.2.2])] (o1 (Qy (X4 (i := ((k0 : Nat) : Int)) (by omega) rfl hx0))) ?_
   refine Qq ?_
   have hr4 : (Xv (Qbp name) Qbq f.2.2.2.2 0 ()) = .ret a0.2 := Jy hx0 (X8 h3 (rfl)) hI0
   exact Ze [] (congrArg (fun z => (.a [.i z.1, .i z.2.1, .s z.2.2] : AV)) (show Y5 f name = a0.2 from on_r hr4).symm)
  ·
   refine Qr ?_
   refine rk Qb [(5, .i ((k0 + 1 : Nat) : Int))] [5, 20] [] [] [(1, .val (.i ((k0 + 1 : Nat) : Int)))] (o1 (Qi (Km (Q8 k0 (by omega))))) ?_
   exact Exists.intro () (And.intro (Qd (by kernel_rfl)) (Xe hx0 (Q6 h3 (rfl)) hI0))
 ·
  refine Qa ?_
  refine Qa ?_
  refine rk Qb [(10, .b false)] [] [] [] [(3, .val (.i (f.2.2.2.2.length : Int))), (4, .val (.b false))] (o2 (Qi (Xs f.2.2.2.2)) (o1 (Qi (Qh (decide_eq_false (p := ((k0 : Nat) : Int) < (f.2.2.2.2.length : Int)) (by omega)))))) ?_
  refine ckF ?_
  refine Xt ?_
  exact Exists.intro () (And.intro (Qd (by kernel_rfl)) (Ym hk0 (rfl) hI0))
 ·
  refine Qa ?_
  refine rk Qb [] [] [] [] [] (o0) ?_
  refine Qq ?_
  exact Ze [] (congrArg (fun z => (.a [.i z.1, .i z.2.1, .s z.2.2] : AV)) (show Y5 f name = (0, 0, ⟨#[]⟩) from Hk hD0 (rfl)).symm)
def Qaa (name : ByteArray) (_ : Nat) (a0 : Qs) (_ : Unit) : Rd ((List Int)) (Unit) (Unit) := (bif (a0.1.toList == name.toList) then (.ret a0.2) else (.next ()))
def Qab (_ : Nat) (_ : Unit) : Unit := ()
def Jm (a_ : (List Qs)) (name : ByteArray) : (List Int) := (Out.on (Xv (Qaa name) Qab a_ 0 ()) (fun _ => []))
theorem specResultIDs_a (a_ : (List Qs)) (name : ByteArray) : ACalls Tryz.prog 159 [.h a_, .s name] (.o 0 (Jm a_ name)) := by
 refine Qt (tt := tt) Qb Tryz.func159 (fn := Tryz.f159) rfl (by unfold Jr; kernel_rfl) (Nat.le_of_ble_eq_true rfl) fun w0 F0 hG => ?_
 refine Qa ?_
 refine rk Qb [(4, .e 0)] [] [] [] [] (o0) ?_
 refine Qa ?_
 refine Qa ?_
 refine rk Qb [(5, .i 0)] [] [] [] [] (o0) ?_
 refine wdT 0 0 .sh a_ (fun hw1 => ?_)
 have hl2 : List.length a_ ≤ 1073741824 := Qx (hw1)
 refine blk (fun (k0 : Nat) (s0 : Unit) => [(5, .i ((k0 : Nat) : Int))]) [5] (fun k0 s0 => []) [] (fun (y0 : Unit) => []) [0, 1, 5] (fun y0 => []) [] (fun (k0 : Nat) (s0 : Unit) => (Xv (Qaa name) Qab a_ 0 ()) = Xv (Qaa name) Qab (List.drop k0 a_) k0 s0) (fun (y0 : Unit) => (Xv (Qaa name) Qab a_ 0 ()) = .brk y0) a_.length () (Qd (by kernel_rfl)) rfl (fun k0 s0 hk0 hI0 => ?_) (fun k0 s0 hk0 hI0 => ?_) (fun y0 hD0 => ?_)
 ·
  obtain ⟨a0, hx0⟩ := Yl (l := a_) (i := k0) hk0
  refine Qa ?_
  refine Qa ?_
  refine rk Qb [(9, .b true)] [] [] [] [(2, .val (.i (a_.length : Int))), (3, .val (.b true))] (o2 (Qi (Xs a_)) (o1 (Qi (Qh (decide_eq_true (p := ((k0 : Nat) : Int) < (a_.length : Int)) (by omega)))))) ?_
  refine ckT ?_
  refine Qr ?_
  refine Qa ?_
  refine Xf ?_
  refine Qa ?_
  refine rk Qb [(18, .b (a0.1.toList == name.toList))] [9] [] [] [(2, .row [.s a0.1, .h a0.2])] (o1 (Qy (X4 (i := ((k0 : Nat) : Int)) (by omega) rfl hx0))) ?_
  refine ck (a0.1.toList == name.toList) (fun h3 => ?_) (fun h3 => ?_)
  ·
   refine Qa ?_
   have hl4 : List.length a0.2 ≤ 1073741824 := Qx (wide_snd (wide_get hx0 (hw1)))
   refine rk Qb [(4, .o 1600 a0.2)] [4, 18] [] [] [(3, .row [.s a0.1, .h a0.2]), (6, .flat)] (o2 (Qy (X4 (i := ((k0 : Nat) : Int)) (by omega) rfl hx0)) (o2 (V9 (n := (([] : List (List PV)).length + ((eL a0.2) : List (List PV)).length)) (Wi (rfl) (Xm a0.2) (by first | omega | (simp only [List.length_cons, List.length_nil]; omega) | (simp; omega) | simp))) (o1 (Qeb (Qdu a0.2))))) ?_
   refine Qq ?_
   have hr5 : (Xv (Qaa name) Qab a_ 0 ()) = .ret a0.2 := Jy hx0 (X8 h3 (rfl)) hI0
   exact Ze [] (congrArg (fun z => (.o 0 z : AV)) (show Jm a_ name = a0.2 from on_r hr5).symm)
  ·
   refine Qr ?_
   refine rk Qb [(5, .i ((k0 + 1 : Nat) : Int))] [5, 18] [] [] [(1, .val (.i ((k0 + 1 : Nat) : Int)))] (o1 (Qi (Km (Q8 k0 (by omega))))) ?_
   exact Exists.intro () (And.intro (Qd (by kernel_rfl)) (Xe hx0 (Q6 h3 (rfl)) hI0))
 ·
  refine Qa ?_
  refine Qa ?_
  refine rk Qb [(9, .b false)] [] [] [] [(2, .val (.i (a_.length : Int))), (3, .val (.b false))] (o2 (Qi (Xs a_)) (o1 (Qi (Qh (decide_eq_false (p := ((k0 : Nat) : Int) < (a_.length : Int)) (by omega)))))) ?_
  refine ckF ?_
  refine Xt ?_
  exact Exists.intro () (And.intro (Qd (by kernel_rfl)) (Ym hk0 (rfl) hI0))
 ·
  refine Qa ?_
  refine rk Qb [(4, .one (.slc (.own true 1664) 1 []))] [4] [] [] [] (o0) ?_
  refine Qq ?_
  exact Ze [] (congrArg (fun z => (.o 0 z : AV)) (show Jm a_ name = [] from Hk hD0 (rfl)).symm)
def Vc (id : Int) (_ : Nat) (a0 : Int) (_ : Unit) : Rd (Bool) (Unit) (Unit) := (bif (a0 == id) then (.ret true) else (.next ()))
def Uj (_ : Nat) (_ : Unit) : Unit := ()
def Jw (ids : (List Int)) (id : Int) : Bool := (Out.on (Xv (Vc id) Uj ids 0 ()) (fun _ => false))
theorem Qfx (ids : (List Int)) (id : Int) : ACalls Tryz.prog 31 [.h ids, .i id] (.b (Jw ids id)) := by
 refine Qt (tt := tt) Qb Tryz.func31 (fn := Tryz.f31) rfl (by unfold Jr; kernel_rfl) (Nat.le_of_ble_eq_true rfl) fun w0 F0 hG => ?_
 refine Qa ?_
 refine rk Qb [(4, .b false)] [] [] [] [] (o0) ?_
 refine Qa ?_
 refine Qa ?_
 refine rk Qb [(5, .i 0)] [] [] [] [] (o0) ?_
 refine wdT 0 0 .sh ids (fun hw1 => ?_)
 have hl2 : List.length ids ≤ 1073741824 := Qx (hw1)
 refine blk (fun (k0 : Nat) (s0 : Unit) => [(5, .i ((k0 : Nat) : Int))]) [5] (fun k0 s0 => []) [] (fun (y0 : Unit) => []) [0, 1, 5] (fun y0 => []) [] (fun (k0 : Nat) (s0 : Unit) => (Xv (Vc id) Uj ids 0 ()) = Xv (Vc id) Uj (List.drop k0 ids) k0 s0) (fun (y0 : Unit) => (Xv (Vc id) Uj ids 0 ()) = .brk y0) ids.length () (Qd (by kernel_rfl)) rfl (fun k0 s0 hk0 hI0 => ?_) (fun k0 s0 hk0 hI0 => ?_) (fun y0 hD0 => ?_)
 ·
  obtain ⟨a0, hx0⟩ := Yl (l := ids) (i := k0) hk0
  refine Qa ?_
  refine Qa ?_
  refine rk Qb [(9, .b true)] [] [] [] [(2, .val (.i (ids.length : Int))), (3, .val (.b true))] (o2 (Qi (Xs ids)) (o1 (Qi (Qh (decide_eq_true (p := ((k0 : Nat) : Int) < (ids.length : Int)) (by omega)))))) ?_
  refine ckT ?_
  refine Qr ?_
  refine Qa ?_
  refine Xf ?_
  refine Qa ?_
  refine rk Qb [(17, .b (a0 == id))] [9] [] [] [(2, .row [.i a0])] (o1 (Qy (X4 (i := ((k0 : Nat) : Int)) (by omega) rfl hx0))) ?_
  refine ck (a0 == id) (fun h3 => ?_) (fun h3 => ?_)
  ·
   refine Qa ?_
   refine rk Qb [(4, .b true)] [4, 17] [] [] [] (o0) ?_
   refine Qq ?_
   have hr4 : (Xv (Vc id) Uj ids 0 ()) = .ret true := Jy hx0 (X8 h3 (rfl)) hI0
   exact Ze [] (congrArg (fun z => (.b z : AV)) (show Jw ids id = true from on_r hr4).symm)
  ·
   have h3d := Zz h3
   refine Qr ?_
   refine rk Qb [(5, .i ((k0 + 1 : Nat) : Int))] [5, 17] [] [] [(1, .val (.i ((k0 + 1 : Nat) : Int)))] (o1 (Qi (Km (Q8 k0 (by omega))))) ?_
   exact Exists.intro () (And.intro (Qd (by kernel_rfl)) (Xe hx0 (Q6 h3 (rfl)) hI0))
 ·
  refine Qa ?_
  refine Qa ?_
  refine rk Qb [(9, .b false)] [] [] [] [(2, .val (.i (ids.length : Int))), (3, .val (.b false))] (o2 (Qi (Xs ids)) (o1 (Qi (Qh (decide_eq_false (p := ((k0 : Nat) : Int) < (ids.length : Int)) (by omega)))))) ?_
  refine ckF ?_
  refine Xt ?_
  exact Exists.intro () (And.intro (Qd (by kernel_rfl)) (Ym hk0 (rfl) hI0))
 ·
  refine Qa ?_
  refine rk Qb [] [] [] [] [] (o0) ?_
  refine Qq ?_
  exact Ze [] (congrArg (fun z => (.b z : AV)) (show Jw ids id = false from Hk hD0 (rfl)).symm)
def Yo (n_ : Nat) (q : (List Zo)) (at_ : Int) (f : Zb) (a_ : (List Qs)) : Bool := match n_ with
 | 0 => default
 | n_ + 1 => (bif ((nth q (Int.toNat at_)).1 == (1 : Int)) then true else (bif ((nth q (Int.toNat at_)).1 == (2 : Int)) then ((Y5 f ((nth q (Int.toNat at_)).2.2.2.1)).1 != (0 : Int)) else (bif ((nth q (Int.toNat at_)).1 == (3 : Int)) then (((Y5 f ((nth q (Int.toNat at_)).2.2.2.1)).1 == (nth q (Int.toNat at_)).2.2.2.2.1) && (((Y5 f ((nth q (Int.toNat at_)).2.2.2.1)).2.1 == (nth q (Int.toNat at_)).2.2.2.2.2.1) && ((((Y5 f ((nth q (Int.toNat at_)).2.2.2.1)).2.2).toList == ((nth q (Int.toNat at_)).2.2.2.2.2.2).toList) && true))) else (bif ((nth q (Int.toNat at_)).1 == (4 : Int)) then (((Y5 f ((nth q (Int.toNat at_)).2.2.2.1)).1 == (1 : Int)) && decide ((Y5 f ((nth q (Int.toNat at_)).2.2.2.1)).2.1 < (nth q (Int.toNat at_)).2.2.2.2.2.1)) else (bif ((nth q (Int.toNat at_)).1 == (5 : Int)) then (!(Yo n_ q ((nth q (Int.toNat at_)).2.1) f a_)) else (bif ((nth q (Int.toNat at_)).1 == (6 : Int)) then ((Yo n_ q ((nth q (Int.toNat at_)).2.1) f a_) && (Yo n_ q ((nth q (Int.toNat at_)).2.2.1) f a_)) else (bif ((nth q (Int.toNat at_)).1 == (7 : Int)) then ((Yo n_ q ((nth q (Int.toNat at_)).2.1) f a_) || (Yo n_ q ((nth q (Int.toNat at_)).2.2.1) f a_)) else (bif ((nth q (Int.toNat at_)).1 == (8 : Int)) then (Jw (Jm a_ ((nth q (Int.toNat at_)).2.2.2.1)) f.1) else ((f.2.2.2.1 != (0 : Int)) && (Jw (Jm a_ ((nth q (Int.toNat at_)).2.2.2.1)) f.2.2.2.1))))))))))
theorem specl14Node_a : ∀ (n_ : Nat) (q : (List Zo)) (at_ : Int) (f : Zb) (a_ : (List Qs)) (hv : Q7 q = true) (ha : 0 ≤ at_) (hb : at_ < (q.length : Int)) (hn : at_ < ((n_ : Nat) : Int)), ACalls Tryz.prog 219 [.h q, .i at_, .a [.i f.1, .i f.2.1, .b f.2.2.1, .i f.2.2.2.1, .h f.2.2.2.2], .h a_] (.b (Yo n_ q at_ f a_)) := by
 intro n_
 induction n_ with
 | zero => intro q at_ f a_ hv ha hb hn; exact (by omega : False).elim
 | succ n_ ih =>
  intro q at_ f a_ hv ha hb hn
  refine Qt (tt := tt) Qb Tryz.func219 (fn := Tryz.f219) rfl (by unfold Jr; kernel_rfl) (Nat.le_of_ble_eq_true rfl) fun w0 F0 hG => ?_
  refine Qa ?_
  refine rk Qb [(6, .p 6 0), (8, .b false)] [2] [(6, [.i f.1, .i f.2.1, .b f.2.2.1, .i f.2.2.2.1, .h f.2.2.2.2])] [] [] (o0) ?_
  refine Qa ?_
  refine wdT 0 0 .sh q (fun hw2 => ?_)
  have hl3 : List.length q ≤ 1073741824 := Qx (hw2)
  have hx1 : q[(Int.toNat at_)]? = some (nth q (Int.toNat at_)) := Yj (by omega)
  refine rk Qb [(9, .p 9 0)] [1] [(9, [.i ((nth q (Int.toNat at_)).1), .i ((nth q (Int.toNat at_)).2.1), .i ((nth q (Int.toNat at_)).2.2.1), .s ((nth q (Int.toNat at_)).2.2.2.1), .i ((nth q (Int.toNat at_)).2.2.2.2.1), .i ((nth q (Int.toNat at_)).2.2.2.2.2.1), .s ((nth q (Int.toNat at_)).2.2.2.2.2.2)])] [] [(2, .row [.i ((nth q (Int.toNat at_)).1), .i ((nth q (Int.toNat at_)).2.1), .i ((nth q (Int.toNat at_)).2.2.1), .s ((nth q (Int.toNat at_)).2.2.2.1), .i ((nth q (Int.toNat at_)).2.2.2.2.1), .i ((nth q (Int.toNat at_)).2.2.2.2.2.1), .s ((nth q (Int.toNat at_)).2.2.2.2.2.2)])] (o1 (Qy (X4 (i := at_) (by omega) rfl hx1))) ?_
  refine Qa ?_
  refine rk Qb [(10, .p 10 0)] [] [(10, [.i ((Y5 f ((nth q (Int.toNat at_)).2.2.2.1)).1), .i ((Y5 f ((nth q (Int.toNat at_)).2.2.2.1)).2.1), .s ((Y5 f ((nth q (Int.toNat at_)).2.2.2.1)).2.2)])] [] [(3, .val (.a [.i ((Y5 f ((nth q (Int.toNat at_)).2.2.2.1)).1), .i ((Y5 f ((nth q (Int.toNat at_)).2.2.2.1)).2.1), .s ((Y5 f ((nth q (Int.toNat at_)).2.2.2.1)).2.2)]))] (o1 (Qg (specGetAttr_a f ((nth q (Int.toNat at_)).2.2.2.1)))) ?_
  refine Qa ?_
  refine Qa ?_
  refine rk Qb [(20, .i ((nth q (Int.toNat at_)).1))] [] [] [] [] (o0) ?_
  refine Xf ?_
  refine Qa ?_
  refine rk Qb [(21, .b ((nth q (Int.toNat at_)).1 == (1 : Int)))] [] [] [] [] (o0) ?_
  refine ck ((nth q (Int.toNat at_)).1 == (1 : Int)) (fun h4 => ?_) (fun h4 => ?_)
  ·
   refine Qa ?_
   refine rk Qb [(8, .b true)] [0, 8, 10, 20, 21] [] [10] [] (o0) ?_
   refine Qq ?_
   exact Ze [] (congrArg (fun z => (.b z : AV)) (show Yo (n_ + 1) q at_ f a_ = true from X8 h4 (rfl)).symm)
  ·
   have h4d := Zz h4
   refine Qa ?_
   refine rk Qb [(23, .b ((nth q (Int.toNat at_)).1 == (2 : Int)))] [21] [] [] [] (o0) ?_
   refine ck ((nth q (Int.toNat at_)).1 == (2 : Int)) (fun h5 => ?_) (fun h5 => ?_)
   ·
    refine Qa ?_
    refine rk Qb [(8, .b ((Y5 f ((nth q (Int.toNat at_)).2.2.2.1)).1 != (0 : Int)))] [0, 8, 10, 20, 23] [] [10] [] (o0) ?_
    refine Qq ?_
    exact Ze [] (congrArg (fun z => (.b z : AV)) (show Yo (n_ + 1) q at_ f a_ = ((Y5 f ((nth q (Int.toNat at_)).2.2.2.1)).1 != (0 : Int)) from Q6 h4 (X8 h5 (rfl))).symm)
   ·
    have h5d := Zz h5
    refine Qa ?_
    refine rk Qb [(28, .b ((nth q (Int.toNat at_)).1 == (3 : Int)))] [23] [] [] [] (o0) ?_
    refine ck ((nth q (Int.toNat at_)).1 == (3 : Int)) (fun h6 => ?_) (fun h6 => ?_)
    ·
     refine Qa ?_
     refine rk Qb [(8, .b (((Y5 f ((nth q (Int.toNat at_)).2.2.2.1)).1 == (nth q (Int.toNat at_)).2.2.2.2.1) && (((Y5 f ((nth q (Int.toNat at_)).2.2.2.1)).2.1 == (nth q (Int.toNat at_)).2.2.2.2.2.1) && ((((Y5 f ((nth q (Int.toNat at_)).2.2.2.1)).2.2).toList == ((nth q (Int.toNat at_)).2.2.2.2.2.2).toList) && true))))] [0, 8, 10, 20, 28] [] [10] [] (o0) ?_
     refine Qq ?_
     exact Ze [] (congrArg (fun z => (.b z : AV)) (show Yo (n_ + 1) q at_ f a_ = (((Y5 f ((nth q (Int.toNat at_)).2.2.2.1)).1 == (nth q (Int.toNat at_)).2.2.2.2.1) && (((Y5 f ((nth q (Int.toNat at_)).2.2.2.1)).2.1 == (nth q (Int.toNat at_)).2.2.2.2.2.1) && ((((Y5 f ((nth q (Int.toNat at_)).2.2.2.1)).2.2).toList == ((nth q (Int.toNat at_)).2.2.2.2.2.2).toList) && true))) from Q6 h4 (Q6 h5 (X8 h6 (rfl)))).symm)
    ·
     have h6d := Zz h6
     refine Qa ?_
     refine rk Qb [(34, .b ((nth q (Int.toNat at_)).1 == (4 : Int)))] [28] [] [] [] (o0) ?_
     refine ck ((nth q (Int.toNat at_)).1 == (4 : Int)) (fun h7 => ?_) (fun h7 => ?_)
     ·
      refine Qa ?_
      refine jn [(8, .b (((Y5 f ((nth q (Int.toNat at_)).2.2.2.1)).1 == (1 : Int)) && decide ((Y5 f ((nth q (Int.toNat at_)).2.2.2.1)).2.1 < (nth q (Int.toNat at_)).2.2.2.2.2.1)))] [0, 8, 10, 20, 34] [] [10] ((Y5 f ((nth q (Int.toNat at_)).2.2.2.1)).1 == (1 : Int)) (fun h8 => ?_) (fun h8 => ?_) ?_
      ·
       refine rk Qb [(8, .b (decide ((Y5 f ((nth q (Int.toNat at_)).2.2.2.1)).2.1 < (nth q (Int.toNat at_)).2.2.2.2.2.1)))] [0, 8, 10, 20, 34] [] [10] [(2, .val (.b true))] (o1 (Qi (Qh h8))) ?_
       exact ⟨rfl, Qd (by rw [h8]; first | done | kernel_rfl)⟩
      ·
       refine rk Qb [] [0, 10, 20, 34] [] [10] [(2, .val (.b false))] (o1 (Qi (Qh h8))) ?_
       exact ⟨rfl, Qd (by rw [h8]; first | done | kernel_rfl)⟩
      refine Qq ?_
      exact Ze [] (congrArg (fun z => (.b z : AV)) (show Yo (n_ + 1) q at_ f a_ = (((Y5 f ((nth q (Int.toNat at_)).2.2.2.1)).1 == (1 : Int)) && decide ((Y5 f ((nth q (Int.toNat at_)).2.2.2.1)).2.1 < (nth q (Int.toNat at_)).2.2.2.2.2.1)) from Q6 h4 (Q6 h5 (Q6 h6 (X8 h7 (rfl))))).symm)
     ·
      have h7d := Zz h7
      refine Qa ?_
      refine rk Qb [(47, .b ((nth q (Int.toNat at_)).1 == (5 : Int)))] [10, 34] [] [10] [] (o0) ?_
      refine ck ((nth q (Int.toNat at_)).1 == (5 : Int)) (fun h9 => ?_) (fun h9 => ?_)
      ·
       have h9d := eq_of_beq h9
       refine Qa ?_
       refine rk Qb [(8, .b (!(Yo n_ q ((nth q (Int.toNat at_)).2.1) f a_)))] [0, 8, 20, 47] [] [] [(5, .val (.b (Yo n_ q ((nth q (Int.toNat at_)).2.1) f a_)))] (o1 (Qg (ih q ((nth q (Int.toNat at_)).2.1) f a_ hv (by have hz := ql_a hv ha hb h9; omega) (by have hz := ql_a hv ha hb h9; omega) (by have hz := ql_a hv ha hb h9; omega)))) ?_
       refine Qq ?_
       exact Ze [] (congrArg (fun z => (.b z : AV)) (show Yo (n_ + 1) q at_ f a_ = (!(Yo n_ q ((nth q (Int.toNat at_)).2.1) f a_)) from Q6 h4 (Q6 h5 (Q6 h6 (Q6 h7 (X8 h9 (rfl)))))).symm)
      ·
       have h9d := Zz h9
       refine Qa ?_
       refine rk Qb [(56, .b ((nth q (Int.toNat at_)).1 == (6 : Int)))] [47] [] [] [] (o0) ?_
       refine ck ((nth q (Int.toNat at_)).1 == (6 : Int)) (fun h10 => ?_) (fun h10 => ?_)
       ·
        have h10d := eq_of_beq h10
        refine Qa ?_
        refine jn [(8, .b ((Yo n_ q ((nth q (Int.toNat at_)).2.1) f a_) && (Yo n_ q ((nth q (Int.toNat at_)).2.2.1) f a_)))] [0, 8, 20, 56] [] [] (Yo n_ q ((nth q (Int.toNat at_)).2.1) f a_) (fun h11 => ?_) (fun h11 => ?_) ?_
        ·
         refine rk Qb [(8, .b (Yo n_ q ((nth q (Int.toNat at_)).2.2.1) f a_))] [0, 8, 20, 56] [] [] [(5, .val (.b true)), (12, .val (.b (Yo n_ q ((nth q (Int.toNat at_)).2.2.1) f a_)))] (o2 (Qg (cb h11 (ih q ((nth q (Int.toNat at_)).2.1) f a_ hv (by have hz := ql_b hv ha hb h10; omega) (by have hz := ql_b hv ha hb h10; omega) (by have hz := ql_b hv ha hb h10; omega)))) (o1 (Qg (ih q ((nth q (Int.toNat at_)).2.2.1) f a_ hv (by have hz := qr_b hv ha hb h10; omega) (by have hz := qr_b hv ha hb h10; omega) (by have hz := qr_b hv ha hb h10; omega))))) ?_
         exact ⟨rfl, Qd (by rw [h11]; first | done | kernel_rfl)⟩
        ·
         refine rk Qb [] [0, 20, 56] [] [] [(5, .val (.b false))] (o1 (Qg (cb h11 (ih q ((nth q (Int.toNat at_)).2.1) f a_ hv (by have hz := ql_b hv ha hb h10; omega) (by have hz := ql_b hv ha hb h10; omega) (by have hz := ql_b hv ha hb h10; omega))))) ?_
         exact ⟨rfl, Qd (by rw [h11]; first | done | kernel_rfl)⟩
        refine Qq ?_
        exact Ze [] (congrArg (fun z => (.b z : AV)) (show Yo (n_ + 1) q at_ f a_ = ((Yo n_ q ((nth q (Int.toNat at_)).2.1) f a_) && (Yo n_ q ((nth q (Int.toNat at_)).2.2.1) f a_)) from Q6 h4 (Q6 h5 (Q6 h6 (Q6 h7 (Q6 h9 (X8 h10 (rfl))))))).symm)
       ·
        have h10d := Zz h10
        refine Qa ?_
        refine rk Qb [(72, .b ((nth q (Int.toNat at_)).1 == (7 : Int)))] [56] [] [] [] (o0) ?_
        refine ck ((nth q (Int.toNat at_)).1 == (7 : Int)) (fun h12 => ?_) (fun h12 => ?_)
        ·
         have h12d := eq_of_beq h12
         refine Qa ?_
         refine jn [(8, .b ((Yo n_ q ((nth q (Int.toNat at_)).2.1) f a_) || (Yo n_ q ((nth q (Int.toNat at_)).2.2.1) f a_)))] [0, 8, 20, 72] [] [] (Yo n_ q ((nth q (Int.toNat at_)).2.1) f a_) (fun h13 => ?_) (fun h13 => ?_) ?_
         ·
          refine rk Qb [(8, .b true)] [0, 8, 20, 72] [] [] [(5, .val (.b true))] (o1 (Qg (cb h13 (ih q ((nth q (Int.toNat at_)).2.1) f a_ hv (by have hz := ql_c hv ha hb h12; omega) (by have hz := ql_c hv ha hb h12; omega) (by have hz := ql_c hv ha hb h12; omega))))) ?_
          exact ⟨rfl, Qd (by rw [h13]; first | done | kernel_rfl)⟩
         ·
          refine rk Qb [(8, .b (Yo n_ q ((nth q (Int.toNat at_)).2.2.1) f a_))] [0, 8, 20, 72] [] [] [(5, .val (.b false)), (12, .val (.b (Yo n_ q ((nth q (Int.toNat at_)).2.2.1) f a_)))] (o2 (Qg (cb h13 (ih q ((nth q (Int.toNat at_)).2.1) f a_ hv (by have hz := ql_c hv ha hb h12; omega) (by have hz := ql_c hv ha hb h12; omega) (by have hz := ql_c hv ha hb h12; omega)))) (o1 (Qg (ih q ((nth q (Int.toNat at_)).2.2.1) f a_ hv (by have hz := qr_c hv ha hb h12; omega) (by have hz := qr_c hv ha hb h12; omega) (by have hz := qr_c hv ha hb h12; omega))))) ?_
          exact ⟨rfl, Qd (by rw [h13]; first | done | kernel_rfl)⟩
         refine Qq ?_
         exact Ze [] (congrArg (fun z => (.b z : AV)) (show Yo (n_ + 1) q at_ f a_ = ((Yo n_ q ((nth q (Int.toNat at_)).2.1) f a_) || (Yo n_ q ((nth q (Int.toNat at_)).2.2.1) f a_)) from Q6 h4 (Q6 h5 (Q6 h6 (Q6 h7 (Q6 h9 (Q6 h10 (X8 h12 (rfl)))))))).symm)
        ·
         refine Qa ?_
         refine rk Qb [(88, .b ((nth q (Int.toNat at_)).1 == (8 : Int)))] [0, 20, 72] [] [] [] (o0) ?_
         refine ck ((nth q (Int.toNat at_)).1 == (8 : Int)) (fun h14 => ?_) (fun h14 => ?_)
         ·
          refine Qa ?_
          refine rd' Qb Js [(8, .b (Jw (Jm a_ ((nth q (Int.toNat at_)).2.2.2.1)) f.1))] [8, 88] [] [] [(3, .val (.o 0 (Jm a_ ((nth q (Int.toNat at_)).2.2.2.1)))), (6, .val (.b (Jw (Jm a_ ((nth q (Int.toNat at_)).2.2.2.1)) f.1)))] (o2 (Qg (specResultIDs_a a_ ((nth q (Int.toNat at_)).2.2.2.1))) (o1 (Qg (Qfx (Jm a_ ((nth q (Int.toNat at_)).2.2.2.1)) f.1)))) ?_
          refine Qq ?_
          exact Ze [] (congrArg (fun z => (.b z : AV)) (show Yo (n_ + 1) q at_ f a_ = (Jw (Jm a_ ((nth q (Int.toNat at_)).2.2.2.1)) f.1) from Q6 h4 (Q6 h5 (Q6 h6 (Q6 h7 (Q6 h9 (Q6 h10 (Q6 h12 (X8 h14 (rfl))))))))).symm)
         ·
          refine Qr ?_
          refine Qa ?_
          refine jn [(8, .b ((f.2.2.2.1 != (0 : Int)) && (Jw (Jm a_ ((nth q (Int.toNat at_)).2.2.2.1)) f.2.2.2.1)))] [3, 6, 8, 9, 88] [] [6, 9] (f.2.2.2.1 != (0 : Int)) (fun h15 => ?_) (fun h15 => ?_) ?_
          ·
           refine rd' Qb Js [(8, .b (Jw (Jm a_ ((nth q (Int.toNat at_)).2.2.2.1)) f.2.2.2.1))] [3, 6, 8, 9, 88] [] [6, 9] [(2, .val (.b true)), (7, .val (.o 0 (Jm a_ ((nth q (Int.toNat at_)).2.2.2.1)))), (10, .val (.b (Jw (Jm a_ ((nth q (Int.toNat at_)).2.2.2.1)) f.2.2.2.1)))] (o2 (Qi (Qh h15)) (o2 (Qg (specResultIDs_a a_ ((nth q (Int.toNat at_)).2.2.2.1))) (o1 (Qg (Qfx (Jm a_ ((nth q (Int.toNat at_)).2.2.2.1)) f.2.2.2.1))))) ?_
           exact ⟨rfl, Qd (by rw [h15]; first | done | kernel_rfl)⟩
          ·
           refine rd' Qb Js [] [3, 6, 9, 88] [] [6, 9] [(2, .val (.b false))] (o1 (Qi (Qh h15))) ?_
           exact ⟨rfl, Qd (by rw [h15]; first | done | kernel_rfl)⟩
          refine Qq ?_
          exact Ze [] (congrArg (fun z => (.b z : AV)) (show Yo (n_ + 1) q at_ f a_ = ((f.2.2.2.1 != (0 : Int)) && (Jw (Jm a_ ((nth q (Int.toNat at_)).2.2.2.1)) f.2.2.2.1)) from Q6 h4 (Q6 h5 (Q6 h6 (Q6 h7 (Q6 h9 (Q6 h10 (Q6 h12 (Q6 h14 (rfl))))))))).symm)
def Qaz (q : (List Zo)) (f : Zb) (a_ : (List Qs)) : Bool := ((Yx q) && (Yo (List.length q) q ((q.length : Int) - 1) f a_))
theorem specMatches_a (q : (List Zo)) (f : Zb) (a_ : (List Qs)) : ACalls Tryz.prog 174 [.h q, .a [.i f.1, .i f.2.1, .b f.2.2.1, .i f.2.2.2.1, .h f.2.2.2.2], .h a_] (.b (Qaz q f a_)) := by
 refine Qt (tt := tt) Qb Tryz.func174 (fn := Tryz.f174) rfl (by unfold Jr; kernel_rfl) (Nat.le_of_ble_eq_true rfl) fun w0 F0 hG => ?_
 refine Qa ?_
 refine rk Qb [(4, .p 4 0), (6, .b false)] [1] [(4, [.i f.1, .i f.2.1, .b f.2.2.1, .i f.2.2.2.1, .h f.2.2.2.2])] [] [] (o0) ?_
 refine Qa ?_
 refine jn [(6, .b ((Yx q) && (Yo (List.length q) q ((q.length : Int) - 1) f a_)))] [0, 2, 4, 6] [] [4] (Yx q) (fun h1 => ?_) (fun h1 => ?_) ?_
 ·
  refine wdT 0 0 .sh q (fun hw2 => ?_)
  have hl3 : List.length q ≤ 1073741824 := Qx (hw2)
  refine rk Qb [(6, .b (Yo (List.length q) q ((q.length : Int) - 1) f a_))] [0, 2, 4, 6] [] [4] [(1, .val (.b true)), (5, .val (.i (q.length : Int))), (6, .val (.i ((q.length : Int) - 1))), (9, .val (.b (Yo (List.length q) q ((q.length : Int) - 1) f a_)))] (o2 (Qg (cb h1 (Wj q))) (o2 (Qi (Xs q)) (o2 (Qi (Km (IntWalk.i64_in ((q.length : Int) - 1) (by omega)))) (o1 (Qg (specl14Node_a (List.length q) q ((q.length : Int) - 1) f a_ (vq_spec h1) (by have := vq_len (vq_spec h1); omega) (by omega) (by omega))))))) ?_
  exact ⟨rfl, Qd (by rw [h1]; first | done | kernel_rfl)⟩
 ·
  refine rk Qb [] [0, 2, 4] [] [4] [(1, .val (.b false))] (o1 (Qg (cb h1 (Wj q)))) ?_
  exact ⟨rfl, Qd (by rw [h1]; first | done | kernel_rfl)⟩
 refine Qq ?_
 exact Ze [] (congrArg (fun z => (.b z : AV)) (show Qaz q f a_ = ((Yx q) && (Yo (List.length q) q ((q.length : Int) - 1) f a_)) from rfl).symm)
def Wm (q : (List Zo)) (a_ : (List Qs)) (_ : Nat) (a0 : Zb) (s0 : (List Int)) : Rd ((List Int)) ((List Int)) ((List Int)) := (bif (Qaz q a0 a_) then (.next (s0 ++ [a0.1])) else (.next s0))
def U7 (_ : Nat) (s0 : (List Int)) : (List Int) := s0
def Zs (s_ : Zp) (q : (List Zo)) (a_ : (List Qs)) : (List Int) := (Out.on (Xv (Wm q a_) U7 s_.2.1 0 []) (fun y0 => y0))
theorem specSelectFiles_a (s_ : Zp) (q : (List Zo)) (a_ : (List Qs)) : ACalls Tryz.prog 119 [.a [.h s_.1, .h s_.2.1, .i s_.2.2], .h q, .h a_] (.o 0 (Zs s_ q a_)) := by
 refine Qt (tt := tt) Qb Tryz.func119 (fn := Tryz.f119) rfl (by unfold Jr; kernel_rfl) (Nat.le_of_ble_eq_true rfl) fun w0 F0 hG => ?_
 refine Qa ?_
 refine rk Qb [(3, .p 3 0), (6, .e 0)] [0] [(3, [.h s_.1, .h s_.2.1, .i s_.2.2])] [] [] (o0) ?_
 refine Qa ?_
 refine rk Qb [(7, .one (.slc (.own true 576) 1 []))] [] [] [] [] (o0) ?_
 refine Qa ?_
 refine Qa ?_
 refine rk Qb [(8, .i 0)] [] [] [] [] (o0) ?_
 refine wdB 3 1 .sh s_.2.1 (fun hw1 => ?_)
 have hl2 : List.length s_.2.1 ≤ 1073741824 := Qx (hw1)
 refine blk (fun (k0 : Nat) (s0 : (List Int)) => [(7, .o 147204 s0), (8, .i ((k0 : Nat) : Int))]) [7, 8] (fun k0 s0 => []) [] (fun (y0 : (List Int)) => [(7, .o 147354 y0)]) [1, 2, 3, 7, 8] (fun y0 => []) [3] (fun (k0 : Nat) (s0 : (List Int)) => (Xv (Wm q a_) U7 s_.2.1 0 []) = Xv (Wm q a_) U7 (List.drop k0 s_.2.1) k0 s0 ∧ List.length s0 ≤ k0) (fun (y0 : (List Int)) => (Xv (Wm q a_) U7 s_.2.1 0 []) = .brk y0) s_.2.1.length [] (Yt [(576, 147204)] (by kernel_rfl)) ⟨rfl, (by simp)⟩ (fun k0 s0 hk0 hI0 => ?_) (fun k0 s0 hk0 hI0 => ?_) (fun y0 hD0 => ?_)
 ·
  have hA0_0 := hI0.2
  obtain ⟨a0, hx0⟩ := Yl (l := s_.2.1) (i := k0) hk0
  refine Qa ?_
  refine Qa ?_
  refine rk Qb [(14, .b true)] [] [] [] [(3, .val (.i (s_.2.1.length : Int))), (4, .val (.b true))] (o2 (Qi (Xs s_.2.1)) (o1 (Qi (Qh (decide_eq_true (p := ((k0 : Nat) : Int) < (s_.2.1.length : Int)) (by omega)))))) ?_
  refine ckT ?_
  refine Qr ?_
  refine Qa ?_
  refine Xf ?_
  refine Qa ?_
  refine rk Qb [(24, .b (Qaz q a0 a_))] [14] [] [] [(4, .row [.i a0.1, .i a0.2.1, .b a0.2.2.1, .i a0.2.2.2.1, .h a0.2.2.2.2]), (7, .val (.b (Qaz q a0 a_)))] (o2 (Qy (X4 (i := ((k0 : Nat) : Int)) (by omega) rfl hx0)) (o1 (Qg (specMatches_a q a0 a_)))) ?_
  refine ck (Qaz q a0 a_) (fun h3 => ?_) (fun h3 => ?_)
  ·
   refine wdT 7 0 (.own true 147204) s0 (fun hw4 => ?_)
   have hl5 : List.length s0 ≤ 1073741824 := Qx (hw4)
   refine rk Qb [(7, .one (.slc (.own true 2112) 1 ((eL s0) ++ [[.i a0.1]])))] [7, 24] [] [] [(4, .row [.i a0.1, .i a0.2.1, .b a0.2.2.1, .i a0.2.2.2.1, .h a0.2.2.2.2])] (o2 (Qy (X4 (i := ((k0 : Nat) : Int)) (by omega) rfl hx0)) (o1 (V9 (Wi (Xm s0) (Xm [a0.1]) (by first | omega | (simp only [List.length_cons, List.length_nil]; omega) | (simp; omega) | simp))))) ?_
   refine eqn [(7, .o 2112 (s0 ++ [a0.1]))] [7] [] [] (by rw [show ((eL s0) ++ [[.i a0.1]]) = (eL (s0 ++ [a0.1])) from Hj (rfl) (rfl)]; first | done | kernel_rfl) ?_
   refine rk Qb [(8, .i ((k0 + 1 : Nat) : Int))] [8] [] [] [(1, .val (.i ((k0 + 1 : Nat) : Int)))] (o1 (Qi (Km (Q8 k0 (by omega))))) ?_
   exact Exists.intro (s0 ++ [a0.1]) (And.intro (Yt [(2112, 147204)] (by kernel_rfl)) ⟨Xe hx0 (X8 h3 (rfl)) hI0.1, by first | omega | (simp; omega) | simp⟩)
  ·
   refine Qr ?_
   refine rk Qb [(8, .i ((k0 + 1 : Nat) : Int))] [8, 24] [] [] [(1, .val (.i ((k0 + 1 : Nat) : Int)))] (o1 (Qi (Km (Q8 k0 (by omega))))) ?_
   exact Exists.intro s0 (And.intro (Qd (by kernel_rfl)) ⟨Xe hx0 (Q6 h3 (rfl)) hI0.1, by first | omega | (simp; omega) | simp⟩)
 ·
  have hA0_0 := hI0.2
  refine Qa ?_
  refine Qa ?_
  refine rk Qb [(14, .b false)] [] [] [] [(3, .val (.i (s_.2.1.length : Int))), (4, .val (.b false))] (o2 (Qi (Xs s_.2.1)) (o1 (Qi (Qh (decide_eq_false (p := ((k0 : Nat) : Int) < (s_.2.1.length : Int)) (by omega)))))) ?_
  refine ckF ?_
  refine Xt ?_
  exact Exists.intro s0 (And.intro (Yt [(147204, 147354)] (by kernel_rfl)) (Ym hk0 (rfl) hI0.1))
 ·
  refine Qa ?_
  refine rk Qb [(6, .o 147354 y0)] [6, 7] [] [] [] (o0) ?_
  refine Qq ?_
  exact Ze [] (congrArg (fun z => (.o 0 z : AV)) (show Zs s_ q a_ = y0 from Hk hD0 (rfl)).symm)
end Go.Proofs.YtamghcfmhfknmaaGreat
namespace Go.Proofs.YtamghcfmhfknmaaGreat
open Go.RowKit
theorem cid_eq (l : List Int) (x : Int) : Jp l x = Jw l x := by
  unfold Jp Ja Vm Jw
  have key : ∀ (l : List Int) (k : Nat), decide (((Xv (Jl x) Ku l k ()).on fun _ => -1) ≥ 0) = ((Xv (Vc x) Uj l k ()).on fun _ => false) := by
    intro l
    induction l with
    | nil => intro k; rfl
    | cons a l ih =>
      intro k
      by_cases h : x = a
      · subst h; simp [Xv, Jl, Vc, Out.on]
      · have e1 : (x == a) = false := beq_eq_false_iff_ne.2 h
        have e2 : (a == x) = false := beq_eq_false_iff_ne.2 (Ne.symm h)
        simp only [Xv, Jl, Vc, e1, e2, cond_false]
        exact ih (k + 1)
  exact key l 0
theorem rids_eq (r : List Qs) (s : ByteArray) : Q5 r s = Jm r s := rfl
theorem attr_eq (f : Zb) (s : ByteArray) : Xa f s = Y5 f s := rfl
theorem vn_op {n : Zo} {k : Int} (h : Y0 n k = true) : n.1 = 1 ∨ n.1 = 2 ∨ n.1 = 3 ∨ n.1 = 4 ∨ n.1 = 5 ∨ n.1 = 6 ∨ n.1 = 7 ∨ n.1 = 8 ∨ n.1 = 9 := by
  refine Classical.byContradiction fun hn => ?_
  simp only [not_or] at hn
  obtain ⟨h1, h2, h3, h4, h5, h6, h7, h8, h9⟩ := hn
  unfold Y0 at h
  simp only [beq_eq_false_iff_ne.2 h1, beq_eq_false_iff_ne.2 h2, beq_eq_false_iff_ne.2 h3, beq_eq_false_iff_ne.2 h4, beq_eq_false_iff_ne.2 h5, beq_eq_false_iff_ne.2 h6, beq_eq_false_iff_ne.2 h7, beq_eq_false_iff_ne.2 h8, beq_eq_false_iff_ne.2 h9, cond_false] at h
  cases h
theorem match_eq {q : List Zo} (hv : Q7 q = true) (f : Zb) (r : List Qs) : ∀ (n : Nat) (k : Int), 0 ≤ k → k < (q.length : Int) → Xl n q k f r = Yo n q k f r
  | 0, _, _, _ => rfl
  | n + 1, k, h0, h1 => by
    have hn := vq_node hv (Yj (l := q) (i := Int.toNat k) (by omega))
    rw [Int.toNat_of_nonneg h0] at hn
    obtain ⟨hl, hr⟩ := Qdv hv h0 h1
    unfold Xl Yo
    have ih := match_eq hv f r n
    unfold Ki
    simp only [attr_eq, rids_eq, cid_eq]
    generalize nth q (Int.toNat k) = m at hn hl hr ⊢
    rcases vn_op hn with h | h | h | h | h | h | h | h | h
    · simp [h]
    · simp [h]
    · simp [h]
    · rw [h]
      cases hz : ((Y5 f m.2.2.2.1).1 == (1 : Int)) with
      | true => simp [bne, hz]
      | false => simp [bne, hz]
    · simp [h, ih _ (hl (by simp [h])).1 (by have := (hl (by simp [h])).2; omega)]
    · simp [h, ih _ (hl (by simp [h])).1 (by have := (hl (by simp [h])).2; omega), ih _ (hr (by simp [h])).1 (by have := (hr (by simp [h])).2; omega)]
    · simp [h, ih _ (hl (by simp [h])).1 (by have := (hl (by simp [h])).2; omega), ih _ (hr (by simp [h])).1 (by have := (hr (by simp [h])).2; omega)]
    · simp [h]
    · simp [h]
theorem matches_eq (q : List Zo) (f : Zb) (r : List Qs) : Vn q f r = Qaz q f r := by
  unfold Vn Qaz
  rw [← vq_eq]
  cases hv : Q7 q with
  | false => rfl
  | true => rw [match_eq hv f r _ _ (by have := vq_len hv; omega) (by omega)]
theorem select_eq (s : Zp) (q : List Zo) (r : List Qs) : Yv s q r = Zs s q r := by
  unfold Yv Zs
  rw [forL_ext (f := Vo q r) (g := Wm q r) (e := U6) (e' := U7) (fun i a s => by
    unfold Vo Wm
    rw [matches_eq]) (fun _ _ => rfl)]
end Go.Proofs.YtamghcfmhfknmaaGreat
namespace Go.Proofs.YtamghcfmhfknmaaGreat
section
variable {φ : Type} (fs : List φ) (idOf : φ → Int)
def sel (p : φ → Bool) : List Int := (fs.filter p).map idOf
theorem filter_grow {p q : φ → Bool} : ∀ (l : List φ), (∀ f, f ∈ l → p f = true → q f = true) → (l.filter p).length ≤ (l.filter q).length ∧ ((l.filter q).length ≤ (l.filter p).length → l.filter p = l.filter q)
  | [], _ => ⟨Nat.le_refl _, fun _ => rfl⟩
  | f :: l, h => by
    obtain ⟨h1, h2⟩ := filter_grow l fun g hg => h g (List.mem_cons_of_mem _ hg)
    have h0 := h f (List.mem_cons_self ..)
    cases hp : p f with
    | true =>
      have hq := h0 hp
      simp only [List.filter_cons, hp, hq, if_true, List.length_cons]
      exact ⟨by omega, fun hl => by rw [h2 (by omega)]⟩
    | false =>
      cases hq : q f with
      | true =>
        simp only [List.filter_cons, hp, hq, if_true, List.length_cons, Bool.false_eq_true, if_false]
        exact ⟨by omega, fun hl => absurd hl (by omega)⟩
      | false =>
        simp only [List.filter_cons, hp, hq, Bool.false_eq_true, if_false]
        exact ⟨h1, h2⟩
theorem sel_len (p : φ → Bool) : (sel fs idOf p).length ≤ fs.length := by
  unfold sel; rw [List.length_map]; exact List.length_filter_le _ _
variable {fs idOf}
theorem sel_grow {p q : φ → Bool} (h : ∀ f, f ∈ fs → p f = true → q f = true) (hn : sel fs idOf p ≠ sel fs idOf q) : (sel fs idOf p).length + 1 ≤ (sel fs idOf q).length := by
  obtain ⟨h1, h2⟩ := filter_grow fs h
  unfold sel at hn ⊢
  rw [List.length_map, List.length_map]
  refine Nat.lt_of_le_of_ne h1 fun e => hn ?_
  rw [h2 (by omega)]
theorem sel_sub {p q : φ → Bool} (h : ∀ f, f ∈ fs → p f = true → q f = true) {x : Int} (hx : x ∈ sel fs idOf p) : x ∈ sel fs idOf q := by
  unfold sel at hx ⊢
  obtain ⟨f, hf, rfl⟩ := List.mem_map.1 hx
  obtain ⟨h1, h2⟩ := List.mem_filter.1 hf
  exact List.mem_map.2 ⟨f, List.mem_filter.2 ⟨h1, h f h1 h2⟩, rfl⟩
end
abbrev CD := ByteArray × List Int
def putC (out : List CD) (k : Nat) (ids : List Int) : List CD := out.set k ((nth out k).1, ids)
theorem nth_setC {out : List CD} {k : Nat} (x : CD) (hk : k < out.length) (j : Nat) : nth (out.set k x) j = if j = k then x else nth out j := by
  unfold nth
  simp only [List.getD_eq_getElem?_getD, List.getElem?_set]
  by_cases h : k = j
  · subst h; simp [hk]
  · simp [h, Ne.symm h]
theorem putC_names {out : List CD} {k : Nat} (ids : List Int) (hk : k < out.length) : (putC out k ids).map (·.1) = out.map (·.1) := by
  unfold putC
  rw [List.map_set]
  refine List.ext_getElem (by simp) fun i h1 h2 => ?_
  rw [List.getElem_set]
  split
  · rename_i h; subst h; simp [nth, List.getD, hk]
  · rfl
def room (B : Nat) (act : Nat → Bool) : Nat → List CD → Nat
  | _, [] => 0
  | k, r :: l => (bif act k then B - r.2.length else 0) + room B act (k + 1) l
theorem room_le (B : Nat) (act : Nat → Bool) : ∀ (l : List CD) (k : Nat), room B act k l ≤ l.length * B
  | [], k => by simp [room]
  | r :: l, k => by
    have := room_le B act l (k + 1)
    simp only [room, List.length_cons, Nat.add_mul, Nat.one_mul]
    cases act k with
    | true => simp only [cond_true]; omega
    | false => simp only [cond_false]; omega
theorem room_set (B : Nat) (act : Nat → Bool) (x : CD) : ∀ (l : List CD) (k i : Nat), i < l.length → act (k + i) = true → (nth l i).2.length + 1 ≤ x.2.length → x.2.length ≤ B → room B act k (l.set i x) + 1 ≤ room B act k l
  | [], k, i, hi, _, _, _ => by simp at hi
  | r :: l, k, 0, _, ha, h1, h2 => by
    have e : nth (r :: l) 0 = r := rfl
    rw [e] at h1
    rw [Nat.add_zero] at ha
    simp only [List.set, room, ha, cond_true]
    omega
  | r :: l, k, i + 1, hi, ha, h1, h2 => by
    have := room_set B act x l (k + 1) i (by simpa using hi) (by rwa [show k + 1 + i = k + (i + 1) by omega]) h1 h2
    simp only [List.set, room]
    omega
section
variable {φ : Type} {fs : List φ} {idOf : φ → Int} (m : Nat → List CD → φ → Bool) (act : Nat → Bool)
def LeC (a b : List CD) : Prop := ∀ j, (∀ x, x ∈ (nth a j).2 → x ∈ (nth b j).2) ∧ (act j = false → (nth a j).2 = (nth b j).2)
variable (fs idOf)
def GoodC (out : List CD) : Prop := ∀ k, k < out.length → act k = true → ∃ p : φ → Bool, (nth out k).2 = sel fs idOf p ∧ ∀ f, f ∈ fs → p f = true → m k out f = true
def MonoC (nm : List ByteArray) : Prop := ∀ a b : List CD, a.map (·.1) = nm → b.map (·.1) = nm → LeC act a b → ∀ k, k < nm.length → act k = true → ∀ f, f ∈ fs → m k a f = true → m k b f = true
def stepC (s : List CD × Bool) (k : Nat) : List CD × Bool := bif act k then (if sel fs idOf (m k s.1) = (nth s.1 k).2 then s else (putC s.1 k (sel fs idOf (m k s.1)), true)) else s
def passC (ks : List Nat) (s : List CD × Bool) : List CD × Bool := ks.foldl (stepC fs idOf m act) s
variable {fs idOf m act} {nm : List ByteArray}
structure StateC (fs : List φ) (idOf : φ → Int) (m : Nat → List CD → φ → Bool) (act : Nat → Bool) (nm : List ByteArray) (o out : List CD) : Prop where
  names : out.map (·.1) = nm
  good : GoodC fs idOf m act out
  rest : ∀ j, act j = false → nth out j = nth o j
theorem stepC_ok (hm : MonoC fs m act nm) {o : List CD} {s : List CD × Bool} (h : StateC fs idOf m act nm o s.1) {k : Nat} (hk : k < nm.length) :
    StateC fs idOf m act nm o (stepC fs idOf m act s k).1 ∧ room fs.length act 0 (stepC fs idOf m act s k).1 ≤ room fs.length act 0 s.1 ∧ ((stepC fs idOf m act s k).2 = true → s.2 = true ∨ room fs.length act 0 (stepC fs idOf m act s k).1 + 1 ≤ room fs.length act 0 s.1) := by
  unfold stepC
  cases ha : act k with
  | false => exact ⟨h, Nat.le_refl _, .inl⟩
  | true =>
    simp only [cond_true]
    split
    · exact ⟨h, Nat.le_refl _, .inl⟩
    · rename_i hne
      have hlen : nm.length = s.1.length := by rw [← h.names, List.length_map]
      have hk' : k < s.1.length := by omega
      obtain ⟨p, hp1, hp2⟩ := h.good k hk' ha
      rw [hp1] at hne
      have hgrow := sel_grow (idOf := idOf) hp2 (Ne.symm hne)
      have hnames : (putC s.1 k (sel fs idOf (m k s.1))).map (·.1) = nm := by rw [putC_names _ hk', h.names]
      have hle : LeC act s.1 (putC s.1 k (sel fs idOf (m k s.1))) := fun j => by
        unfold putC
        rw [nth_setC _ hk']
        by_cases hj : j = k
        · subst hj
          rw [if_pos rfl]
          exact ⟨fun x hx => sel_sub hp2 (hp1 ▸ hx), fun hf => absurd ha (by simp [hf])⟩
        · rw [if_neg hj]
          exact ⟨fun _ hx => hx, fun _ => rfl⟩
      have hmono := hm _ _ h.names hnames hle
      have hr : room fs.length act 0 (putC s.1 k (sel fs idOf (m k s.1))) + 1 ≤ room fs.length act 0 s.1 :=
        room_set _ _ _ _ 0 k hk' (by rw [Nat.zero_add]; exact ha) (by rw [hp1]; exact hgrow) (sel_len _ _ _)
      refine ⟨⟨hnames, fun j hj hja => ?_, fun j hj => ?_⟩, Nat.le_of_succ_le hr, fun _ => .inr hr⟩
      · have hj' : j < s.1.length := by unfold putC at hj; rwa [List.length_set] at hj
        by_cases e : j = k
        · subst e
          refine ⟨m j s.1, ?_, fun f hf hmf => hmono j (by omega) hja f hf hmf⟩
          unfold putC; rw [nth_setC _ hk', if_pos rfl]
        · obtain ⟨p', h1, h2⟩ := h.good j hj' hja
          refine ⟨p', ?_, fun f hf hpf => hmono j (by omega) hja f hf (h2 f hf hpf)⟩
          unfold putC; rw [nth_setC _ hk', if_neg e]; exact h1
      · have e : j ≠ k := fun e => absurd ha (by simp [← e, hj])
        unfold putC; rw [nth_setC _ hk', if_neg e]; exact h.rest j hj
theorem passC_ok (hm : MonoC fs m act nm) {o : List CD} : ∀ (ks : List Nat) (s : List CD × Bool), (∀ k, k ∈ ks → k < nm.length) → StateC fs idOf m act nm o s.1 →
    StateC fs idOf m act nm o (passC fs idOf m act ks s).1 ∧ room fs.length act 0 (passC fs idOf m act ks s).1 ≤ room fs.length act 0 s.1 ∧ ((passC fs idOf m act ks s).2 = true → s.2 = true ∨ room fs.length act 0 (passC fs idOf m act ks s).1 + 1 ≤ room fs.length act 0 s.1)
  | [], s, _, h => ⟨h, Nat.le_refl _, .inl⟩
  | k :: ks, s, hks, h => by
    obtain ⟨h1, h2, h3⟩ := stepC_ok hm h (hks k (List.mem_cons_self ..))
    obtain ⟨g1, g2, g3⟩ := passC_ok hm ks _ (fun j hj => hks j (List.mem_cons_of_mem _ hj)) h1
    refine ⟨g1, Nat.le_trans g2 h2, fun hc => ?_⟩
    rcases g3 hc with hc | hc
    · rcases h3 hc with hc | hc
      · exact .inl hc
      · exact .inr (Nat.le_trans (Nat.add_le_add_right g2 1) hc)
    · exact .inr (Nat.le_trans hc h2)
theorem whlC {R S T : Type} {F : S → Rd R S T} {out : S → List CD} {ch : S → Bool} {n : Nat} (hn : n = nm.length)
    (hF : ∀ s, ch s = true → ∃ s', F s = .next s' ∧ (out s', ch s') = passC fs idOf m act (List.range n) (out s, false))
    (hE : ∀ s, ch s = false → ∃ t, F s = .brk t)
    (hm : MonoC fs m act nm) {o : List CD} : ∀ (k : Nat) (s : S), StateC fs idOf m act nm o (out s) → room fs.length act 0 (out s) + (bif ch s then 2 else 1) ≤ k →
    ∃ s', StateC fs idOf m act nm o (out s') ∧ ch s' = false ∧ ∃ t, F s' = .brk t ∧ whl F k s = some (.brk t)
  | 0, s, _, hk => by cases hc : ch s <;> simp [hc] at hk
  | k + 1, s, h, hk => by
    cases hc : ch s with
    | false =>
      obtain ⟨t, ht⟩ := hE s hc
      exact ⟨s, h, hc, t, ht, by simp only [whl, ht]⟩
    | true =>
      rw [hc] at hk
      simp only [cond_true] at hk
      obtain ⟨s', h1, h2⟩ := hF s hc
      obtain ⟨g1, g2, g3⟩ := passC_ok hm (o := o) (List.range n) (out s, false) (fun j hj => by rw [← hn]; exact List.mem_range.1 hj) h
      rw [← h2] at g1 g2 g3
      simp only [whl, h1]
      refine whlC hn hF hE hm k s' g1 ?_
      simp only [Bool.false_eq_true, false_or] at g3
      cases hc' : ch s' with
      | false => simp only [cond_false]; have : room fs.length act 0 (out s') ≤ room fs.length act 0 (out s) := g2; omega
      | true => simp only [cond_true]; have : room fs.length act 0 (out s') + 1 ≤ room fs.length act 0 (out s) := g3 hc'; omega
end
/-! ### a slice that is nil, handed on -/
open Go.RowKit in
def ArgLe (a b : AV) : Prop := ∀ (J : Inj) (w : World) (v : Value), AR J w v a → AR J w v b
theorem ArgLe.rfl (a : AV) : ArgLe a a := fun _ _ _ h => h
theorem ArgLe.nil (n : Nat) : ArgLe (.one (.slc .sh 0 [])) (.one (.slc .sh n [])) := fun J w v h => by
  have h' : VV J.F w v (.slc 0 []) := h
  show VV J.F w v (.slc n [])
  generalize hp : PV.slc 0 ([] : List (List PV)) = p at h'
  cases h' with
  | int | bool | str => cases hp
  | emp oa m hc => exact .emp oa n hc
  | @slc b off cap m cs l hx hcells hr hle hcap =>
    cases hp
    exact .emp _ n hcap.1
theorem acalls_args {P : Program} {f : Nat} {r : AV} {args args' : List AV} (h : All2 ArgLe args args') (c : ACalls P f args' r) : ACalls P f args r := ⟨c.1, fun w hg F vals hF hall => c.2 w hg F vals hF (by
  clear c
  induction h generalizing vals with
  | nil => exact hall
  | cons h1 h2 ih =>
    cases hall with
    | cons g1 g2 => exact .cons (h1 _ _ _ g1) (ih _ g2))⟩
/-! ### a flat row of ours, handed back -/
end Go.Proofs.YtamghcfmhfknmaaGreat
namespace Go.Proofs.YtamghcfmhfknmaaGreat
open Go.RowKit
/-! ### each node but the last is named once -/
def Qb5 (n : Zo) (c : Int) : Bool := ((n.2.1 == c) && (n.1 == 6 || n.1 == 7 || n.1 == 5)) || ((n.2.2.1 == c) && (n.1 == 6 || n.1 == 7))
theorem refs_step (c : Int) (k : Nat) (a : Zo) (s : Int) (h0 : 0 ≤ s) (h1 : s ≤ 1000) : ∃ s', Jf c k a s = .next s' ∧ s + (bif Qb5 a c then 1 else 0) ≤ s' ∧ s' ≤ s + 2 := by
  have w1 : IntKind.i64.wrap (s + 1) = s + 1 := IntWalk.i64_in _ (by omega)
  have w2 : IntKind.i64.wrap (s + 1 + 1) = s + 1 + 1 := IntWalk.i64_in _ (by omega)
  unfold Jf Qb5
  rw [w1, w2]
  cases (a.2.1 == c) <;> cases (a.2.2.1 == c) <;> cases (a.1 == 6) <;> cases (a.1 == 7) <;> cases (a.1 == 5) <;> exact ⟨_, rfl, by first | (simp; done) | (simp; omega) | omega, by omega⟩
theorem refs_loop (c : Int) : ∀ (l : List Zo) (k : Nat) (s : Int), 0 ≤ s → s + 2 * l.length ≤ 1000 → ∃ s', Xv (Jf c) Kw l k s = .brk s' ∧ s + (l.filter fun n => Qb5 n c).length ≤ s'
  | [], k, s, _, _ => ⟨s, rfl, by simp⟩
  | a :: l, k, s, h0, h1 => by
    rw [List.length_cons] at h1
    obtain ⟨s1, e1, g1, g2⟩ := refs_step c k a s h0 (by omega)
    have hp : 0 ≤ s1 := by cases hb : Qb5 a c <;> (rw [hb] at g1; simp at g1; omega)
    obtain ⟨s2, e2, g3⟩ := refs_loop c l (k + 1) s1 hp (by omega)
    refine ⟨s2, by simp only [Xv, e1]; exact e2, ?_⟩
    rw [List.filter_cons]
    cases hb : Qb5 a c with
    | true => rw [hb] at g1; simp only [cond_true] at g1; simp only [if_true, List.length_cons]; omega
    | false => rw [hb] at g1; simp only [cond_false] at g1; simp only [Bool.false_eq_true, if_false]; omega
theorem two_of {α : Type} {p : α → Bool} {l : List α} {i j : Nat} {a b : α} (hij : i < j) (hi : l[i]? = some a) (hj : l[j]? = some b) (ha : p a = true) (hb : p b = true) : 2 ≤ (l.filter p).length := by
  have e : l = l.take j ++ l.drop j := (List.take_append_drop j l).symm
  rw [e, List.filter_append, List.length_append]
  have h1 : 1 ≤ ((l.take j).filter p).length := List.length_pos_of_mem (a := a) (List.mem_filter.2 ⟨List.mem_of_getElem? (i := i) (by rw [List.getElem?_take, if_pos hij]; exact hi), ha⟩)
  have h2 : 1 ≤ ((l.drop j).filter p).length := List.length_pos_of_mem (a := b) (List.mem_filter.2 ⟨List.mem_of_getElem? (i := 0) (by rw [List.getElem?_drop]; exact hj), hb⟩)
  omega
theorem vq_refs {q : List Zo} (h : Q7 q = true) {i : Nat} (hi : i + 1 < q.length) : Z2 q (i : Int) = 1 := by
  obtain ⟨⟨t, ht⟩, _⟩ := vq_run h
  have := forL_all (fun k a t => by unfold Zf; generalize (_ || _ : Bool) = c; cases c <;> simp) ht i (nth q i) (Yj (by omega))
  unfold Zf at this
  rw [Nat.zero_add] at this
  have hd : decide (((i : Nat) : Int) < ((q.length : Int) - 1)) = true := decide_eq_true (by omega)
  rw [hd, Bool.true_and] at this
  cases hn : (Z2 q ((i : Nat) : Int) != (1 : Int)) with
  | false => exact H6 hn
  | true => rw [hn, Bool.or_true] at this; simp at this
theorem ref_once {q : List Zo} (h : Q7 q = true) {c i j : Nat} (hc : c + 1 < q.length) (hij : i < j) (hj : j < q.length) (h1 : Qb5 (nth q i) (c : Int) = true) (h2 : Qb5 (nth q j) (c : Int) = true) : False := by
  have hr := vq_refs h hc
  have hl := (vq_len h).2
  obtain ⟨s, e, g⟩ := refs_loop (c : Int) q 0 0 (by omega) (by omega)
  unfold Z2 at hr
  rw [e] at hr
  have := two_of (p := fun n => Qb5 n (c : Int)) hij (Yj (by omega)) (Yj hj) h1 h2
  simp only [Out.on] at hr
  omega
theorem ref_lt {q : List Zo} (h : Q7 q = true) {c i : Nat} (hi : i < q.length) (hr : Qb5 (nth q i) (c : Int) = true) : c < i := by
  obtain ⟨h1, h2⟩ := Qdv h (k := (i : Int)) (by omega) (by omega)
  rw [Int.toNat_natCast] at h1 h2
  unfold Qb5 at hr
  simp only [Bool.or_eq_true, Bool.and_eq_true, beq_iff_eq] at hr
  rcases hr with ⟨e, hop⟩ | ⟨e, hop⟩
  · have := h1 (by omega); omega
  · have := h2 (by omega); omega
/-! ### below a negation -/
theorem nth_setB {L : List Bool} {i : Nat} (x : Bool) (hi : i < L.length) (j : Nat) : nth (L.set i x) j = if j = i then x else nth L j := by
  unfold nth
  simp only [List.getD_eq_getElem?_getD, List.getElem?_set]
  by_cases h : i = j
  · subst h; simp [hi]
  · simp [h, Ne.symm h]
theorem neg_step {q : List Zo} (h : Q7 q = true) {k : Nat} (hk : k < q.length) (s : List Bool) (hs : s.length = q.length) : ∃ s', Zm q k s = .next s' ∧ s'.length = q.length ∧
    (∀ j : Nat, Qb5 (nth q (q.length - 1 - k)) (j : Int) = false → nth s' j = nth s j) ∧
    (∀ j : Nat, Qb5 (nth q (q.length - 1 - k)) (j : Int) = true → nth s' j = (nth s (q.length - 1 - k) || ((nth q (q.length - 1 - k)).1 == 5))) := by
  have hdn : Int.toNat (dn ((q.length : Int) - 1) k) = q.length - 1 - k := by rw [dn_eq]; omega
  obtain ⟨hl, hr⟩ := Qdv h (k := ((q.length - 1 - k : Nat) : Int)) (by omega) (by omega)
  rw [Int.toNat_natCast] at hl hr
  have hlt : q.length - 1 - k < s.length := by omega
  unfold Zm
  rw [hdn]
  generalize q.length - 1 - k = i at hl hr hlt ⊢
  generalize nth q i = n at hl hr ⊢
  generalize (nth s i || (n.1 == 5)) = b
  have both : ∀ (e5 : (n.1 == (5 : Int)) = false), (n.1 = 6 ∨ n.1 = 7) → (List.set (List.set s (Int.toNat n.2.1) b) (Int.toNat n.2.2.1) b).length = q.length ∧ (∀ j : Nat, Qb5 n (j : Int) = false → nth (List.set (List.set s (Int.toNat n.2.1) b) (Int.toNat n.2.2.1) b) j = nth s j) ∧ (∀ j : Nat, Qb5 n (j : Int) = true → nth (List.set (List.set s (Int.toNat n.2.1) b) (Int.toNat n.2.2.1) b) j = b) := fun e5 h67 => by
    obtain ⟨g1, g2⟩ := hl (.inr h67)
    obtain ⟨g3, g4⟩ := hr h67
    have hop : (n.1 == 6 || n.1 == 7) = true := by rcases h67 with e | e <;> simp [e]
    have hlen : (List.set s (Int.toNat n.2.1) b).length = s.length := List.length_set ..
    refine ⟨by rw [List.length_set, hlen, hs], fun j hj => ?_, fun j hj => ?_⟩
    · simp only [Qb5, hop, Bool.true_or, Bool.and_true, Bool.or_eq_false_iff, beq_eq_false_iff_ne, ne_eq] at hj
      rw [Qe7 _ (by omega), Qe7 _ (by omega)]
    · simp only [Qb5, hop, Bool.true_or, Bool.and_true, Bool.or_eq_true, beq_iff_eq] at hj
      rw [nth_setB _ (by omega), nth_setB _ (by omega)]
      split
      · rfl
      · rw [if_pos (by omega)]
  by_cases h5 : n.1 = 5
  · obtain ⟨g1, g2⟩ := hl (.inl h5)
    simp only [h5, beq_self_eq_true, cond_true]
    refine ⟨_, rfl, by rw [List.length_set, hs], fun j hj => ?_, fun j hj => ?_⟩
    · have : n.2.1 ≠ (j : Int) := by simpa [Qb5, h5] using hj
      exact Qe7 _ (by omega)
    · have : n.2.1 = (j : Int) := by simpa [Qb5, h5] using hj
      rw [nth_setB _ (by omega), if_pos (by omega)]
  · have e5 : (n.1 == (5 : Int)) = false := beq_eq_false_iff_ne.2 h5
    rw [e5, cond_false]
    by_cases h6 : n.1 = 6
    · simp only [h6, beq_self_eq_true, cond_true]
      exact ⟨_, rfl, both e5 (.inl h6)⟩
    · by_cases h7 : n.1 = 7
      · simp only [h7, beq_self_eq_true, cond_true]
        exact ⟨_, rfl, both e5 (.inr h7)⟩
      · have e6 : (n.1 == (6 : Int)) = false := beq_eq_false_iff_ne.2 h6
        have e7 : (n.1 == (7 : Int)) = false := beq_eq_false_iff_ne.2 h7
        rw [e6, e7, cond_false, cond_false]
        refine ⟨_, rfl, hs, fun _ _ => rfl, fun j hj => ?_⟩
        simp [Qb5, e5, e6, e7] at hj
def NegOk (q : List Zo) (k : Nat) (s : List Bool) : Prop := s.length = q.length ∧ ∀ i, q.length ≤ i + k → i < q.length → ∀ c : Nat, Qb5 (nth q i) (c : Int) = true → nth s c = (nth s i || ((nth q i).1 == 5))
theorem neg_next {q : List Zo} (h : Q7 q = true) {k : Nat} (hk : k < q.length) {s : List Bool} (hs : NegOk q k s) : ∃ s', Zm q k s = .next s' ∧ NegOk q (k + 1) s' := by
  obtain ⟨s', h1, h2, h3, h4⟩ := neg_step h hk s hs.1
  have hself : nth s' (q.length - 1 - k) = nth s (q.length - 1 - k) := h3 _ (by
    cases hr : Qb5 (nth q (q.length - 1 - k)) ((q.length - 1 - k : Nat) : Int) with
    | false => rfl
    | true => have := ref_lt h (by omega) hr; omega)
  refine ⟨s', h1, h2, fun i hi1 hi2 c hc => ?_⟩
  by_cases e : i = q.length - 1 - k
  · subst e
    rw [h4 c hc, hself]
  · have hci := ref_lt h hi2 hc
    have n1 : Qb5 (nth q (q.length - 1 - k)) (c : Int) = false := by
      cases hr : Qb5 (nth q (q.length - 1 - k)) (c : Int) with
      | false => rfl
      | true => exact (ref_once h (c := c) (i := q.length - 1 - k) (j := i) (by omega) (by omega) hi2 hr hc).elim
    have n2 : Qb5 (nth q (q.length - 1 - k)) (i : Int) = false := by
      cases hr : Qb5 (nth q (q.length - 1 - k)) (i : Int) with
      | false => rfl
      | true => have := ref_lt h (by omega) hr; omega
    rw [h3 c n1, h3 i n2]
    exact hs.2 i (by omega) hi2 c hc
theorem neg_loop {q : List Zo} (h : Q7 q = true) : ∀ (n k : Nat) (s : List Bool), k + n = q.length → NegOk q k s → ∃ s', Hu (Zm q) K8 n k s = .brk s' ∧ NegOk q q.length s'
  | 0, k, s, hk, hs => ⟨s, rfl, by rw [show k = q.length by omega] at hs; exact hs⟩
  | n + 1, k, s, hk, hs => by
    obtain ⟨s1, h1, h2⟩ := neg_next h (by omega) hs
    obtain ⟨s2, h3, h4⟩ := neg_loop h n (k + 1) s1 (by omega) h2
    exact ⟨s2, by simp only [Hu, h1]; exact h3, h4⟩
theorem neg_kids {q : List Zo} (h : Q7 q = true) : NegOk q q.length (Xq q) := by
  unfold Xq
  obtain ⟨s, h1, h2⟩ := neg_loop h (List.length q) 0 (List.replicate (Int.toNat (q.length : Int)) false) (by omega) ⟨by simp, fun i h1 h2 => by omega⟩
  rw [h]
  simp only [Bool.not_true, cond_false, h1, Out.on]
  exact h2
theorem neg_name {q : List Zo} {i : Nat} (hi : i < (Xq q).length) (hn : nth (Xq q) i = true) (hd : Jj (nth q i) = true) : (nth q i).2.2.2.1 ∈ X1 q := by
  have key : ∀ (l : List Bool) (k : Nat) (s : List ByteArray), ∃ t, Xv (Kn q true) Vz l k s = .brk t ∧ (∀ x, x ∈ s → x ∈ t) ∧ ∀ j, l[j]? = some true → Jj (nth q (k + j)) = true → (nth q (k + j)).2.2.2.1 ∈ t := by
    intro l
    induction l with
    | nil => intro k s; exact ⟨s, rfl, fun _ h => h, fun j h => by simp at h⟩
    | cons a l ih =>
      intro k s
      simp only [Xv, Kn]
      cases hc : (Jj (nth q k) && (a == true)) with
      | true =>
        obtain ⟨t, h1, h2, h3⟩ := ih (k + 1) (s ++ [(nth q k).2.2.2.1])
        refine ⟨t, h1, fun x hx => h2 x (List.mem_append_left _ hx), fun j hj hnm => ?_⟩
        cases j with
        | zero => exact h2 _ (List.mem_append_right _ (by simp))
        | succ j =>
          have := h3 j (by simpa using hj) (by rwa [show k + 1 + j = k + (j + 1) by omega])
          rwa [show k + 1 + j = k + (j + 1) by omega] at this
      | false =>
        obtain ⟨t, h1, h2, h3⟩ := ih (k + 1) s
        refine ⟨t, h1, h2, fun j hj hnm => ?_⟩
        cases j with
        | zero =>
          obtain rfl : a = true := by simpa using hj
          rw [Nat.add_zero] at hnm
          rw [hnm] at hc; cases hc
        | succ j =>
          have := h3 j (by simpa using hj) (by rwa [show k + 1 + j = k + (j + 1) by omega])
          rwa [show k + 1 + j = k + (j + 1) by omega] at this
  unfold X1 J4
  obtain ⟨t, h1, _, h3⟩ := key (Xq q) 0 []
  rw [h1]
  simp only [Out.on]
  have := h3 i (by rw [Yj hi, hn]) (by rwa [Nat.zero_add])
  rw [Nat.zero_add] at this
  exact ((once_spec t).2 _).2 this
/-! ### what a node says -/
theorem cid_iff (l : List Int) (x : Int) : Jp l x = true ↔ x ∈ l := by
  unfold Jp Ja Vm
  have key : ∀ (l : List Int) (k : Nat), decide (((Xv (Jl x) Ku l k ()).on fun _ => -1) ≥ 0) = true ↔ x ∈ l := by
    intro l
    induction l with
    | nil => intro k; simp [Xv, Out.on, Ku]
    | cons a l ih =>
      intro k
      by_cases h : x = a
      · subst h; simp [Xv, Jl, Out.on]
      · have e1 : (x == a) = false := beq_eq_false_iff_ne.2 h
        simp only [Xv, Jl, e1, cond_false]
        rw [ih (k + 1)]
        simp [h]
  exact key l 0
structure Seen (q : List Zo) (a b : List Qs) : Prop where
  grow : ∀ nm x, x ∈ Q5 a nm → x ∈ Q5 b nm
  same : ∀ nm, nm ∈ X1 q → Q5 a nm = Q5 b nm
theorem match_grow {q : List Zo} (hv : Q7 q = true) {a b : List Qs} (hs : Seen q a b) (f : Zb) : ∀ (n : Nat) (k : Nat), k < n → k < q.length →
    (nth (Xq q) k = true → Xl n q (k : Int) f a = Xl n q (k : Int) f b) ∧ (Xl n q (k : Int) f a = true → Xl n q (k : Int) f b = true)
  | 0, _, h, _ => absurd h (by omega)
  | n + 1, k, hkn, hk => by
    obtain ⟨hl, hr⟩ := Qdv hv (k := (k : Int)) (by omega) (by omega)
    rw [Int.toNat_natCast] at hl hr
    obtain ⟨hlen, hneg⟩ := neg_kids hv
    have hneg := hneg k (by omega) hk
    have hop := vn_op (vq_node hv (Yj hk))
    have hnm := neg_name (q := q) (i := k) (by omega)
    have ih := match_grow hv hs f n
    unfold Xl
    rw [Int.toNat_natCast]
    generalize nth q k = m at hl hr hneg hop hnm ⊢
    have kid : ∀ c : Int, 0 ≤ c → c < (k : Int) → Qb5 m c = true → ((nth (Xq q) k || (m.1 == 5)) = true → Xl n q c f a = Xl n q c f b) ∧ (Xl n q c f a = true → Xl n q c f b = true) := fun c h0 h1 hrf => by
      obtain ⟨j, rfl⟩ : ∃ j : Nat, c = (j : Int) := ⟨Int.toNat c, by omega⟩
      obtain ⟨g1, g2⟩ := ih j (by omega) (by omega)
      exact ⟨fun hn => g1 ((hneg j hrf).trans hn), g2⟩
    rcases hop with h | h | h | h | h | h | h | h | h
    · simp [h]
    · simp [h]
    · simp [h]
    · simp [h]
    · obtain ⟨k1, k2⟩ := hl (.inl h)
      obtain ⟨g1, _⟩ := kid m.2.1 k1 k2 (by simp [Qb5, h])
      have := g1 (by simp [h])
      simp [h, this]
    · obtain ⟨k1, k2⟩ := hl (.inr (.inl h))
      obtain ⟨k3, k4⟩ := hr (.inl h)
      obtain ⟨g1, g2⟩ := kid m.2.1 k1 k2 (by simp [Qb5, h])
      obtain ⟨g3, g4⟩ := kid m.2.2.1 k3 k4 (by simp [Qb5, h])
      refine ⟨fun hn => ?_, fun hm => ?_⟩
      · simp [h, g1 (by simp [hn]), g3 (by simp [hn])]
      · simp [h] at hm ⊢
        exact ⟨g2 hm.1, g4 hm.2⟩
    · obtain ⟨k1, k2⟩ := hl (.inr (.inr h))
      obtain ⟨k3, k4⟩ := hr (.inr h)
      obtain ⟨g1, g2⟩ := kid m.2.1 k1 k2 (by simp [Qb5, h])
      obtain ⟨g3, g4⟩ := kid m.2.2.1 k3 k4 (by simp [Qb5, h])
      refine ⟨fun hn => ?_, fun hm => ?_⟩
      · simp [h, g1 (by simp [hn]), g3 (by simp [hn])]
      · simp [h] at hm ⊢
        exact hm.imp g2 g4
    · refine ⟨fun hn => ?_, fun hm => ?_⟩
      · simp [h, hs.same _ (hnm hn (by simp [Jj, h]))]
      · simp [h] at hm ⊢
        exact (cid_iff _ _).2 (hs.grow _ _ ((cid_iff _ _).1 hm))
    · refine ⟨fun hn => ?_, fun hm => ?_⟩
      · simp [h, hs.same _ (hnm hn (by simp [Jj, h]))]
      · simp [h] at hm ⊢
        exact ⟨hm.1, (cid_iff _ _).2 (hs.grow _ _ ((cid_iff _ _).1 hm.2))⟩
theorem matches_grow {q : List Zo} {a b : List Qs} (hs : Seen q a b) (f : Zb) (h : Vn q f a = true) : Vn q f b = true := by
  unfold Vn at h ⊢
  cases hv : Q7 q with
  | false => rw [hv] at h; cases h
  | true =>
    rw [hv, Bool.true_and] at h
    rw [Bool.true_and]
    have hl := vq_len hv
    have e : ((q.length : Int) - 1) = ((q.length - 1 : Nat) : Int) := by omega
    rw [e] at h ⊢
    exact (match_grow hv hs f q.length (q.length - 1) (by omega) (by omega)).2 h
theorem select_sel (s : Zp) (q : List Zo) (r : List Qs) : Yv s q r = sel s.2.1 (fun f => f.1) fun f => Vn q f r := by
  unfold Yv
  rw [forL_filter (f := Vo q r) (p := fun f => Vn q f r) (g := fun f => f.1) (fun _ _ _ => rfl)]
  rfl
/-! ### strata that hold -/
theorem strata_ok {d : List Zt} {L : List Int} (h : Qz d = (L, true)) : Q2 d = true ∧ L.length = d.length ∧ Sat (Kh d) d.length L ∧ ∀ j, 0 ≤ nth L j := by
  unfold Qz at h
  cases hv : Q2 d with
  | false => rw [hv] at h; simp at h
  | true =>
    rw [hv] at h
    simp only [Bool.not_true, cond_false] at h
    have h5 := Qdr hv
    have hw := whl_climb (d := d) (f := Ub d) (e := Uc) (F := Ud d) (fun _ _ _ => rfl) (fun _ _ => rfl) (fun _ => rfl) (by omega) (d.length * d.length + 3) (List.replicate d.length 0) true (Qdb _).1 (Qdb _).2
    have hsome : (climb (Kh d) d.length d.length (d.length * d.length + 3) (true, List.replicate d.length 0)).isSome = true := by
      have := Qep d h5
      rw [Int.toNat_natCast, hw, Option.isSome_map] at this
      exact this
    obtain ⟨r, hr⟩ := Option.isSome_iff_exists.1 hsome
    unfold whlD at h
    rw [Int.toNat_natCast, hw, hr] at h
    have hw' : ∀ i e, e ∈ Kh d i → e.2 ≤ 1 ∧ e.1 < d.length := fun i e he => ⟨(edgesD_ok d i e he).1, (edgesD_ok d i e he).2.1⟩
    obtain ⟨h1, _⟩ := climb_eq hw' _ 0 true r (fun e => by cases e) hr
    cases r with
    | none => simp [endD, Out.on] at h
    | some M =>
      have e : M = L := by simpa [endD, Out.on] using h
      subst e
      obtain ⟨hrest, hM⟩ := h1 M rfl
      rw [hM]
      exact ⟨rfl, W5 _ _ _, rest_sat (W5 _ _ _) hrest, fun j => Qat _ _ j _⟩
theorem strata_le {d : List Zt} {L : List Int} (h : Qz d = (L, true)) : ∀ j, nth L j ≤ (d.length : Int) := by
  obtain ⟨hv, hlen, _, _⟩ := strata_ok h
  have h5 := Qdr hv
  unfold Qz at h
  rw [hv] at h
  simp only [Bool.not_true, cond_false] at h
  have hw := whl_climb (d := d) (f := Ub d) (e := Uc) (F := Ud d) (fun _ _ _ => rfl) (fun _ _ => rfl) (fun _ => rfl) (by omega) (d.length * d.length + 3) (List.replicate d.length 0) true (Qdb _).1 (Qdb _).2
  have hsome : (climb (Kh d) d.length d.length (d.length * d.length + 3) (true, List.replicate d.length 0)).isSome = true := by
    have := Qep d h5
    rw [Int.toNat_natCast, hw, Option.isSome_map] at this
    exact this
  obtain ⟨r, hr⟩ := Option.isSome_iff_exists.1 hsome
  unfold whlD at h
  rw [Int.toNat_natCast, hw, hr] at h
  have hw' : ∀ i e, e ∈ Kh d i → e.2 ≤ 1 ∧ e.1 < d.length := fun i e he => ⟨(edgesD_ok d i e he).1, (edgesD_ok d i e he).2.1⟩
  obtain ⟨h1, _⟩ := climb_eq hw' _ 0 true r (fun e => by cases e) hr
  cases r with
  | none => simp [endD, Out.on] at h
  | some M =>
    have e : M = L := by simpa [endD, Out.on] using h
    subst e
    obtain ⟨hrest, hM⟩ := h1 M rfl
    intro j
    by_cases hj : j < d.length
    · rw [hM]; exact Int.le_of_lt (rest_lt hw' hrest j hj)
    · have : nth M j = 0 := nth_out (by omega)
      omega
theorem edgesOfN_mem {d : List Zt} {w : Int} {nm : ByteArray} : ∀ {l : List ByteArray}, nm ∈ l → 0 ≤ Xc d nm → (Int.toNat (Xc d nm), w) ∈ K5 d w l
  | x :: l, h, h0 => by
    simp only [K5]
    rcases List.mem_cons.1 h with rfl | h
    · rw [if_pos h0]; exact List.mem_cons_self ..
    · split
      · exact List.mem_cons_of_mem _ (edgesOfN_mem h h0)
      · exact edgesOfN_mem h h0
theorem strata_neg {d : List Zt} {L : List Int} (h : Qz d = (L, true)) {i : Nat} (hi : i < d.length) {nm : ByteArray} (hn : nm ∈ X1 (nth d i).2) (h0 : 0 ≤ Xc d nm) : nth L (Int.toNat (Xc d nm)) < nth L i := by
  obtain ⟨_, _, hs, _⟩ := strata_ok h
  have hm : (Int.toNat (Xc d nm), (1 : Int)) ∈ Kh d i := by
    unfold Kh
    rw [if_pos hi]
    exact List.mem_append_right _ (edgesOfN_mem hn h0)
  have := (Qb2.1 (hs i hi)).2 _ hm
  simp only at this
  omega
end Go.Proofs.YtamghcfmhfknmaaGreat
namespace Go.Proofs.YtamghcfmhfknmaaGreat
open Go.RowKit
theorem rids_go (nm : ByteArray) : ∀ (d : List Zt) (o : List Qs) (k : Nat), o.map (·.1) = d.map (·.1) →
    (Xv (X2 nm) Ys d k () = .brk () ∧ Xv (V1 nm) Wt o k () = .brk ()) ∨
    ∃ i : Nat, i < d.length ∧ Xv (X2 nm) Ys d k () = .ret (((k + i : Nat)) : Int) ∧ Xv (V1 nm) Wt o k () = .ret (nth o i).2
  | [], [], _, _ => .inl ⟨rfl, rfl⟩
  | [], _ :: _, _, h => by simp at h
  | _ :: _, [], _, h => by simp at h
  | a :: d, b :: o, k, h => by
    simp only [List.map_cons, List.cons.injEq] at h
    obtain ⟨h1, h2⟩ := h
    simp only [Xv, X2, V1, Qav, h1]
    cases (a.1.toList == nm.toList) with
    | true => exact .inr ⟨0, by simp, rfl, rfl⟩
    | false =>
      simp only [cond_false]
      rcases rids_go nm d o (k + 1) h2 with h | ⟨i, hi, h3, h4⟩
      · exact .inl h
      · exact .inr ⟨i + 1, by simpa using hi, by rw [h3, show k + 1 + i = k + (i + 1) by omega], h4⟩
theorem rids_at {d : List Zt} {o : List Qs} (h : o.map (·.1) = d.map (·.1)) (nm : ByteArray) : (Xc d nm < 0 ∧ Q5 o nm = []) ∨ (0 ≤ Xc d nm ∧ Int.toNat (Xc d nm) < d.length ∧ Q5 o nm = (nth o (Int.toNat (Xc d nm))).2) := by
  unfold Xc Y1 Q5
  rcases rids_go nm d o 0 h with ⟨h1, h2⟩ | ⟨i, hi, h1, h2⟩
  · rw [h1, h2]
    refine .inl ⟨?_, ?_⟩
    · show (-1 : Int) < 0; omega
    · rfl
  · rw [h1, h2]
    simp only [Out.on, Nat.zero_add, Int.toNat_natCast]
    exact .inr ⟨by omega, hi, trivial⟩
abbrev pickD (d : List Zt) (k : Nat) (o : List Qs) (f : Zb) : Bool := Vn (nth d k).2 f o
theorem mono_ok {d : List Zt} {L : List Int} (h : Qz d = (L, true)) (fs : List Zb) {act : Nat → Bool} {level : Int} (ha : ∀ k, act k = true → nth L k = level) : MonoC fs (pickD d) act (d.map (·.1)) := by
  intro a b hna hnb hle k hk hact f _ hm
  rw [List.length_map] at hk
  refine matches_grow (⟨fun nm x hx => ?_, fun nm hn => ?_⟩ : Seen (nth d k).2 a b) f hm
  · rcases rids_at hna nm with ⟨h1, h2⟩ | ⟨h1, h2, h3⟩
    · rw [h2] at hx; simp at hx
    · rcases rids_at hnb nm with ⟨g1, _⟩ | ⟨_, _, g3⟩
      · omega
      · rw [h3] at hx
        rw [g3]
        exact (hle _).1 x hx
  · rcases rids_at hna nm with ⟨h1, h2⟩ | ⟨h1, h2, h3⟩
    · rcases rids_at hnb nm with ⟨_, g2⟩ | ⟨g1, _, _⟩
      · rw [h2, g2]
      · omega
    · rcases rids_at hnb nm with ⟨g1, _⟩ | ⟨_, _, g3⟩
      · omega
      · rw [h3, g3]
        refine (hle _).2 ?_
        have hlt := strata_neg h hk hn h1
        cases hp : act (Int.toNat (Xc d nm)) with
        | false => rfl
        | true => have := ha _ hp; have := ha _ hact; omega
structure EvS (d : List Zt) (L : List Int) (on : Nat → Bool) (fs : List Zb) (k : Int) (o : List Qs) : Prop where
  names : o.map (·.1) = d.map (·.1)
  none : ∀ j, k ≤ nth L j → on j = true → (nth o j).2 = []
  some_ : ∀ j, j < d.length → on j = true → ∃ p : Zb → Bool, (nth o j).2 = sel fs (fun f => f.1) p
def actD (L : List Int) (on : Nat → Bool) (k : Int) (j : Nat) : Bool := (nth L j == k) && on j
theorem evS_state {d : List Zt} {L : List Int} {on : Nat → Bool} {fs : List Zb} {k : Int} {o : List Qs} (h : EvS d L on fs k o) : StateC fs (fun f : Zb => f.1) (pickD d) (actD L on k) (d.map (·.1)) o o :=
  ⟨h.names, fun j _ hj => ⟨fun _ => false, by
    unfold actD at hj
    simp only [Bool.and_eq_true, beq_iff_eq] at hj
    rw [h.none j (by omega) hj.2]; simp [sel], fun f _ hf => by cases hf⟩, fun _ _ => rfl⟩
theorem evS_next {d : List Zt} {L : List Int} {on : Nat → Bool} {k : Int} {o o' : List Qs} {fs : List Zb} (h : EvS d L on fs k o) (h' : StateC fs (fun f : Zb => f.1) (pickD d) (actD L on k) (d.map (·.1)) o o') : EvS d L on fs (k + 1) o' :=
  ⟨h'.names, fun j hj hon => by
    rw [h'.rest j (by unfold actD; rw [Bool.and_eq_false_iff]; exact .inl (beq_eq_false_iff_ne.2 (by omega)))]
    exact h.none j (by omega) hon, fun j hj hon => by
    cases ha : actD L on k j with
    | false => rw [h'.rest j ha]; exact h.some_ j hj hon
    | true =>
      have hlen : o'.length = d.length := by have := congrArg List.length h'.names; simpa using this
      obtain ⟨p, hp, _⟩ := h'.good j (by omega) ha
      exact ⟨p, hp⟩⟩
theorem Qdw {d : List Zt} {L : List Int} {on : Nat → Bool} {fs : List Zb} {k : Int} {o : List Qs} (h : EvS d L on fs k o) : List.length o = List.length d := by have := congrArg List.length h.names; simpa using this
theorem ints_dec (a b : List Int) : Kb a b = decide (a = b) := by
  by_cases h : a.length = b.length
  · exact ints_eq a b h
  · have hb : ((a.length : Int) != (b.length : Int)) = true := by simpa using fun e : (a.length : Int) = (b.length : Int) => h (by omega)
    unfold Kb
    rw [hb, decide_eq_false (fun e => h (congrArg List.length e))]
    rfl
def StepE (s : Zp) (d : List Zt) (L : List Int) (on : Nat → Bool) (lv : Int) {R T : Type} (f : Nat → Zt → List Qs × Bool → Rd R (List Qs × Bool) T) : Prop :=
  ∀ k a o c, d[k]? = some a → f k a (o, c) = bif actD L on lv k then (bif !(decide (Yv s a.2 o = (nth o k).2)) then .next (List.set o k ((nth o k).1, Yv s a.2 o), true) else .next (o, c)) else .next (o, c)
theorem pass_eq {R : Type} {s : Zp} {d : List Zt} {L : List Int} {on : Nat → Bool} {lv : Int} {f : Nat → Zt → List Qs × Bool → Rd R (List Qs × Bool) (List Qs × Bool)} {e : Nat → List Qs × Bool → List Qs × Bool}
    (hf : StepE s d L on lv f) (he : ∀ k s, e k s = s) : ∀ (l : List Zt) (k : Nat) (o : List Qs) (c : Bool), d.drop k = l → Xv f e l k (o, c) = .brk (passC s.2.1 (fun f : Zb => f.1) (pickD d) (actD L on lv) (List.range' k l.length) (o, c))
  | [], k, o, c, _ => by simp [Xv, passC, he]
  | a :: l, k, o, c, hl => by
    have hk : d[k]? = some a := by
      have := congrArg (·[0]?) hl
      simpa using this
    have ha : nth d k = a := nth_of hk
    have hrest : d.drop (k + 1) = l := by rw [← List.drop_drop, hl]; rfl
    have hp : passC s.2.1 (fun f : Zb => f.1) (pickD d) (actD L on lv) (List.range' k (a :: l).length) (o, c) = passC s.2.1 (fun f : Zb => f.1) (pickD d) (actD L on lv) (List.range' (k + 1) l.length) (stepC s.2.1 (fun f : Zb => f.1) (pickD d) (actD L on lv) (o, c) k) := by
      rw [List.length_cons, List.range'_succ]; rfl
    have hsel : sel s.2.1 (fun f : Zb => f.1) (pickD d k o) = Yv s a.2 o := by rw [select_sel, ← ha]
    rw [hp]
    simp only [Xv, hf k a o c hk]
    unfold stepC
    cases actD L on lv k with
    | false => simp only [cond_false]; exact pass_eq hf he l (k + 1) o c hrest
    | true =>
      simp only [cond_true, hsel]
      by_cases hq : Yv s a.2 o = (nth o k).2
      · rw [decide_eq_true hq, if_pos hq]; exact pass_eq hf he l (k + 1) o c hrest
      · rw [decide_eq_false hq, if_neg hq]; exact pass_eq hf he l (k + 1) _ true hrest
theorem ev_run {R' : Type} {s : Zp} {d : List Zt} {L : List Int} {on : Nat → Bool} {lv : Int} {f : Nat → Zt → List Qs × Bool → Rd (Rd R' (List Qs × Int × Bool) (List Qs × Int)) (List Qs × Bool) (List Qs × Bool)} {e : Nat → List Qs × Bool → List Qs × Bool} {F : List Qs × Int × Bool → Rd R' (List Qs × Int × Bool) (List Qs × Int)}
    (hf : StepE s d L on lv f) (he : ∀ k s, e k s = s) (hF : ∀ x, F x = bif x.2.2 then (Out.on (Xv f e d 0 (x.1, false)) fun y => .next (y.1, IntKind.i64.wrap (x.2.1 + 1), y.2)) else .brk (x.1, x.2.1))
    (hS : Qz d = (L, true)) {o : List Qs} (h : EvS d L on s.2.1 lv o) (p : Int) :
    ∃ o' p', whl F (List.length d * List.length s.2.1 + 2) (o, p, true) = some (.brk (o', p')) ∧ EvS d L on s.2.1 (lv + 1) o' := by
  have hlen : o.length = d.length := by have := congrArg List.length h.names; simpa using this
  have hroom := room_le s.2.1.length (actD L on lv) o 0
  rw [hlen] at hroom
  obtain ⟨s', h1, hc, t, h2, h3⟩ := whlC (fs := s.2.1) (idOf := fun f : Zb => f.1) (m := pickD d) (act := actD L on lv) (nm := d.map (·.1)) (F := F) (out := fun x => x.1) (ch := fun x => x.2.2) (n := d.length) (by simp)
    (fun x hx => ⟨_, by rw [hF, hx, cond_true, pass_eq hf he d 0 x.1 false rfl]; rfl, by rw [List.range_eq_range']⟩)
    (fun x hx => ⟨_, by rw [hF, hx, cond_false]⟩) (mono_ok hS s.2.1 fun k hk => by unfold actD at hk; simp only [Bool.and_eq_true, beq_iff_eq] at hk; exact hk.1) (o := o) (List.length d * List.length s.2.1 + 2) (o, p, true) (evS_state h) (by simp only [cond_true]; omega)
  have hc' : s'.2.2 = false := hc
  have hb : F s' = .brk (s'.1, s'.2.1) := by rw [hF, hc']; rfl
  rw [hb] at h2
  cases h2
  exact ⟨s'.1, s'.2.1, h3, evS_next h h1⟩
theorem ev_start {R T : Type} {d : List Zt} {L : List Int} {on : Nat → Bool} {fs : List Zb} {g : Zt → List Int} {f : Nat → Zt → List Qs → Rd R (List Qs) T} {e : Nat → List Qs → T} (hf : ∀ k a s, f k a s = .next (s ++ [(a.1, g a)])) (hg : ∀ j, j < d.length → on j = true → g (nth d j) = []) :
    Xv f e d 0 [] = .brk (e d.length (d.map fun a => (a.1, g a))) ∧ EvS d L on fs 0 (d.map fun a => (a.1, g a)) := by
  refine ⟨by rw [forL_map (g := fun a => ((a.1, g a) : Qs)) hf]; simp, ?_, fun j _ hj => ?_, fun j hj hon => ?_⟩
  · rw [List.map_map]; rfl
  · by_cases hjl : j < d.length
    · have : nth (d.map fun a => ((a.1, g a) : Qs)) j = ((nth d j).1, g (nth d j)) := by simp [nth, List.getD, hjl]
      rw [this]; exact hg j hjl hj
    · have : nth (d.map fun a => ((a.1, g a) : Qs)) j = default := by simp [nth, List.getD, hjl]
      rw [this]; rfl
  · have : nth (d.map fun a => ((a.1, g a) : Qs)) j = ((nth d j).1, g (nth d j)) := by simp [nth, List.getD, hj]
    exact ⟨fun _ => false, by rw [this, hg j hj hon]; simp [sel]⟩
theorem Qer {d : List Zt} (h : ((Qz d)).2 = true) : List.length ((Qz d)).1 = List.length d ∧ List.length d ≤ 5 ∧ ∀ x, x ∈ ((Qz d)).1 → 0 ≤ x ∧ x ≤ 5 := by
  have hS : Qz d = ((Qz d).1, true) := Prod.ext rfl h
  obtain ⟨hv, hlen, hs, h0⟩ := strata_ok hS
  have h5 := Qdr hv
  refine ⟨hlen, h5, fun x hx => ?_⟩
  obtain ⟨i, hi, rfl⟩ := mem_nth hx
  refine ⟨h0 i, ?_⟩
  have hb := strata_le hS i
  omega
end Go.Proofs.YtamghcfmhfknmaaGreat
