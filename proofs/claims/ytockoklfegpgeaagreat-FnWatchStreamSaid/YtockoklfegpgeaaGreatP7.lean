/- Texts of this proof, put together by a program: Drb, Drc, Dws, Dwt, LWs, Wsl, MWs. -/
import Derived.Test.YtockoklfegpgeaaGreatP6
import Derived.KernelRfl
import Derived.Outline
set_option linter.unusedVariables false
set_option linter.unusedSimpArgs false
namespace Go.Proofs.YtockoklfegpgeaaGreat
open Go.RowKit
open GoE (enc wide)
def Ka (code : (List UInt8)) (x2 : (List Y5) × Nat × Int) (s0 : Int × Yu × Nat × Int) : Rd (Yu × Nat × Int) (Int × Yu × Nat × Int) (Yu × Nat × Int) := (lt (α := Int × Nat × Int) (Qk code s0.2.2.1 s0.2.2.2 4) (fun x8 => (bif decide (s0.1 < (2 + x8.1)) then (lt (α := Q5 × Nat × Int) (Zr code x8.2.1 x8.2.2) (fun x10 => (.next ((s0.1 + 1), (Zg s0.2.1 s0.1 x10.1 x2.1), x10.2.1, x10.2.2)))) else (.brk (s0.2.1, x8.2.1, x8.2.2)))))
def Z3 (code : (List UInt8)) (ci : Nat) (ch : Int) : Yu × Nat × Int := (lt (α := Q5 × Nat × Int) (Zr code ci ch) (fun x1 => (lt (α := (List Y5) × Nat × Int) (J9 code x1.2.1 x1.2.2) (fun x2 => (lt (α := Int × Nat × Int) (Qk code x2.2.1 x2.2.2 3) (fun x3 => (lt (α := Int × Nat × Int) (Qk code x3.2.1 x3.2.2 (x2.1.length : Int)) (fun x4 => (Out.on (E0 (Ka code x2) 5 (1, (Yj x1.1 x2.1 x3.1 ((nth x2.1 (Int.toNat x4.1)).1)), x4.2.1, x4.2.2)) (fun y0 => (lt (α := Int × Nat × Int) (Qk code y0.2.1 y0.2.2 10) (fun x11 => (bif (x11.1 == (0 : Int)) then (lt (α := (List Int) × Nat × Int) (Kl code x11.2.1 x11.2.2) (fun x13 => ((y0.1.1, y0.1.2.1, x13.1, y0.1.2.2.2), x13.2.1, x13.2.2))) else (bif (x11.1 == (1 : Int)) then (lt (α := Int × Nat × Int) (H7 code x11.2.1 x11.2.2) (fun x16 => ((x16.1, y0.1.2.1, y0.1.2.2.1, y0.1.2.2.2), x16.2.1, x16.2.2))) else (bif (x11.1 == (2 : Int)) then (lt (α := Int × Nat × Int) (Qk code x11.2.1 x11.2.2 8) (fun x19 => (lt (α := (List Int) × Nat × Int) (Kl code x19.2.1 x19.2.2) (fun x20 => (lt (α := (List Int) × Nat × Int) (Kl code x20.2.1 x20.2.2) (fun x21 => ((y0.1.1, y0.1.2.1, y0.1.2.2.1, y0.1.2.2.2 ++ [(x19.1, x20.1, x21.1)]), x21.2.1, x21.2.2))))))) else (y0.1, x11.2.1, x11.2.2))))))))))))))))
theorem M6 (code : List UInt8) (x2 : List Y5 × Nat × Int) (w : Yu) (ci : Nat) (ch : Int) : (whl (Ka code x2) 5 (1, w, ci, ch)).isSome = true :=
  BN (fun s => s.1) 5 (fun s s' h0 h => by
    unfold Ka lt at h
    have hb := Qy code s.2.2.1 s.2.2.2 4
    generalize Qk code s.2.2.1 s.2.2.2 4 = x at h hb
    by_cases hc : s.1 < 2 + x.1
    · simp only [decide_eq_true hc, cond_true] at h
      have h := Rd.next.inj h
      rw [← h]
      exact ⟨by omega, rfl⟩
    · simp only [decide_eq_false hc, cond_false] at h
      cases h) 4 _ (by show (0 : Int) ≤ 1; decide) (by show (5 : Int) ≤ 1 + 4; decide)
theorem Gf (code : (List UInt8)) (ci : Nat) (ch : Int) : AGive Tryz.prog 26 [.h code, .i ((ci : Nat) : Int), .i ch] [] (.a [.i ((((Z3 code ci ch)).1).1), .s ((((Z3 code ci ch)).1).2.1), .o 0 ((((Z3 code ci ch)).1).2.2.1), .o 1 ((((Z3 code ci ch)).1).2.2.2)]) [.h code, .i ((((Z3 code ci ch)).2.1 : Nat) : Int), .i (((Z3 code ci ch)).2.2)] := by
 refine Kf (tt := tt) Qb Tryz.func26 (fn := Tryz.f26) rfl (by unfold C9; kernel_rfl) (Nat.le_of_ble_eq_true rfl) (Nat.le_of_ble_eq_true rfl) rfl rfl fun w0 F0 hG => ?_
 refine sn Qb [0, 2] [2, 60000] (p0) ?_
 obtain ⟨x1, hx1⟩ : ∃ z : Q5 × Nat × Int, Zr code ci ch = z := ⟨_, rfl⟩
 refine tn Qb [0, 2, 3] [2, 3, 60000] (po 1 (.give none (.a [.o 0 x1.1.1, .q 1 x1.1.2.1, .i x1.1.2.2]) [.h code, .i ((x1.2.1 : Nat) : Int), .i x1.2.2]) (px (Q2 (hx1 ▸ Dv code ci ch)) p0)) ?_
 obtain ⟨x2, hx2⟩ : ∃ z : (List Y5) × Nat × Int, J9 code x1.2.1 x1.2.2 = z := ⟨_, rfl⟩
 have hbx2 := hx2 ▸ PY code x1.2.1 x1.2.2
 have hnx2 := UH code x1.2.1 x1.2.2
 rw [hx2] at hnx2
 refine tu Qb [(2, .p 2 0), (3, .p 3 0), (4, .h x2.1)] [] [(2, [.i 0, .s ⟨#[]⟩, .e 1, .e 3]), (3, [.o 512 x1.1.1, .q 513 x1.1.2.1, .i x1.1.2.2]), (60000, [.h code, .i ((x2.2.1 : Nat) : Int), .i x2.2.2])] [60000] (po 1 (.give none (.h x2.1) [.h code, .i ((x2.2.1 : Nat) : Int), .i x2.2.2]) (px (Q2 (hx2 ▸ Pe code x1.2.1 x1.2.2)) p0)) ?_
 obtain ⟨x3, hx3⟩ : ∃ z : Int × Nat × Int, Qk code x2.2.1 x2.2.2 3 = z := ⟨_, rfl⟩
 have hbx3 := hx3 ▸ Qy code x2.2.1 x2.2.2 3
 obtain ⟨x4, hx4⟩ : ∃ z : Int × Nat × Int, Qk code x3.2.1 x3.2.2 (x2.1.length : Int) = z := ⟨_, rfl⟩
 have hbx4 := hx4 ▸ Qy code x3.2.1 x3.2.2 (x2.1.length : Int)
 refine wT 4 0 .sh x2.1 (fun hw6 hl7 => ?_)
 have hx5 := ng x2.1 (Int.toNat x4.1)
 refine sN Qb Yn [0, 2, 4, 5] [2, 5, 60000] (po 3 (.give none (.i x3.1) [.h code, .i ((x3.2.1 : Nat) : Int), .i x3.2.2]) (px (Q2 (hx3 ▸ Q7 code x2.2.1 x2.2.2 3)) (pl 7 x2.1 (po 8 (.give none (.i x4.1) [.h code, .i ((x4.2.1 : Nat) : Int), .i x4.2.2]) (px (Q2 (hx4 ▸ Q7 code x3.2.1 x3.2.2 (x2.1.length : Int))) (pg 9 x4.1 hx5 (pc 12 (Hm x1.1 x2.1 x3.1 ((nth x2.1 (Int.toNat x4.1)).1)) p0))))))) ?_
 refine Qe ?_
 refine tn Qb [0, 2, 4, 5, 6] [2, 5, 60000] (p0) ?_
 refine mz [(5, .p 5 0), (6, .i 1)] [3] [(5, [.i ((Yj x1.1 x2.1 x3.1 ((nth x2.1 (Int.toNat x4.1)).1)).1), .s ((Yj x1.1 x2.1 x3.1 ((nth x2.1 (Int.toNat x4.1)).1)).2.1), .o 1472 ((Yj x1.1 x2.1 x3.1 ((nth x2.1 (Int.toNat x4.1)).1)).2.2.1), .o 1473 ((Yj x1.1 x2.1 x3.1 ((nth x2.1 (Int.toNat x4.1)).1)).2.2.2)]), (60000, [.h code, .i ((x4.2.1 : Nat) : Int), .i x4.2.2])] [3, 60000] ?_
 refine blw (fun (s0 : Int × Yu × Nat × Int) => [(6, .i s0.1)]) [6] (fun s0 => [(5, [.i s0.2.1.1, .s s0.2.1.2.1, .o 147211 s0.2.1.2.2.1, .o 147212 s0.2.1.2.2.2]), (60000, [.h code, .i ((s0.2.2.1 : Nat) : Int), .i s0.2.2.2])]) [5, 60000] (fun (y0 : Yu × Nat × Int) => []) [4, 6] (fun y0 => [(5, [.i y0.1.1, .s y0.1.2.1, .o 147361 y0.1.2.2.1, .o 147362 y0.1.2.2.2]), (60000, [.h code, .i ((y0.2.1 : Nat) : Int), .i y0.2.2])]) [5, 60000] (fun (k0 : Nat) (s0 : Int × Yu × Nat × Int) => whl (Ka code x2) k0 s0 = some (E0 (Ka code x2) 5 (1, (Yj x1.1 x2.1 x3.1 ((nth x2.1 (Int.toNat x4.1)).1)), x4.2.1, x4.2.2)) ∧ W29 s0.1 s0.2.1) (fun (y0 : Yu × Nat × Int) => (E0 (Ka code x2) 5 (1, (Yj x1.1 x2.1 x3.1 ((nth x2.1 (Int.toNat x4.1)).1)), x4.2.1, x4.2.2)) = .brk y0 ∧ List.length y0.1.2.2.2 ≤ 1795) 5 (1, (Yj x1.1 x2.1 x3.1 ((nth x2.1 (Int.toNat x4.1)).1)), x4.2.1, x4.2.2) (Xy [(1472, 147211), (1473, 147212)] (by kernel_rfl)) ⟨Ca (M6 code x2 _ _ _), (by exact UJ (hnx2 _))⟩ (fun _ h => Dn h.1) (fun k0 s0 hI0 => ?_) (fun y0 hD0 => ?_)
 ·
  have hA0_0 := hI0.2
  have hws := QI hA0_0
  have hwp := TP hA0_0
  have hse := Pm s0.2.1
  refine Qe ?_
  obtain ⟨x8, hx8⟩ : ∃ z : Int × Nat × Int, Qk code s0.2.2.1 s0.2.2.2 4 = z := ⟨_, rfl⟩
  have hbx8 := hx8 ▸ Qy code s0.2.2.1 s0.2.2.2 4
  refine sn Qb [0, 2, 4, 5, 6, 28] [2, 5, 60000] (po 2 (.give none (.i x8.1) [.h code, .i ((x8.2.1 : Nat) : Int), .i x8.2.2]) (px (Q2 (hx8 ▸ Q7 code s0.2.2.1 s0.2.2.2 4)) (pe 3 (Jb (IntWalk.i64_in (2 + x8.1) (by omega))) p0))) ?_
  refine ck (decide (s0.1 < (2 + x8.1))) (fun h9 => ?_) (fun h9 => ?_)
  ·
   have h9d := of_decide_eq_true h9
   refine Qj ?_
   refine Qe ?_
   refine Qt ?_
   obtain ⟨x10, hx10⟩ : ∃ z : Q5 × Nat × Int, Zr code x8.2.1 x8.2.2 = z := ⟨_, rfl⟩
   refine qN Qb Yn [0, 2, 4, 5, 6] [2, 5, 60000] (po 3 (.give none (.a [.o 0 x10.1.1, .q 1 x10.1.2.1, .i x10.1.2.2]) [.h code, .i ((x10.2.1 : Nat) : Int), .i x10.2.2]) (px (Q2 (hx10 ▸ Dv code x8.2.1 x8.2.2)) (pc 5 (Ab s0.2.1 s0.1 x10.1 x2.1 (by omega)) p0))) ?_
   refine qu Qb [(6, .i (s0.1 + 1))] [6] [(5, [.i ((Zg s0.2.1 s0.1 x10.1 x2.1).1), .s ((Zg s0.2.1 s0.1 x10.1 x2.1).2.1), .o 2304 ((Zg s0.2.1 s0.1 x10.1 x2.1).2.2.1), .o 2305 ((Zg s0.2.1 s0.1 x10.1 x2.1).2.2.2)]), (60000, [.h code, .i ((x10.2.1 : Nat) : Int), .i x10.2.2])] [5, 60000] (pe 1 (Jb (IntWalk.i64_in (s0.1 + 1) (by omega))) p0) ?_
   exact Exists.intro ((s0.1 + 1), (Zg s0.2.1 s0.1 x10.1 x2.1), x10.2.1, x10.2.2) (And.intro (Xy [(2304, 147211), (2305, 147212)] (by kernel_rfl)) ⟨wn hI0.1 (Ys hx8 (Q8 h9 (Ys hx10 (rfl)))), (by exact CW hA0_0 (by omega))⟩)
  ·
   have h9d := of_decide_eq_false h9
   refine Q3 ?_
   exact Exists.intro (s0.2.1, x8.2.1, x8.2.2) (And.intro (Xy [(147211, 147361), (147212, 147362)] (by kernel_rfl)) ⟨wb hI0.1 (Ys hx8 (Qn h9 (rfl))), by first | omega | (simp only [List.length_set]; omega)⟩)
 ·
  have hD0_0 := hD0.2
  refine Qe ?_
  obtain ⟨x11, hx11⟩ : ∃ z : Int × Nat × Int, Qk code y0.2.1 y0.2.2 10 = z := ⟨_, rfl⟩
  have hbx11 := hx11 ▸ Qy code y0.2.1 y0.2.2 10
  refine sn Qb [0, 2, 5, 38] [2, 5, 60000] (po 1 (.give none (.i x11.1) [.h code, .i ((x11.2.1 : Nat) : Int), .i x11.2.2]) (px (Q2 (hx11 ▸ Q7 code y0.2.1 y0.2.2 10)) p0)) ?_
  refine Qt ?_
  refine tn Qb [0, 2, 5, 38, 39] [2, 5, 60000] (p0) ?_
  refine ck (x11.1 == (0 : Int)) (fun h12 => ?_) (fun h12 => ?_)
  ·
   obtain ⟨x13, hx13⟩ : ∃ z : (List Int) × Nat × Int, Kl code x11.2.1 x11.2.2 = z := ⟨_, rfl⟩
   refine qu Qb [] [] [(5, [.i y0.1.1, .s y0.1.2.1, .o 2688 x13.1, .o 147362 y0.1.2.2.2]), (60000, [.h code, .i ((x13.2.1 : Nat) : Int), .i x13.2.2])] [5, 60000] (po 1 (.give none (.o 0 x13.1) [.h code, .i ((x13.2.1 : Nat) : Int), .i x13.2.2]) (px (Q2 (hx13 ▸ Fv code x11.2.1 x11.2.2)) p0)) ?_
   refine sn Qb [0, 2] [2, 60000] (p0) ?_
   refine Qf ?_
   have hE14 : Z3 code ci ch = ((y0.1.1, y0.1.2.1, x13.1, y0.1.2.2.2), x13.2.1, x13.2.2) := Ys hx1 (Ys hx2 (Ys hx3 (Ys hx4 (Wf hD0.1 (Ys hx11 (Q8 h12 (Ys hx13 (rfl))))))))
   exact He [] (congrArg (fun z => (.a [.i z.1.1, .s z.1.2.1, .o 0 z.1.2.2.1, .o 1 z.1.2.2.2] : AV)) hE14.symm) (congrArg (fun z => ([.h code, .i ((z.2.1 : Nat) : Int), .i z.2.2] : List C)) hE14.symm)
  ·
   have h12d := Yb h12
   refine tu Qb [(38, .i x11.1), (44, .b (x11.1 == (1 : Int)))] [] [(60000, [.h code, .i ((x11.2.1 : Nat) : Int), .i x11.2.2])] [60000] (p0) ?_
   refine ck (x11.1 == (1 : Int)) (fun h15 => ?_) (fun h15 => ?_)
   ·
    obtain ⟨x16, hx16⟩ : ∃ z : Int × Nat × Int, H7 code x11.2.1 x11.2.2 = z := ⟨_, rfl⟩
    refine rn Qb [0, 2, 5] [2, 5, 60000] (po 1 (.give none (.i x16.1) [.h code, .i ((x16.2.1 : Nat) : Int), .i x16.2.2]) (px (Q2 (hx16 ▸ Pf code x11.2.1 x11.2.2)) p0)) ?_
    refine tn Qb [0, 2] [2, 60000] (p0) ?_
    refine Qf ?_
    have hE17 : Z3 code ci ch = ((x16.1, y0.1.2.1, y0.1.2.2.1, y0.1.2.2.2), x16.2.1, x16.2.2) := Ys hx1 (Ys hx2 (Ys hx3 (Ys hx4 (Wf hD0.1 (Ys hx11 (Qn h12 (Q8 h15 (Ys hx16 (rfl)))))))))
    exact He [] (congrArg (fun z => (.a [.i z.1.1, .s z.1.2.1, .o 0 z.1.2.2.1, .o 1 z.1.2.2.2] : AV)) hE17.symm) (congrArg (fun z => ([.h code, .i ((z.2.1 : Nat) : Int), .i z.2.2] : List C)) hE17.symm)
   ·
    have h15d := Yb h15
    refine sn Qb [0, 2, 5, 49] [2, 5, 60000] (p0) ?_
    refine ck (x11.1 == (2 : Int)) (fun h18 => ?_) (fun h18 => ?_)
    ·
     have h18d := eq_of_beq h18
     obtain ⟨x19, hx19⟩ : ∃ z : Int × Nat × Int, Qk code x11.2.1 x11.2.2 8 = z := ⟨_, rfl⟩
     have hbx19 := hx19 ▸ Qy code x11.2.1 x11.2.2 8
     obtain ⟨x20, hx20⟩ : ∃ z : (List Int) × Nat × Int, Kl code x19.2.1 x19.2.2 = z := ⟨_, rfl⟩
     obtain ⟨x21, hx21⟩ : ∃ z : (List Int) × Nat × Int, Kl code x20.2.1 x20.2.2 = z := ⟨_, rfl⟩
     refine wB 5 3 (.own true 147362) y0.1.2.2.2 (fun hw22 hl23 => ?_)
     refine qU Qb Yn [] [38, 44] [(5, [.i y0.1.1, .s y0.1.2.1, .o 147361 y0.1.2.2.1, .slc (.own true 3904) 3 ((eL y0.1.2.2.2) ++ [[.i x19.1, .h x20.1, .h x21.1]])]), (60000, [.h code, .i ((x21.2.1 : Nat) : Int), .i x21.2.2])] [5, 60000] (po 3 (.give none (.i x19.1) [.h code, .i ((x19.2.1 : Nat) : Int), .i x19.2.2]) (px (Q2 (hx19 ▸ Q7 code x11.2.1 x11.2.2 8)) (po 5 (.give none (.o 0 x20.1) [.h code, .i ((x20.2.1 : Nat) : Int), .i x20.2.2]) (px (Q2 (hx20 ▸ Fv code x19.2.1 x19.2.2)) (po 7 (.give none (.o 0 x21.1) [.h code, .i ((x21.2.1 : Nat) : Int), .i x21.2.2]) (px (Q2 (hx21 ▸ Fv code x20.2.1 x20.2.2)) (pa y0.1.2.2.2 [(x19.1, x20.1, x21.1)] p0))))))) ?_
     refine eqn [] [] [(5, [.i y0.1.1, .s y0.1.2.1, .o 147361 y0.1.2.2.1, .o 3904 (y0.1.2.2.2 ++ [(x19.1, x20.1, x21.1)])])] [5] (by rw [show ((eL y0.1.2.2.2) ++ [[.i x19.1, .h x20.1, .h x21.1]]) = (eL (y0.1.2.2.2 ++ [(x19.1, x20.1, x21.1)])) from Ky (rfl) (rfl)]; first | done | kernel_rfl) ?_
     refine sn Qb [0, 2] [2, 60000] (p0) ?_
     refine Qf ?_
     have hE24 : Z3 code ci ch = ((y0.1.1, y0.1.2.1, y0.1.2.2.1, y0.1.2.2.2 ++ [(x19.1, x20.1, x21.1)]), x21.2.1, x21.2.2) := Ys hx1 (Ys hx2 (Ys hx3 (Ys hx4 (Wf hD0.1 (Ys hx11 (Qn h12 (Qn h15 (Q8 h18 (Ys hx19 (Ys hx20 (Ys hx21 (rfl))))))))))))
     exact He [] (congrArg (fun z => (.a [.i z.1.1, .s z.1.2.1, .o 0 z.1.2.2.1, .o 1 z.1.2.2.2] : AV)) hE24.symm) (congrArg (fun z => ([.h code, .i ((z.2.1 : Nat) : Int), .i z.2.2] : List C)) hE24.symm)
    ·
     refine Qj ?_
     refine tn Qb [0, 2] [2, 60000] (p0) ?_
     refine Qf ?_
     have hE25 : Z3 code ci ch = (y0.1, x11.2.1, x11.2.2) := Ys hx1 (Ys hx2 (Ys hx3 (Ys hx4 (Wf hD0.1 (Ys hx11 (Qn h12 (Qn h15 (Qn h18 (rfl)))))))))
     exact He [] (congrArg (fun z => (.a [.i z.1.1, .s z.1.2.1, .o 0 z.1.2.2.1, .o 1 z.1.2.2.2] : AV)) hE25.symm) (congrArg (fun z => ([.h code, .i ((z.2.1 : Nat) : Int), .i z.2.2] : List C)) hE25.symm)
def Qg (code : (List UInt8)) : Yu × Int := (lt (α := Nat × Int) (K4 code) (fun x1 => (lt (α := Yu × Nat × Int) (Z3 code x1.1 x1.2) (fun x2 => (lt (α := Int × Nat × Int) (Hl code x2.2.1 x2.2.2) (fun x3 => (x2.1, x3.1)))))))
theorem L7 (code : (List UInt8)) : ACalls Tryz.prog 9 [.h code] (.tup [(true, [.i ((((Qg code)).1).1), .s ((((Qg code)).1).2.1), .o 0 ((((Qg code)).1).2.2.1), .o 1 ((((Qg code)).1).2.2.2)]), (false, [.i (((Qg code)).2)])]) := by
 refine en Qb Tryz.func9 fun w0 F0 hG => ?_
 refine sn Qb [0, 2, 3] [2] (p0) ?_
 obtain ⟨x1, hx1⟩ : ∃ z : Nat × Int, K4 code = z := ⟨_, rfl⟩
 refine tn Qb [2, 3, 4] [2, 6] (po 1 (.new [.h code, .i ((x1.1 : Nat) : Int), .i x1.2]) (px (VG (hx1 ▸ D6 code)) p0)) ?_
 obtain ⟨x2, hx2⟩ : ∃ z : Yu × Nat × Int, Z3 code x1.1 x1.2 = z := ⟨_, rfl⟩
 obtain ⟨x3, hx3⟩ : ∃ z : Int × Nat × Int, Hl code x2.2.1 x2.2.2 = z := ⟨_, rfl⟩
 refine tu Qb [(2, .p 2 0), (3, .i x3.1)] [0] [(2, [.i x2.1.1, .s x2.1.2.1, .o 512 x2.1.2.2.1, .o 513 x2.1.2.2.2])] [] (po 1 (.give none (.a [.i x2.1.1, .s x2.1.2.1, .o 0 x2.1.2.2.1, .o 1 x2.1.2.2.2]) [.h code, .i ((x2.2.1 : Nat) : Int), .i x2.2.2]) (px (Q2 (hx2 ▸ Gf code x1.1 x1.2)) (po 3 (.give none (.i x3.1) [.h code, .i ((x3.2.1 : Nat) : Int), .i x3.2.2]) (px (Q2 (hx3 ▸ R2 code x2.2.1 x2.2.2)) p0)))) ?_
 refine Qf ?_
 exact pz [] (show Qg code = _ from Ys hx1 (Ys hx2 (Ys hx3 (rfl)))) (fun z => .tup [(true, [.i z.1.1, .s z.1.2.1, .o 0 z.1.2.2.1, .o 1 z.1.2.2.2]), (false, [.i z.2])])
def Cx (l : (List Int)) (k0 : Nat) (_ : Unit) : Rd (Bool) (Unit) (Unit) := (bif decide ((nth l (Int.toNat (((k0 + 1 : Nat) : Int) - 1))) ≥ (nth l (k0 + 1))) then (.ret false) else (.next ()))
def Cy (_ : Nat) (_ : Unit) : Unit := ()
def Ye (l : (List Int)) : Bool := (Out.on (Vz (Cx l) Cy (l.length - 1) 0 ()) (fun _ => true))
theorem Yz (l : (List Int)) : ACalls Tryz.prog 44 [.h l] (.b (Ye l)) := by
 refine en Qb Tryz.func44 fun w0 F0 hG => ?_
 refine sn Qb [0, 2] [] (p0) ?_
 refine Qe ?_
 refine tn Qb [0, 2, 3] [] (p0) ?_
 refine mz [(2, .b false), (3, .i 1)] [] [] [] ?_
 refine wT 0 0 .sh l (fun hw1 hl2 => ?_)
 refine Qal (Cx l) Cy (l.length - 1) () (fun k0 _ => [(3, .i ((k0 + 1 : Nat) : Int))]) [3] (fun _ => []) [0, 3] (Qd (by kernel_rfl)) (fun k0 s0 hk0 hI0 => ?_) (fun k0 s0 hk0 hI0 => ?_) (fun y0 hD0 => ?_)
 ·
  refine Qe ?_
  refine sn Qb [0, 2, 3, 7] [] (pl 2 l (pe 3 (Qs (decide_eq_true (p := ((k0 + 1 : Nat) : Int) < (l.length : Int)) (by omega))) p0)) ?_
  refine ckT ?_
  refine Qj ?_
  refine Qe ?_
  refine Qt ?_
  have hx3 := ng l (Int.toNat (((k0 + 1 : Nat) : Int) - 1))
  have hx4 := ng l (k0 + 1)
  refine tN Qb Yn [0, 2, 3, 19] [] (pe 2 (Jb (IntWalk.i64_in (((k0 + 1 : Nat) : Int) - 1) (by omega))) (pg 3 (((k0 + 1 : Nat) : Int) - 1) hx3 (pg 7 ((k0 + 1 : Nat) : Int) hx4 p0))) ?_
  refine ck (decide ((nth l (Int.toNat (((k0 + 1 : Nat) : Int) - 1))) ≥ (nth l (k0 + 1)))) (fun h5 => ?_) (fun h5 => ?_)
  ·
   refine tu Qb [] [] [] [] (p0) ?_
   refine Qf ?_
   have hr6 : (Vz (Cx l) Cy (l.length - 1) 0 ()) = .ret false := Sa hk0 (Q8 h5 (rfl)) hI0
   exact pb [] (Gu hr6)
  ·
   have h5d := of_decide_eq_false h5
   refine Qj ?_
   refine qu Qb [(3, .i ((k0 + 2 : Nat) : Int))] [3] [] [] (pe 1 (show .i (IntKind.i64.wrap (((k0 + 1 : Nat) : Int) + 1)) = .i ((k0 + 2 : Nat) : Int) from Jb ((IntWalk.i64_in _ (by omega)).trans (by omega))) p0) ?_
   exact Exists.intro _ (And.intro (Qd (by kernel_rfl)) (K3 hk0 (Qn h5 (rfl)) hI0))
 ·
  refine Qe ?_
  refine sn Qb [0, 2, 3, 7] [] (pl 2 l (pe 3 (Qs (decide_eq_false (p := ((k0 + 1 : Nat) : Int) < (l.length : Int)) (by omega))) p0)) ?_
  refine ckF ?_
  refine Q3 ?_
  exact Exists.intro _ (And.intro (Qd (by kernel_rfl)) (A5 hk0 (rfl) hI0))
 ·
  refine sn Qb [2] [] (p0) ?_
  refine Qf ?_
  exact pb [] (Wf hD0 (rfl))
def Jp (w : Yu) (k0 : Nat) (a0 : Yp) (_ : Unit) : Rd (Bool) (Unit) (Unit) := (bif ((!(Ye a0.2.1)) || ((!(Ye a0.2.2)) || ((IntKind.i64.wrap ((a0.2.1.length : Int) + (a0.2.2.length : Int)) == (0 : Int)) || (bif decide (((k0 : Nat) : Int) > (0 : Int)) then (decide ((nth w.2.2.2 (Int.toNat (((k0 : Nat) : Int) - 1))).1 ≥ a0.1) || ((((less a0.2.1 (Qp w.2.2.1 (List.take k0 w.2.2.2))).length : Int) != (a0.2.1.length : Int)) || (((less a0.2.2 (Qp w.2.2.1 (List.take k0 w.2.2.2))).length : Int) != (0 : Int)))) else ((((less a0.2.1 (Qp w.2.2.1 (List.take k0 w.2.2.2))).length : Int) != (a0.2.1.length : Int)) || (((less a0.2.2 (Qp w.2.2.1 (List.take k0 w.2.2.2))).length : Int) != (0 : Int))))))) then (.ret false) else (.next ()))
def W6 (_ : Nat) (_ : Unit) : Unit := ()
def Yo (w : Yu) : Bool := (bif ((!(Zz w.1)) || (!(Ye w.2.2.1))) then false else (Out.on (Xm (Jp w) W6 w.2.2.2 0 ()) (fun _ => true)))
theorem Fz (w : Yu) (hp : GoD.size w ≤ 268435456) : ACalls Tryz.prog 20 [.a [.i w.1, .s w.2.1, .h w.2.2.1, .h w.2.2.2]] (.b (Yo w)) := by
 refine en Qb Tryz.func20 fun w0 F0 hG => ?_
 refine sn Qb [1, 2] [1] (p0) ?_
 refine Qe ?_
 refine Qe ?_
 refine mz [(1, .p 1 0), (2, .b false)] [0] [(1, [.i w.1, .s w.2.1, .h w.2.2.1, .h w.2.2.2])] [] ?_
 refine jn [(15, .b ((!(Zz w.1)) || (!(Ye w.2.2.1))))] [] [] [] (!(Zz w.1)) (fun h1 => ?_) (fun h1 => ?_) ?_
 ·
  have h1n : (Zz w.1) = false := Wz h1
  refine rn Qb [1, 2, 15] [1] (pc 2 (cb h1n (Uk w.1)) (pe 3 (show .b (!false) = .b true from rfl) p0)) ?_
  exact ⟨rfl, Qd (by rw [h1]; first | done | kernel_rfl)⟩
 ·
  have h1n : (Zz w.1) = true := Je h1
  refine rn Qb [1, 2, 15] [1] (pc 2 (cb h1n (Uk w.1)) (pe 3 (show .b (!true) = .b false from rfl) (pc 7 (Yz w.2.2.1) p0))) ?_
  exact ⟨rfl, Qd (by rw [h1]; first | done | kernel_rfl)⟩
 refine ck ((!(Zz w.1)) || (!(Ye w.2.2.1))) (fun h2 => ?_) (fun h2 => ?_)
 ·
  refine sn Qb [1, 2] [1] (p0) ?_
  refine Qf ?_
  exact pb [] (Q8 h2 (rfl))
 ·
  refine Qj ?_
  refine Qe ?_
  refine sn Qb [1, 2, 17, 18, 19] [1] (pl 2 w.2.2.2 p0) ?_
  refine mz [(17, .h w.2.2.2), (18, .i (w.2.2.2.length : Int)), (19, .i 0)] [15] [] [] ?_
  refine wT 17 0 .sh w.2.2.2 (fun hw3 hl4 => ?_)
  refine SL (Jp w) W6 w.2.2.2 () (fun k0 _ => [(19, .i ((k0 : Nat) : Int))]) [19] (fun _ _ => []) [] (fun _ => []) [1, 17, 18, 19] (fun _ => []) [1] (Qd (by kernel_rfl)) (fun k0 s0 hk0 hI0 => ?_) (fun k0 s0 hk0 hI0 => ?_) (fun y0 hD0 => ?_)
  ·
   obtain ⟨a0, hx0⟩ := Xk (l := w.2.2.2) (i := k0) hk0
   refine su Qb [(20, .b true)] [] [] [] (pe 0 (Qs (decide_eq_true (p := ((k0 : Nat) : Int) < (w.2.2.2.length : Int)) (by omega))) p0) ?_
   refine Qe ?_
   refine ckT ?_
   refine Qj ?_
   refine Qe ?_
   refine Qt ?_
   refine sn Qb [1, 2, 3, 4, 17, 18, 19] [1, 4] (pn 1 hx0 p0) ?_
   refine tN Qb Yn [1, 2, 3, 4, 5, 17, 18, 19] [1, 4] (pe 5 (Lk .sh 3 k0 ((k0 : Nat) : Int) w.2.2.2 rfl) (px (Ek (lo := 0) (hi := ((k0 : Nat) : Int)) (n := (List.length (eL w.2.2.2))) (Tj (by omega) (by omega) (by omega))) (pc 6 (Us w.2.2.1 (List.take k0 w.2.2.2) (by have hz := Vp w; have hq := L4 w.2.2.2 k0; omega)) p0))) ?_
   refine Qe ?_
   refine mz [(3, .i ((k0 : Nat) : Int)), (4, .p 4 0), (5, .o 1920 (Qp w.2.2.1 (List.take k0 w.2.2.2)))] [20] [(4, [.i a0.1, .h a0.2.1, .h a0.2.2])] [] ?_
   refine jn [(85, .b ((!(Ye a0.2.1)) || ((!(Ye a0.2.2)) || ((IntKind.i64.wrap ((a0.2.1.length : Int) + (a0.2.2.length : Int)) == (0 : Int)) || (bif decide (((k0 : Nat) : Int) > (0 : Int)) then (decide ((nth w.2.2.2 (Int.toNat (((k0 : Nat) : Int) - 1))).1 ≥ a0.1) || ((((less a0.2.1 (Qp w.2.2.1 (List.take k0 w.2.2.2))).length : Int) != (a0.2.1.length : Int)) || (((less a0.2.2 (Qp w.2.2.1 (List.take k0 w.2.2.2))).length : Int) != (0 : Int)))) else ((((less a0.2.1 (Qp w.2.2.1 (List.take k0 w.2.2.2))).length : Int) != (a0.2.1.length : Int)) || (((less a0.2.2 (Qp w.2.2.1 (List.take k0 w.2.2.2))).length : Int) != (0 : Int))))))))] [3, 4, 5] [] [4] (!(Ye a0.2.1)) (fun h5 => ?_) (fun h5 => ?_) ?_
   ·
    have h5n : (Ye a0.2.1) = false := Wz h5
    refine rN Qb Yn [1, 2, 17, 18, 19, 85] [1] (pc 2 (cb h5n (Yz a0.2.1)) (pe 3 (show .b (!false) = .b true from rfl) p0)) ?_
    exact ⟨rfl, Qd (by rw [h5]; first | done | kernel_rfl)⟩
   ·
    have h5n : (Ye a0.2.1) = true := Je h5
    refine Xb (!(Ye a0.2.2)) (fun h6 => ?_) (fun h6 => ?_)
    ·
     have h6n : (Ye a0.2.2) = false := Wz h6
     refine rN Qb Yn [1, 2, 17, 18, 19, 85] [1] (pc 2 (cb h5n (Yz a0.2.1)) (pe 3 (show .b (!true) = .b false from rfl) (pc 7 (cb h6n (Yz a0.2.2)) (pe 8 (show .b (!false) = .b true from rfl) p0)))) ?_
     exact ⟨rfl, Qd (by rw [h5, h6]; first | done | kernel_rfl)⟩
    ·
     have h6n : (Ye a0.2.2) = true := Je h6
     refine Xb (IntKind.i64.wrap ((a0.2.1.length : Int) + (a0.2.2.length : Int)) == (0 : Int)) (fun h7 => ?_) (fun h7 => ?_)
     ·
      refine rN Qb Yn [1, 2, 17, 18, 19, 85] [1] (pc 2 (cb h5n (Yz a0.2.1)) (pe 3 (show .b (!true) = .b false from rfl) (pc 7 (cb h6n (Yz a0.2.2)) (pe 8 (show .b (!true) = .b false from rfl) (pl 13 a0.2.1 (pl 16 a0.2.2 (pt 18 h7 p0))))))) ?_
      exact ⟨rfl, Qd (by rw [h5, h6, h7]; first | done | kernel_rfl)⟩
     ·
      have h7d := Yb h7
      refine Xb (decide (((k0 : Nat) : Int) > (0 : Int))) (fun h8 => ?_) (fun h8 => ?_)
      ·
       have h8d := of_decide_eq_true h8
       refine Xb (decide ((nth w.2.2.2 (Int.toNat (((k0 : Nat) : Int) - 1))).1 ≥ a0.1)) (fun h9 => ?_) (fun h9 => ?_)
       ·
        have h9d := of_decide_eq_true h9
        have hx10 := ng w.2.2.2 (Int.toNat (((k0 : Nat) : Int) - 1))
        refine rN Qb Yn [1, 2, 17, 18, 19, 85] [1] (pc 2 (cb h5n (Yz a0.2.1)) (pe 3 (show .b (!true) = .b false from rfl) (pc 7 (cb h6n (Yz a0.2.2)) (pe 8 (show .b (!true) = .b false from rfl) (pl 13 a0.2.1 (pl 16 a0.2.2 (pf 18 h7 (pt 22 h8 (pe 27 (Jb (IntWalk.i64_in (((k0 : Nat) : Int) - 1) (by omega))) (pg 28 (((k0 : Nat) : Int) - 1) hx10 (pt 33 h9 p0))))))))))) ?_
        exact ⟨rfl, Qd (by rw [h5, h6, h7, h8, h9]; first | done | kernel_rfl)⟩
       ·
        have h9d := of_decide_eq_false h9
        refine Xb (((less a0.2.1 (Qp w.2.2.1 (List.take k0 w.2.2.2))).length : Int) != (a0.2.1.length : Int)) (fun h11 => ?_) (fun h11 => ?_)
        ·
         have h11d := Ll h11
         have hx12 := ng w.2.2.2 (Int.toNat (((k0 : Nat) : Int) - 1))
         refine wB 4 1 .sh a0.2.1 (fun hw13 hl14 => ?_)
         refine rN Qb Yn [1, 2, 17, 18, 19, 85] [1] (pc 2 (cb h5n (Yz a0.2.1)) (pe 3 (show .b (!true) = .b false from rfl) (pc 7 (cb h6n (Yz a0.2.2)) (pe 8 (show .b (!true) = .b false from rfl) (pl 13 a0.2.1 (pl 16 a0.2.2 (pf 18 h7 (pt 22 h8 (pe 27 (Jb (IntWalk.i64_in (((k0 : Nat) : Int) - 1) (by omega))) (pg 28 (((k0 : Nat) : Int) - 1) hx12 (pf 33 h9 (pc 40 ((Up hl14) ▸ Wo a0.2.1 (Qp w.2.2.1 (List.take k0 w.2.2.2))) (pl 41 (less a0.2.1 (Qp w.2.2.1 (List.take k0 w.2.2.2))) (pl 44 a0.2.1 (pt 45 h11 p0))))))))))))))) ?_
         exact ⟨rfl, Qd (by rw [h5, h6, h7, h8, h9, h11]; first | done | kernel_rfl)⟩
        ·
         have h11d := We h11
         have hx15 := ng w.2.2.2 (Int.toNat (((k0 : Nat) : Int) - 1))
         refine wB 4 1 .sh a0.2.1 (fun hw16 hl17 => ?_)
         refine wB 4 2 .sh a0.2.2 (fun hw18 hl19 => ?_)
         refine rN Qb Yn [1, 2, 17, 18, 19, 85] [1] (pc 2 (cb h5n (Yz a0.2.1)) (pe 3 (show .b (!true) = .b false from rfl) (pc 7 (cb h6n (Yz a0.2.2)) (pe 8 (show .b (!true) = .b false from rfl) (pl 13 a0.2.1 (pl 16 a0.2.2 (pf 18 h7 (pt 22 h8 (pe 27 (Jb (IntWalk.i64_in (((k0 : Nat) : Int) - 1) (by omega))) (pg 28 (((k0 : Nat) : Int) - 1) hx15 (pf 33 h9 (pc 40 ((Up hl17) ▸ Wo a0.2.1 (Qp w.2.2.1 (List.take k0 w.2.2.2))) (pl 41 (less a0.2.1 (Qp w.2.2.1 (List.take k0 w.2.2.2))) (pl 44 a0.2.1 (pf 45 h11 (pc 51 ((Up hl19) ▸ Wo a0.2.2 (Qp w.2.2.1 (List.take k0 w.2.2.2))) (pl 52 (less a0.2.2 (Qp w.2.2.1 (List.take k0 w.2.2.2))) p0))))))))))))))))) ?_
         exact ⟨rfl, Qd (by rw [h5, h6, h7, h8, h9, h11]; first | done | kernel_rfl)⟩
      ·
       refine Xb (((less a0.2.1 (Qp w.2.2.1 (List.take k0 w.2.2.2))).length : Int) != (a0.2.1.length : Int)) (fun h20 => ?_) (fun h20 => ?_)
       ·
        refine wB 4 1 .sh a0.2.1 (fun hw21 hl22 => ?_)
        refine rN Qb Yn [1, 2, 17, 18, 19, 85] [1] (pc 2 (cb h5n (Yz a0.2.1)) (pe 3 (show .b (!true) = .b false from rfl) (pc 7 (cb h6n (Yz a0.2.2)) (pe 8 (show .b (!true) = .b false from rfl) (pl 13 a0.2.1 (pl 16 a0.2.2 (pf 18 h7 (pf 22 h8 (pc 40 ((Up hl22) ▸ Wo a0.2.1 (Qp w.2.2.1 (List.take k0 w.2.2.2))) (pl 41 (less a0.2.1 (Qp w.2.2.1 (List.take k0 w.2.2.2))) (pl 44 a0.2.1 (pt 45 h20 p0)))))))))))) ?_
        exact ⟨rfl, Qd (by rw [h5, h6, h7, h8, h20]; first | done | kernel_rfl)⟩
       ·
        refine wB 4 1 .sh a0.2.1 (fun hw23 hl24 => ?_)
        refine wB 4 2 .sh a0.2.2 (fun hw25 hl26 => ?_)
        refine rN Qb Yn [1, 2, 17, 18, 19, 85] [1] (pc 2 (cb h5n (Yz a0.2.1)) (pe 3 (show .b (!true) = .b false from rfl) (pc 7 (cb h6n (Yz a0.2.2)) (pe 8 (show .b (!true) = .b false from rfl) (pl 13 a0.2.1 (pl 16 a0.2.2 (pf 18 h7 (pf 22 h8 (pc 40 ((Up hl24) ▸ Wo a0.2.1 (Qp w.2.2.1 (List.take k0 w.2.2.2))) (pl 41 (less a0.2.1 (Qp w.2.2.1 (List.take k0 w.2.2.2))) (pl 44 a0.2.1 (pf 45 h20 (pc 51 ((Up hl26) ▸ Wo a0.2.2 (Qp w.2.2.1 (List.take k0 w.2.2.2))) (pl 52 (less a0.2.2 (Qp w.2.2.1 (List.take k0 w.2.2.2))) p0)))))))))))))) ?_
        exact ⟨rfl, Qd (by rw [h5, h6, h7, h8, h20]; first | done | kernel_rfl)⟩
   refine ck ((!(Ye a0.2.1)) || ((!(Ye a0.2.2)) || ((IntKind.i64.wrap ((a0.2.1.length : Int) + (a0.2.2.length : Int)) == (0 : Int)) || (bif decide (((k0 : Nat) : Int) > (0 : Int)) then (decide ((nth w.2.2.2 (Int.toNat (((k0 : Nat) : Int) - 1))).1 ≥ a0.1) || ((((less a0.2.1 (Qp w.2.2.1 (List.take k0 w.2.2.2))).length : Int) != (a0.2.1.length : Int)) || (((less a0.2.2 (Qp w.2.2.1 (List.take k0 w.2.2.2))).length : Int) != (0 : Int)))) else ((((less a0.2.1 (Qp w.2.2.1 (List.take k0 w.2.2.2))).length : Int) != (a0.2.1.length : Int)) || (((less a0.2.2 (Qp w.2.2.1 (List.take k0 w.2.2.2))).length : Int) != (0 : Int))))))) (fun h27 => ?_) (fun h27 => ?_)
   ·
    refine su Qb [] [85] [] [] (p0) ?_
    refine Qf ?_
    have hr28 : (Xm (Jp w) W6 w.2.2.2 0 ()) = .ret false := Z1 hx0 (Q8 h27 (rfl)) hI0
    exact pb [] (Qn h2 (Gu hr28))
   ·
    have h27r : (((!(Ye a0.2.2)) || ((IntKind.i64.wrap ((a0.2.1.length : Int) + (a0.2.2.length : Int)) == (0 : Int)) || (bif decide (((k0 : Nat) : Int) > (0 : Int)) then (decide ((nth w.2.2.2 (Int.toNat (((k0 : Nat) : Int) - 1))).1 ≥ a0.1) || ((((less a0.2.1 (Qp w.2.2.1 (List.take k0 w.2.2.2))).length : Int) != (a0.2.1.length : Int)) || (((less a0.2.2 (Qp w.2.2.1 (List.take k0 w.2.2.2))).length : Int) != (0 : Int)))) else ((((less a0.2.1 (Qp w.2.2.1 (List.take k0 w.2.2.2))).length : Int) != (a0.2.1.length : Int)) || (((less a0.2.2 (Qp w.2.2.1 (List.take k0 w.2.2.2))).length : Int) != (0 : Int))))))) = false := I0 h27
    have h27rr : (((IntKind.i64.wrap ((a0.2.1.length : Int) + (a0.2.2.length : Int)) == (0 : Int)) || (bif decide (((k0 : Nat) : Int) > (0 : Int)) then (decide ((nth w.2.2.2 (Int.toNat (((k0 : Nat) : Int) - 1))).1 ≥ a0.1) || ((((less a0.2.1 (Qp w.2.2.1 (List.take k0 w.2.2.2))).length : Int) != (a0.2.1.length : Int)) || (((less a0.2.2 (Qp w.2.2.1 (List.take k0 w.2.2.2))).length : Int) != (0 : Int)))) else ((((less a0.2.1 (Qp w.2.2.1 (List.take k0 w.2.2.2))).length : Int) != (a0.2.1.length : Int)) || (((less a0.2.2 (Qp w.2.2.1 (List.take k0 w.2.2.2))).length : Int) != (0 : Int)))))) = false := I0 h27r
    have h27rrl : ((IntKind.i64.wrap ((a0.2.1.length : Int) + (a0.2.2.length : Int)) == (0 : Int))) = false := Pq h27rr
    have h27rrld := Yb h27rrl
    refine Qj ?_
    refine rn Qb [1, 2, 17, 18, 19] [1] (pe 0 (Jb (Qv k0 (by omega))) p0) ?_
    exact Exists.intro _ (And.intro (Qd (by kernel_rfl)) (Qz hx0 (Qn h27 (rfl)) hI0))
  ·
   refine su Qb [(20, .b false)] [] [] [] (pe 0 (Qs (decide_eq_false (p := ((k0 : Nat) : Int) < (w.2.2.2.length : Int)) (by omega))) p0) ?_
   refine Qe ?_
   refine ckF ?_
   refine Q3 ?_
   exact Exists.intro _ (And.intro (Qd (by kernel_rfl)) (Xl hk0 (rfl) hI0))
  ·
   refine sn Qb [2] [] (p0) ?_
   refine Qf ?_
   exact pb [] (Qn h2 (Wf hD0 (rfl)))
def Wt (a_ : (List Int)) (k0 : Nat) (_ : Unit) : Rd (Bool) (Unit) (Unit) := (bif decide ((nth a_ (Int.toNat (((k0 + 1 : Nat) : Int) - 1))) ≥ (nth a_ (k0 + 1))) then (.ret false) else (.next ()))
def Dw (_ : Nat) (_ : Unit) : Unit := ()
def Zi (a_ : (List Int)) : Bool := (Out.on (Vz (Wt a_) Dw (a_.length - 1) 0 ()) (fun _ => true))
theorem Uu (a_ : (List Int)) : ACalls Tryz.prog 46 [.h a_] (.b (Zi a_)) := by
 refine en Qb Tryz.func46 fun w0 F0 hG => ?_
 refine sn Qb [0, 2] [] (p0) ?_
 refine Qe ?_
 refine tn Qb [0, 2, 3] [] (p0) ?_
 refine mz [(2, .b false), (3, .i 1)] [] [] [] ?_
 refine wT 0 0 .sh a_ (fun hw1 hl2 => ?_)
 refine Qal (Wt a_) Dw (a_.length - 1) () (fun k0 _ => [(3, .i ((k0 + 1 : Nat) : Int))]) [3] (fun _ => []) [0, 3] (Qd (by kernel_rfl)) (fun k0 s0 hk0 hI0 => ?_) (fun k0 s0 hk0 hI0 => ?_) (fun y0 hD0 => ?_)
 ·
  refine Qe ?_
  refine sn Qb [0, 2, 3, 7] [] (pl 2 a_ (pe 3 (Qs (decide_eq_true (p := ((k0 + 1 : Nat) : Int) < (a_.length : Int)) (by omega))) p0)) ?_
  refine ckT ?_
  refine Qj ?_
  refine Qe ?_
  refine Qt ?_
  have hx3 := ng a_ (Int.toNat (((k0 + 1 : Nat) : Int) - 1))
  have hx4 := ng a_ (k0 + 1)
  refine tN Qb Yn [0, 2, 3, 19] [] (pe 2 (Jb (IntWalk.i64_in (((k0 + 1 : Nat) : Int) - 1) (by omega))) (pg 3 (((k0 + 1 : Nat) : Int) - 1) hx3 (pg 7 ((k0 + 1 : Nat) : Int) hx4 p0))) ?_
  refine ck (decide ((nth a_ (Int.toNat (((k0 + 1 : Nat) : Int) - 1))) ≥ (nth a_ (k0 + 1)))) (fun h5 => ?_) (fun h5 => ?_)
  ·
   refine tu Qb [] [] [] [] (p0) ?_
   refine Qf ?_
   have hr6 : (Vz (Wt a_) Dw (a_.length - 1) 0 ()) = .ret false := Sa hk0 (Q8 h5 (rfl)) hI0
   exact pb [] (Gu hr6)
  ·
   have h5d := of_decide_eq_false h5
   refine Qj ?_
   refine qu Qb [(3, .i ((k0 + 2 : Nat) : Int))] [3] [] [] (pe 1 (show .i (IntKind.i64.wrap (((k0 + 1 : Nat) : Int) + 1)) = .i ((k0 + 2 : Nat) : Int) from Jb ((IntWalk.i64_in _ (by omega)).trans (by omega))) p0) ?_
   exact Exists.intro _ (And.intro (Qd (by kernel_rfl)) (K3 hk0 (Qn h5 (rfl)) hI0))
 ·
  refine Qe ?_
  refine sn Qb [0, 2, 3, 7] [] (pl 2 a_ (pe 3 (Qs (decide_eq_false (p := ((k0 + 1 : Nat) : Int) < (a_.length : Int)) (by omega))) p0)) ?_
  refine ckF ?_
  refine Q3 ?_
  exact Exists.intro _ (And.intro (Qd (by kernel_rfl)) (A5 hk0 (rfl) hI0))
 ·
  refine sn Qb [2] [] (p0) ?_
  refine Qf ?_
  exact pb [] (Wf hD0 (rfl))
def Z8 (s0 : (List Int)) (_ : Nat) (a1 : Int) (_ : Unit) : Rd (Rd (Bool) ((List Int)) (Unit)) (Unit) (Unit) := (bif (Xx s0 a1) then (.ret (.ret false)) else (.next ()))
def W7 (_ : Nat) (_ : Unit) : Unit := ()
def Z9 (s0 : (List Int)) (_ : Nat) (a2 : Int) (_ : Unit) : Rd (Rd (Bool) ((List Int)) (Unit)) (Unit) (Unit) := (bif (!(Xx s0 a2)) then (.ret (.ret false)) else (.next ()))
def W8 (_ : Nat) (_ : Unit) : Unit := ()
def Yr (w : Yu) (k0 : Nat) (a0 : Yp) (s0 : (List Int)) : Rd (Bool) ((List Int)) (Unit) := (bif ((IntKind.i64.wrap ((a0.2.1.length : Int) + (a0.2.2.length : Int)) == (0 : Int)) || ((!(Zi a0.2.1)) || ((!(Zi a0.2.2)) || (decide (((k0 : Nat) : Int) > (0 : Int)) && decide ((nth w.2.2.2 (Int.toNat (((k0 : Nat) : Int) - 1))).1 ≥ a0.1))))) then (.ret false) else (Out.on (Xm (Z8 s0) W7 a0.2.1 0 ()) (fun _ => (Out.on (Xm (Z9 s0) W8 a0.2.2 0 ()) (fun _ => (.next (X8 s0 [a0])))))))
def Ja (_ : Nat) (_ : (List Int)) : Unit := ()
def Xv (w : Yu) : Bool := (Out.on (Xm (Yr w) Ja w.2.2.2 0 w.2.2.1) (fun _ => ((Q6 w.1 0 2) && (Zi w.2.2.1))))
theorem Cz (w : Yu) (hp : GoD.size w ≤ 268435456) : ACalls Tryz.prog 21 [.a [.i w.1, .s w.2.1, .h w.2.2.1, .h w.2.2.2]] (.b (Xv w)) := by
 refine en Qb Tryz.func21 fun w0 F0 hG => ?_
 refine sn Qb [1, 2] [1] (p0) ?_
 refine wB 1 2 .sh w.2.2.1 (fun hw1 hl2 => ?_)
 refine tn Qb [1, 2, 3] [1] (po 3 (.flat) (px (Hy (n := (([] : List (List PV)).length + ((eL w.2.2.1) : List (List PV)).length)) (B9 (rfl) (Ym w.2.2.1) (by first | omega | (simp only [List.length_cons, List.length_nil]; omega) | (simp; omega) | simp))) (px (Ub (Wm w.2.2.1)) p0))) ?_
 refine Qe ?_
 refine tu Qb [(1, .p 1 0), (2, .b false), (3, .o 704 w.2.2.1), (4, .i 0)] [0] [(1, [.i w.1, .s w.2.1, .h w.2.2.1, .h w.2.2.2])] [] (p0) ?_
 refine wB 1 3 .sh w.2.2.2 (fun hw3 hl4 => ?_)
 refine BM (Yr w) Ja w.2.2.2 w.2.2.1 (fun k0 s0 => [(3, .o 147202 s0), (4, .i ((k0 : Nat) : Int))]) [3, 4] (fun _ => []) [3, 4] (fun k0 s0 => List.length s0 ≤ List.length w.2.2.1 + GoD.size (List.take k0 w.2.2.2)) (Xy [(704, 147202)] (by kernel_rfl)) (by simp) (fun k0 s0 hk0 hI0 => ?_) (fun k0 s0 hk0 hI0 => ?_) (fun y0 hD0 => ?_)
 ·
  have hA0_0 := hI0.2
  obtain ⟨a0, hx0⟩ := Xk (l := w.2.2.2) (i := k0) hk0
  refine Qe ?_
  refine sn Qb [1, 2, 3, 4, 16] [1] (pl 3 w.2.2.2 (pe 4 (Qs (decide_eq_true (p := ((k0 : Nat) : Int) < (w.2.2.2.length : Int)) (by omega))) p0)) ?_
  refine ckT ?_
  refine Qj ?_
  refine Qe ?_
  refine Qt ?_
  refine tn Qb [1, 2, 3, 4, 5] [1, 5] (pn 3 hx0 p0) ?_
  refine Qe ?_
  refine Qe ?_
  refine mz [(5, .p 5 0)] [] [(5, [.i a0.1, .h a0.2.1, .h a0.2.2])] [] ?_
  refine jn [(59, .b ((IntKind.i64.wrap ((a0.2.1.length : Int) + (a0.2.2.length : Int)) == (0 : Int)) || ((!(Zi a0.2.1)) || ((!(Zi a0.2.2)) || (decide (((k0 : Nat) : Int) > (0 : Int)) && decide ((nth w.2.2.2 (Int.toNat (((k0 : Nat) : Int) - 1))).1 ≥ a0.1))))))] [] [] [] (IntKind.i64.wrap ((a0.2.1.length : Int) + (a0.2.2.length : Int)) == (0 : Int)) (fun h5 => ?_) (fun h5 => ?_) ?_
  ·
   refine rU Qb Yn [(59, .b true)] [] [] [] (pl 2 a0.2.1 (pl 5 a0.2.2 (pt 7 h5 p0))) ?_
   exact ⟨rfl, Qd (by rw [h5]; first | done | kernel_rfl)⟩
  ·
   have h5d := Yb h5
   refine Xb (!(Zi a0.2.1)) (fun h6 => ?_) (fun h6 => ?_)
   ·
    have h6n : (Zi a0.2.1) = false := Wz h6
    refine rU Qb Yn [(59, .b true)] [] [] [] (pl 2 a0.2.1 (pl 5 a0.2.2 (pf 7 h5 (pc 11 (cb h6n (Uu a0.2.1)) (pe 12 (show .b (!false) = .b true from rfl) p0))))) ?_
    exact ⟨rfl, Qd (by rw [h5, h6]; first | done | kernel_rfl)⟩
   ·
    have h6n : (Zi a0.2.1) = true := Je h6
    refine Xb (!(Zi a0.2.2)) (fun h7 => ?_) (fun h7 => ?_)
    ·
     have h7n : (Zi a0.2.2) = false := Wz h7
     refine rU Qb Yn [(59, .b true)] [] [] [] (pl 2 a0.2.1 (pl 5 a0.2.2 (pf 7 h5 (pc 11 (cb h6n (Uu a0.2.1)) (pe 12 (show .b (!true) = .b false from rfl) (pc 17 (cb h7n (Uu a0.2.2)) (pe 18 (show .b (!false) = .b true from rfl) p0))))))) ?_
     exact ⟨rfl, Qd (by rw [h5, h6, h7]; first | done | kernel_rfl)⟩
    ·
     have h7n : (Zi a0.2.2) = true := Je h7
     refine Xb (decide (((k0 : Nat) : Int) > (0 : Int))) (fun h8 => ?_) (fun h8 => ?_)
     ·
      have h8d := of_decide_eq_true h8
      have hx9 := ng w.2.2.2 (Int.toNat (((k0 : Nat) : Int) - 1))
      refine rN Qb Yn [1, 2, 3, 4, 5, 59] [1, 5] (pl 2 a0.2.1 (pl 5 a0.2.2 (pf 7 h5 (pc 11 (cb h6n (Uu a0.2.1)) (pe 12 (show .b (!true) = .b false from rfl) (pc 17 (cb h7n (Uu a0.2.2)) (pe 18 (show .b (!true) = .b false from rfl) (pt 22 h8 (pe 27 (Jb (IntWalk.i64_in (((k0 : Nat) : Int) - 1) (by omega))) (pg 28 (((k0 : Nat) : Int) - 1) hx9 p0)))))))))) ?_
      exact ⟨rfl, Qd (by rw [h5, h6, h7, h8]; first | done | kernel_rfl)⟩
     ·
      refine rU Qb Yn [(59, .b false)] [] [] [] (pl 2 a0.2.1 (pl 5 a0.2.2 (pf 7 h5 (pc 11 (cb h6n (Uu a0.2.1)) (pe 12 (show .b (!true) = .b false from rfl) (pc 17 (cb h7n (Uu a0.2.2)) (pe 18 (show .b (!true) = .b false from rfl) (pf 22 h8 p0)))))))) ?_
      exact ⟨rfl, Qd (by rw [h5, h6, h7, h8]; first | done | kernel_rfl)⟩
  refine ck ((IntKind.i64.wrap ((a0.2.1.length : Int) + (a0.2.2.length : Int)) == (0 : Int)) || ((!(Zi a0.2.1)) || ((!(Zi a0.2.2)) || (decide (((k0 : Nat) : Int) > (0 : Int)) && decide ((nth w.2.2.2 (Int.toNat (((k0 : Nat) : Int) - 1))).1 ≥ a0.1))))) (fun h10 => ?_) (fun h10 => ?_)
  ·
   refine su Qb [] [59] [] [] (p0) ?_
   refine Qf ?_
   have hr11 : (Xm (Yr w) Ja w.2.2.2 0 w.2.2.1) = .ret false := Z1 hx0 (Q8 h10 (rfl)) hI0.1
   exact pb [] (Gu hr11)
  ·
   have h10l : ((IntKind.i64.wrap ((a0.2.1.length : Int) + (a0.2.2.length : Int)) == (0 : Int))) = false := Pq h10
   have h10ld := Yb h10l
   refine Qj ?_
   refine Qe ?_
   refine su Qb [(6, .i 0)] [59] [] [] (p0) ?_
   refine wB 5 1 .sh a0.2.1 (fun hw12 hl13 => ?_)
   refine Mq (Z8 s0) W7 a0.2.1 () (fun k1 _ => [(6, .i ((k1 : Nat) : Int))]) [6] (fun _ => []) [6] (Qd (by kernel_rfl)) (fun k1 s1 hk1 hI1 => ?_) (fun k1 s1 hk1 hI1 => ?_) (fun y1 hD1 => ?_)
   ·
    obtain ⟨a1, hx1⟩ := Xk (l := a0.2.1) (i := k1) hk1
    refine Qe ?_
    refine su Qb [(64, .b true)] [] [] [] (pl 3 a0.2.1 (pe 4 (Qs (decide_eq_true (p := ((k1 : Nat) : Int) < (a0.2.1.length : Int)) (by omega))) p0)) ?_
    refine ckT ?_
    refine Qj ?_
    refine Qe ?_
    refine Qt ?_
    refine sn Qb [1, 2, 3, 4, 5, 6, 73] [1, 5] (pn 4 hx1 (pc 6 (Wa s0 a1) p0)) ?_
    refine ck (Xx s0 a1) (fun h14 => ?_) (fun h14 => ?_)
    ·
     refine tu Qb [] [64] [] [] (p0) ?_
     refine Qf ?_
     have hr15 : (Xm (Z8 s0) W7 a0.2.1 0 ()) = .ret (.ret false) := Z1 hx1 (Q8 h14 (rfl)) hI1
     have hr16 : (Xm (Yr w) Ja w.2.2.2 0 w.2.2.1) = .ret false := Z1 hx0 (Qn h10 (Gu hr15)) hI0.1
     exact pb [] (Gu hr16)
    ·
     refine Qj ?_
     refine qn Qb [1, 2, 3, 4, 5, 6] [1, 5] (pe 1 (Jb (Qv k1 (by omega))) p0) ?_
     exact Exists.intro _ (And.intro (Qd (by kernel_rfl)) (Qz hx1 (Qn h14 (rfl)) hI1))
   ·
    refine Qe ?_
    refine su Qb [(64, .b false)] [] [] [] (pl 3 a0.2.1 (pe 4 (Qs (decide_eq_false (p := ((k1 : Nat) : Int) < (a0.2.1.length : Int)) (by omega))) p0)) ?_
    refine ckF ?_
    refine Q3 ?_
    exact Exists.intro _ (And.intro (Qd (by kernel_rfl)) (Xl hk1 (rfl) hI1))
   ·
    refine Qe ?_
    refine su Qb [(7, .i 0)] [] [] [] (p0) ?_
    refine wB 5 2 .sh a0.2.2 (fun hw17 hl18 => ?_)
    refine Mq (Z9 s0) W8 a0.2.2 () (fun k2 _ => [(7, .i ((k2 : Nat) : Int))]) [7] (fun _ => []) [7] (Qd (by kernel_rfl)) (fun k2 s2 hk2 hI2 => ?_) (fun k2 s2 hk2 hI2 => ?_) (fun y2 hD2 => ?_)
    ·
     obtain ⟨a2, hx2⟩ := Xk (l := a0.2.2) (i := k2) hk2
     refine Qe ?_
     refine su Qb [(78, .b true)] [] [] [] (pl 3 a0.2.2 (pe 4 (Qs (decide_eq_true (p := ((k2 : Nat) : Int) < (a0.2.2.length : Int)) (by omega))) p0)) ?_
     refine ckT ?_
     refine Qj ?_
     refine Qe ?_
     refine Qt ?_
     refine sn Qb [1, 2, 3, 4, 5, 7, 88] [1, 5] (pn 4 hx2 (pc 6 (Wa s0 a2) p0)) ?_
     refine ck (!(Xx s0 a2)) (fun h19 => ?_) (fun h19 => ?_)
     ·
      refine tu Qb [] [78] [] [] (p0) ?_
      refine Qf ?_
      have hr20 : (Xm (Z9 s0) W8 a0.2.2 0 ()) = .ret (.ret false) := Z1 hx2 (Q8 h19 (rfl)) hI2
      have hr21 : (Xm (Yr w) Ja w.2.2.2 0 w.2.2.1) = .ret false := Z1 hx0 (Qn h10 (Wf hD1 (Gu hr20))) hI0.1
      exact pb [] (Gu hr21)
     ·
      refine Qj ?_
      refine qn Qb [1, 2, 3, 4, 5, 7] [1, 5] (pe 1 (Jb (Qv k2 (by omega))) p0) ?_
      exact Exists.intro _ (And.intro (Qd (by kernel_rfl)) (Qz hx2 (Qn h19 (rfl)) hI2))
    ·
     refine Qe ?_
     refine su Qb [(78, .b false)] [] [] [] (pl 3 a0.2.2 (pe 4 (Qs (decide_eq_false (p := ((k2 : Nat) : Int) < (a0.2.2.length : Int)) (by omega))) p0)) ?_
     refine ckF ?_
     refine Q3 ?_
     exact Exists.intro _ (And.intro (Qd (by kernel_rfl)) (Xl hk2 (rfl) hI2))
    ·
     refine rn Qb [1, 2, 3, 4] [1] (pc 3 (Ut s0 [a0] (EN hx0 hA0_0 hp)) p0) ?_
     refine qn Qb [1, 2, 3, 4] [1] (pe 1 (Jb (Qv k0 (by omega))) p0) ?_
     exact Exists.intro (X8 s0 [a0]) (And.intro (Xy [(5888, 147202)] (by kernel_rfl)) ⟨Qz hx0 (Qn h10 (Wf hD1 (Wf hD2 (rfl)))) hI0.1, (by exact EO hx0 hA0_0)⟩)
 ·
  have hA0_0 := hI0.2
  refine Qe ?_
  refine sn Qb [1, 2, 3, 4, 16] [1] (pl 3 w.2.2.2 (pe 4 (Qs (decide_eq_false (p := ((k0 : Nat) : Int) < (w.2.2.2.length : Int)) (by omega))) p0)) ?_
  refine ckF ?_
  refine Q3 ?_
  exact Exists.intro _ (And.intro (Qd (by kernel_rfl)) (Xl hk0 (rfl) hI0.1))
 ·
  refine Qe ?_
  refine jn [(2, .b ((Q6 w.1 0 2) && (Zi w.2.2.1)))] [1, 2] [] [1] (Q6 w.1 0 2) (fun h22 => ?_) (fun h22 => ?_) ?_
  ·
   have h22w := D1.1 h22
   refine rn Qb [2] [] (pc 2 (cb h22 (Zb w.1 0 2)) (pc 6 (Uu w.2.2.1) p0)) ?_
   exact ⟨rfl, Qd (by rw [h22]; first | done | kernel_rfl)⟩
  ·
   refine rn Qb [2] [] (pc 2 (cb h22 (Zb w.1 0 2)) p0) ?_
   exact ⟨rfl, Qd (by rw [h22]; first | done | kernel_rfl)⟩
  refine Qf ?_
  exact pb [] (Wf hD0 (rfl))
def C0 (version : Int) (_ : Nat) (a0 : Yp) (s0 : (List Yp)) : Rd ((List Yp)) ((List Yp)) ((List Yp)) := (bif decide (a0.1 > version) then (.next (s0 ++ [(X5 a0)])) else (.next s0))
def C1 (_ : Nat) (s0 : (List Yp)) : (List Yp) := s0
def Zf (w : Yu) (version : Int) : (List Yp) := (Out.on (Xm (C0 version) C1 w.2.2.2 0 []) (fun y0 => y0))
theorem Am (w : Yu) (version : Int) : ACalls Tryz.prog 15 [.a [.i w.1, .s w.2.1, .h w.2.2.1, .h w.2.2.2], .i version] (.o 0 (Zf w version)) := by
 refine en Qb Tryz.func15 fun w0 F0 hG => ?_
 refine sn Qb [1, 2, 4] [2] (p0) ?_
 refine tn Qb [1, 2, 4, 5] [2] (p0) ?_
 refine Qe ?_
 refine tu Qb [(4, .e 0), (5, .one (.slc (.own true 512) 3 [])), (10, .h w.2.2.2), (11, .i (w.2.2.2.length : Int)), (12, .i 0)] [0] [] [] (pl 2 w.2.2.2 p0) ?_
 refine wT 10 0 .sh w.2.2.2 (fun hw1 hl2 => ?_)
 refine BM (C0 version) C1 w.2.2.2 [] (fun k0 s0 => [(5, .o 147202 s0), (12, .i ((k0 : Nat) : Int))]) [5, 12] (fun y0 => [(5, .o 147352 y0)]) [1, 5, 10, 11, 12] (fun k0 s0 => List.length s0 ≤ k0) (Xy [(512, 147202)] (by kernel_rfl)) (by simp) (fun k0 s0 hk0 hI0 => ?_) (fun k0 s0 hk0 hI0 => ?_) (fun y0 hD0 => ?_)
 ·
  have hA0_0 := hI0.2
  obtain ⟨a0, hx0⟩ := Xk (l := w.2.2.2) (i := k0) hk0
  refine su Qb [(13, .b true)] [] [] [] (pe 0 (Qs (decide_eq_true (p := ((k0 : Nat) : Int) < (w.2.2.2.length : Int)) (by omega))) p0) ?_
  refine Qe ?_
  refine ckT ?_
  refine Qj ?_
  refine Qe ?_
  refine Qt ?_
  refine sn Qb [1, 4, 5, 7, 10, 11, 12] [7] (pn 0 hx0 p0) ?_
  refine tn Qb [1, 4, 5, 7, 10, 11, 12, 19] [7] (p0) ?_
  refine ck (decide (a0.1 > version)) (fun h3 => ?_) (fun h3 => ?_)
  ·
   have h3d := of_decide_eq_true h3
   refine wT 5 0 (.own true 147202) s0 (fun hw4 hl5 => ?_)
   refine qu Qb [(5, .one (.slc (.own true 1536) 3 ((eL s0) ++ [[.i ((X5 a0).1), .h ((X5 a0).2.1), .h ((X5 a0).2.2)]])))] [5, 13] [] [] (pc 2 (L5 a0) (pa s0 [(X5 a0)] p0)) ?_
   refine eqn [(5, .o 1536 (s0 ++ [(X5 a0)]))] [5] [] [] (by rw [show ((eL s0) ++ [[.i ((X5 a0).1), .h ((X5 a0).2.1), .h ((X5 a0).2.2)]]) = (eL (s0 ++ [(X5 a0)])) from Ky (rfl) (rfl)]; first | done | kernel_rfl) ?_
   refine rn Qb [1, 4, 5, 10, 11, 12] [] (pe 0 (Jb (Qv k0 (by omega))) p0) ?_
   exact Exists.intro (s0 ++ [(X5 a0)]) (And.intro (Xy [(1536, 147202)] (by kernel_rfl)) ⟨Qz hx0 (Q8 h3 (rfl)) hI0.1, by first | omega | (simp; omega) | simp⟩)
  ·
   have h3d := of_decide_eq_false h3
   refine Qj ?_
   refine qu Qb [(12, .i ((k0 + 1 : Nat) : Int))] [12, 13] [] [] (pe 0 (Jb (Qv k0 (by omega))) p0) ?_
   exact Exists.intro s0 (And.intro (Qd (by kernel_rfl)) ⟨Qz hx0 (Qn h3 (rfl)) hI0.1, by first | omega | (simp; omega) | simp⟩)
 ·
  have hA0_0 := hI0.2
  refine su Qb [(13, .b false)] [] [] [] (pe 0 (Qs (decide_eq_false (p := ((k0 : Nat) : Int) < (w.2.2.2.length : Int)) (by omega))) p0) ?_
  refine Qe ?_
  refine ckF ?_
  refine Q3 ?_
  exact Exists.intro _ (And.intro (Xy [(147202, 147352)] (by kernel_rfl)) (Xl hk0 (rfl) hI0.1))
 ·
  refine sn Qb [4] [] (p0) ?_
  refine Qf ?_
  exact po0 [] (Wf hD0 (rfl))
end Go.Proofs.YtockoklfegpgeaaGreat
namespace Go.Proofs.YtockoklfegpgeaaGreat
open Go.RowKit
theorem KG (code : List UInt8) (ci : Nat) (ch : Int) : GoD.size (Z3 code ci ch).1 ≤ 1900 := by
  unfold Z3 lt
  generalize Zr code ci ch = x1
  have hn := UH code x1.2.1 x1.2.2
  dsimp only
  generalize J9 code x1.2.1 x1.2.2 = x2 at hn ⊢
  generalize Qk code x2.2.1 x2.2.2 3 = x3
  generalize Qk code x3.2.1 x3.2.2 _ = x4
  obtain ⟨t, ht⟩ := Mo (f := Ka code x2) (fun s r => by
    unfold Ka lt
    generalize Qk code s.2.2.1 s.2.2.2 4 = x
    simp only
    generalize decide (s.1 < 2 + x.1) = c
    cases c <;> simp) 5 (1, (Yj x1.1 x2.1 x3.1 ((nth x2.1 (Int.toNat x4.1)).1)), x4.2.1, x4.2.2)
  have hj : GoD.size t.1 ≤ 1795 := Pa (f := Ka code x2) (I := fun s => W29 s.1 s.2.1) (J := fun t => GoD.size t.1 ≤ 1795) (fun s s' hi h => by
    unfold Ka lt at h
    have hb := Qy code s.2.2.1 s.2.2.2 4
    generalize Qk code s.2.2.1 s.2.2.2 4 = x at h hb
    by_cases hc : s.1 < 2 + x.1
    · simp only [decide_eq_true hc, cond_true] at h
      have h := Rd.next.inj h
      rw [← h]
      exact CW hi (by omega)
    · simp only [decide_eq_false hc, cond_false] at h
      cases h) (fun s t hi h => by
    unfold Ka lt at h
    generalize Qk code s.2.2.1 s.2.2.2 4 = x at h
    by_cases hc : s.1 < 2 + x.1
    · simp only [decide_eq_true hc, cond_true] at h
      cases h
    · simp only [decide_eq_false hc, cond_false] at h
      have h := Rd.brk.inj h
      rw [← h]
      exact QI hi) (UJ (hn _)) (M6 code x2 _ _ _) ht
  rw [ht]
  simp only [Out.on]
  have hs := Vp t.1
  generalize Qk code t.2.1 t.2.2 10 = x11
  cases (x11.1 == (0 : Int)) with
  | true =>
    simp only [cond_true]
    have h7 := Pn code x11.2.1 x11.2.2
    rw [Vp]
    show t.1.2.1.size + (List.length (Kl code x11.2.1 x11.2.2).1 + GoD.size t.1.2.2.2) ≤ 1900
    omega
  | false =>
    simp only [cond_false]
    cases (x11.1 == (1 : Int)) with
    | true =>
      simp only [cond_true]
      rw [Vp]
      show t.1.2.1.size + (List.length t.1.2.2.1 + GoD.size t.1.2.2.2) ≤ 1900
      omega
    | false =>
      simp only [cond_false]
      cases (x11.1 == (2 : Int)) with
      | true =>
        simp only [cond_true]
        generalize Qk code x11.2.1 x11.2.2 8 = x19
        have h7 := Pn code x19.2.1 x19.2.2
        generalize Kl code x19.2.1 x19.2.2 = x20 at h7
        have h8 := Pn code x20.2.1 x20.2.2
        generalize Kl code x20.2.1 x20.2.2 = x21 at h8
        rw [Vp]
        show t.1.2.1.size + (List.length t.1.2.2.1 + GoD.size (t.1.2.2.2 ++ [(x19.1, x20.1, x21.1)])) ≤ 1900
        rw [Pi, Pj]
        have h9 : GoD.size ((x19.1, x20.1, x21.1) : Yp) = 0 + (GoD.size x20.1 + GoD.size x21.1) := rfl
        rw [h9, Gr, Gr]
        omega
      | false => simp only [cond_false]; omega
theorem QK (code : List UInt8) : GoD.size (Qg code).1 ≤ 1900 := KG code _ _
theorem OK (w : Yu) (v : Int) : Zf w v = w.2.2.2.filter fun a => decide (a.1 > v) := by
  unfold Zf
  rw [Hz (f := C0 v) (e := C1) (p := fun a : Yp => decide (a.1 > v)) (g := fun a => a) (fun _ _ _ => rfl), List.map_id']
  rfl
open GoE (enc wide)
def Qa (code : (List UInt8)) : Yu × Int × Q5 × (List Y5) := (lt (α := Nat × Int) (K4 code) (fun x1 => (lt (α := Yu × Nat × Int) (Z3 code x1.1 x1.2) (fun x2 => (lt (α := Q5 × (List Y5) × Nat × Int) (Wb code x2.2.1 x2.2.2) (fun x3 => (lt (α := Int × Nat × Int) (Qk code x3.2.2.1 x3.2.2.2 9) (fun x4 => (x2.1, (1 + x4.1), x3.1, x3.2.1)))))))))
theorem L8 (code : List UInt8) : GoD.size (Qa code).1 ≤ 1900 := KG code _ _
theorem R3 (code : (List UInt8)) : ACalls Tryz.prog 5 [.h code] (.tup [(true, [.i ((((Qa code)).1).1), .s ((((Qa code)).1).2.1), .o 0 ((((Qa code)).1).2.2.1), .o 1 ((((Qa code)).1).2.2.2)]), (false, [.i (((Qa code)).2.1)]), (true, [.h ((((Qa code)).2.2.1).1), .q 2 ((((Qa code)).2.2.1).2.1), .i ((((Qa code)).2.2.1).2.2)]), (false, [.h (((Qa code)).2.2.2)])]) := by
 refine en Qb Tryz.func5 fun w0 F0 hG => ?_
 refine sn Qb [0, 2, 3, 4, 5] [2, 4] (p0) ?_
 obtain ⟨x1, hx1⟩ : ∃ z : Nat × Int, K4 code = z := ⟨_, rfl⟩
 refine tn Qb [2, 3, 4, 5, 6] [2, 4, 11] (po 1 (.new [.h code, .i ((x1.1 : Nat) : Int), .i x1.2]) (px (VG (hx1 ▸ D6 code)) p0)) ?_
 obtain ⟨x2, hx2⟩ : ∃ z : Yu × Nat × Int, Z3 code x1.1 x1.2 = z := ⟨_, rfl⟩
 refine tu Qb [(2, .p 2 0), (3, .i 0), (4, .p 4 0), (5, .e 0), (6, .p 11 0), (7, .p 7 0)] [0] [(2, [.i 0, .s ⟨#[]⟩, .e 1, .e 3]), (4, [.e 2, .e 5, .i 0]), (7, [.i x2.1.1, .s x2.1.2.1, .o 832 x2.1.2.2.1, .o 833 x2.1.2.2.2]), (11, [.h code, .i ((x2.2.1 : Nat) : Int), .i x2.2.2])] [] (po 1 (.give none (.a [.i x2.1.1, .s x2.1.2.1, .o 0 x2.1.2.2.1, .o 1 x2.1.2.2.2]) [.h code, .i ((x2.2.1 : Nat) : Int), .i x2.2.2]) (px (Q2 (hx2 ▸ Gf code x1.1 x1.2)) p0)) ?_
 obtain ⟨x3, hx3⟩ : ∃ z : Q5 × (List Y5) × Nat × Int, Wb code x2.2.1 x2.2.2 = z := ⟨_, rfl⟩
 refine sn Qb [2, 3, 4, 5, 6, 7, 8, 9] [2, 4, 7, 8, 11] (po 1 (.give none (.tup [(true, [.h x3.1.1, .q 0 x3.1.2.1, .i x3.1.2.2]), (false, [.h x3.2.1])]) [.h code, .i ((x3.2.2.1 : Nat) : Int), .i x3.2.2.2]) (px (Q2 (hx3 ▸ Ph code x2.2.1 x2.2.2)) p0)) ?_
 obtain ⟨x4, hx4⟩ : ∃ z : Int × Nat × Int, Qk code x3.2.2.1 x3.2.2.2 9 = z := ⟨_, rfl⟩
 have hbx4 := hx4 ▸ Qy code x3.2.2.1 x3.2.2.2 9
 refine tN Qb Yn [2, 3, 4, 5] [2, 4] (po 2 (.give none (.i x4.1) [.h code, .i ((x4.2.1 : Nat) : Int), .i x4.2.2]) (px (Q2 (hx4 ▸ Q7 code x3.2.2.1 x3.2.2.2 9)) (pe 3 (Jb (IntWalk.i64_in (1 + x4.1) (by omega))) p0))) ?_
 refine Qf ?_
 exact pz [] (show Qa code = _ from Ys hx1 (Ys hx2 (Ys hx3 (Ys hx4 (rfl))))) (fun z => .tup [(true, [.i z.1.1, .s z.1.2.1, .o 0 z.1.2.2.1, .o 1 z.1.2.2.2]), (false, [.i z.2.1]), (true, [.h z.2.2.1.1, .q 2 z.2.2.1.2.1, .i z.2.2.1.2.2]), (false, [.h z.2.2.2])])
def X7 (code : (List UInt8)) : Q5 × (List Y5) × Int := (lt (α := Nat × Int) (K4 code) (fun x1 => (lt (α := Q5 × (List Y5) × Nat × Int) (Wb code x1.1 x1.2) (fun x2 => (lt (α := Int × Nat × Int) (H7 code x2.2.2.1 x2.2.2.2) (fun x3 => (x2.1, x2.2.1, x3.1)))))))
theorem Gg (code : (List UInt8)) : ACalls Tryz.prog 60 [.h code] (.tup [(true, [.h ((((X7 code)).1).1), .q 0 ((((X7 code)).1).2.1), .i ((((X7 code)).1).2.2)]), (false, [.h (((X7 code)).2.1)]), (false, [.i (((X7 code)).2.2)])]) := by
 refine en Qb Tryz.func60 fun w0 F0 hG => ?_
 refine sn Qb [0, 2, 3, 4] [2] (p0) ?_
 obtain ⟨x1, hx1⟩ : ∃ z : Nat × Int, K4 code = z := ⟨_, rfl⟩
 refine tn Qb [2, 3, 4, 5] [2, 9] (po 1 (.new [.h code, .i ((x1.1 : Nat) : Int), .i x1.2]) (px (VG (hx1 ▸ D6 code)) p0)) ?_
 obtain ⟨x2, hx2⟩ : ∃ z : Q5 × (List Y5) × Nat × Int, Wb code x1.1 x1.2 = z := ⟨_, rfl⟩
 refine tu Qb [(2, .p 2 0), (3, .e 0), (4, .i 0), (5, .p 9 0), (6, .p 6 0), (7, .h x2.2.1)] [0] [(2, [.e 2, .e 5, .i 0]), (6, [.h x2.1.1, .q 768 x2.1.2.1, .i x2.1.2.2]), (9, [.h code, .i ((x2.2.2.1 : Nat) : Int), .i x2.2.2.2])] [] (po 1 (.give none (.tup [(true, [.h x2.1.1, .q 0 x2.1.2.1, .i x2.1.2.2]), (false, [.h x2.2.1])]) [.h code, .i ((x2.2.2.1 : Nat) : Int), .i x2.2.2.2]) (px (Q2 (hx2 ▸ Ph code x1.1 x1.2)) p0)) ?_
 obtain ⟨x3, hx3⟩ : ∃ z : Int × Nat × Int, H7 code x2.2.2.1 x2.2.2.2 = z := ⟨_, rfl⟩
 refine sN Qb Yn [2, 3, 4] [2] (po 3 (.give none (.i x3.1) [.h code, .i ((x3.2.1 : Nat) : Int), .i x3.2.2]) (px (Q2 (hx3 ▸ Pf code x2.2.2.1 x2.2.2.2)) p0)) ?_
 refine Qf ?_
 exact pz [] (show X7 code = _ from Ys hx1 (Ys hx2 (Ys hx3 (rfl)))) (fun z => .tup [(true, [.h z.1.1, .q 0 z.1.2.1, .i z.1.2.2]), (false, [.h z.2.1]), (false, [.i z.2.2])])
def Bx (code : (List UInt8)) (ci : Nat) (ch : Int) : ByteArray × Nat × Int := (lt (α := ByteArray × Nat × Int) (Yd code ci ch [⟨#[100, 97]⟩, ⟨#[100, 98]⟩, ⟨#[100, 99]⟩, ⟨#[100, 100]⟩, ⟨#[100, 101]⟩, ⟨#[122, 122]⟩, ⟨#[]⟩]) (fun x1 => (x1.1, x1.2.1, x1.2.2)))
theorem KH (code : (List UInt8)) (ci : Nat) (ch : Int) : AGive Tryz.prog 61 [.h code, .i ((ci : Nat) : Int), .i ch] [] (.s (((Bx code ci ch)).1)) [.h code, .i ((((Bx code ci ch)).2.1 : Nat) : Int), .i (((Bx code ci ch)).2.2)] := by
 refine Kf (tt := tt) Qb Tryz.func61 (fn := Tryz.f61) rfl (by unfold C9; kernel_rfl) (Nat.le_of_ble_eq_true rfl) (Nat.le_of_ble_eq_true rfl) rfl rfl fun w0 F0 hG => ?_
 refine sn Qb [0, 2] [60000] (p0) ?_
 obtain ⟨x1, hx1⟩ : ∃ z : ByteArray × Nat × Int, Yd code ci ch [⟨#[100, 97]⟩, ⟨#[100, 98]⟩, ⟨#[100, 99]⟩, ⟨#[100, 100]⟩, ⟨#[100, 101]⟩, ⟨#[122, 122]⟩, ⟨#[]⟩] = z := ⟨_, rfl⟩
 refine tn Qb [0, 2] [60000] (po 2 (.give none (.s x1.1) [.h code, .i ((x1.2.1 : Nat) : Int), .i x1.2.2]) (px (Q2 (hx1 ▸ Kh code ci ch [⟨#[100, 97]⟩, ⟨#[100, 98]⟩, ⟨#[100, 99]⟩, ⟨#[100, 100]⟩, ⟨#[100, 101]⟩, ⟨#[122, 122]⟩, ⟨#[]⟩] (Nat.zero_lt_succ _))) p0)) ?_
 refine Qf ?_
 have hE2 : Bx code ci ch = (x1.1, x1.2.1, x1.2.2) := Ys hx1 (rfl)
 exact He [] (congrArg (fun z => (.s z.1 : AV)) hE2.symm) (congrArg (fun z => ([.h code, .i ((z.2.1 : Nat) : Int), .i z.2.2] : List C)) hE2.symm)
def Zo (code : (List UInt8)) : Q5 × (List Y5) × Int × ByteArray := (lt (α := Nat × Int) (K4 code) (fun x1 => (lt (α := ByteArray × Nat × Int) (Bx code x1.1 x1.2) (fun x2 => ((((X7 code)).1), ((X7 code)).2.1, ((X7 code)).2.2, x2.1)))))
theorem Rl (code : (List UInt8)) : ACalls Tryz.prog 32 [.h code] (.tup [(true, [.h ((((Zo code)).1).1), .q 0 ((((Zo code)).1).2.1), .i ((((Zo code)).1).2.2)]), (false, [.h (((Zo code)).2.1)]), (false, [.i (((Zo code)).2.2.1)]), (false, [.s (((Zo code)).2.2.2)])]) := by
 refine en Qb Tryz.func32 fun w0 F0 hG => ?_
 refine sn Qb [0, 2, 3, 4, 5] [2] (p0) ?_
 refine tn Qb [0, 2, 3, 4, 5, 6, 7, 8] [2, 6] (pc 1 (Gg code) p0) ?_
 obtain ⟨x1, hx1⟩ : ∃ z : Nat × Int, K4 code = z := ⟨_, rfl⟩
 obtain ⟨x2, hx2⟩ : ∃ z : ByteArray × Nat × Int, Bx code x1.1 x1.2 = z := ⟨_, rfl⟩
 refine tU Qb Yn [(2, .p 2 0), (3, .h (((X7 code)).2.1)), (4, .i (((X7 code)).2.2)), (5, .s x2.1)] [0] [(2, [.h ((((X7 code)).1).1), .q 704 ((((X7 code)).1).2.1), .i ((((X7 code)).1).2.2)])] [] (po 4 (.new [.h code, .i ((x1.1 : Nat) : Int), .i x1.2]) (px (VG (hx1 ▸ D6 code)) (po 5 (.give none (.s x2.1) [.h code, .i ((x2.2.1 : Nat) : Int), .i x2.2.2]) (px (Q2 (hx2 ▸ KH code x1.1 x1.2)) p0)))) ?_
 refine Qf ?_
 exact pz [] (show Zo code = _ from Ys hx1 (Ys hx2 (rfl))) (fun z => .tup [(true, [.h z.1.1, .q 0 z.1.2.1, .i z.1.2.2]), (false, [.h z.2.1]), (false, [.i z.2.2.1]), (false, [.s z.2.2.2])])
def Qc (code : (List UInt8)) : Q5 × (List Y5) × Int × ByteArray := ((((Zo code)).1), ((Zo code)).2.1, ((Zo code)).2.2.1, ((Zo code)).2.2.2)
theorem Po (code : (List UInt8)) : ACalls Tryz.prog 7 [.h code] (.tup [(true, [.h ((((Qc code)).1).1), .q 0 ((((Qc code)).1).2.1), .i ((((Qc code)).1).2.2)]), (false, [.h (((Qc code)).2.1)]), (false, [.i (((Qc code)).2.2.1)]), (false, [.s (((Qc code)).2.2.2)])]) := by
 refine en Qb Tryz.func7 fun w0 F0 hG => ?_
 refine sn Qb [0, 2, 3, 4, 5] [2] (p0) ?_
 refine tn Qb [2, 3, 4, 5] [2] (pc 1 (Rl code) p0) ?_
 refine Qf ?_
 exact pz [] (show Qc code = ((((Zo code)).1), ((Zo code)).2.1, ((Zo code)).2.2.1, ((Zo code)).2.2.2) from rfl) (fun z => .tup [(true, [.h z.1.1, .q 0 z.1.2.1, .i z.1.2.2]), (false, [.h z.2.1]), (false, [.i z.2.2.1]), (false, [.s z.2.2.2])])
def Qh (code : (List UInt8)) : (List Int) × (List Yp) := (lt (α := Nat × Int) (K4 code) (fun x1 => (lt (α := (List Int) × Nat × Int) (Kl code x1.1 x1.2) (fun x2 => (lt (α := Yu × Nat × Int) (Z3 code x2.2.1 x2.2.2) (fun x3 => (x2.1, x3.1.2.2.2)))))))
theorem I1 (code : (List UInt8)) : ACalls Tryz.prog 10 [.h code] (.tup [(false, [.o 0 (((Qh code)).1)]), (false, [.o 1 (((Qh code)).2)])]) := by
 refine en Qb Tryz.func10 fun w0 F0 hG => ?_
 refine sn Qb [0, 2, 3] [] (p0) ?_
 obtain ⟨x1, hx1⟩ : ∃ z : Nat × Int, K4 code = z := ⟨_, rfl⟩
 refine tn Qb [2, 3, 4] [6] (po 1 (.new [.h code, .i ((x1.1 : Nat) : Int), .i x1.2]) (px (VG (hx1 ▸ D6 code)) p0)) ?_
 obtain ⟨x2, hx2⟩ : ∃ z : (List Int) × Nat × Int, Kl code x1.1 x1.2 = z := ⟨_, rfl⟩
 obtain ⟨x3, hx3⟩ : ∃ z : Yu × Nat × Int, Z3 code x2.2.1 x2.2.2 = z := ⟨_, rfl⟩
 refine tu Qb [(2, .o 512 x2.1), (3, .o 641 x3.1.2.2.2)] [0] [] [] (po 1 (.give none (.o 0 x2.1) [.h code, .i ((x2.2.1 : Nat) : Int), .i x2.2.2]) (px (Q2 (hx2 ▸ Fv code x1.1 x1.2)) (po 3 (.give none (.a [.i x3.1.1, .s x3.1.2.1, .o 0 x3.1.2.2.1, .o 1 x3.1.2.2.2]) [.h code, .i ((x3.2.1 : Nat) : Int), .i x3.2.2]) (px (Q2 (hx3 ▸ Gf code x2.2.1 x2.2.2)) p0)))) ?_
 refine Qf ?_
 exact pz [] (show Qh code = _ from Ys hx1 (Ys hx2 (Ys hx3 (rfl)))) (fun z => .tup [(false, [.o 0 z.1]), (false, [.o 1 z.2])])
def X2 (s_ : Q5) (d : (List Y5)) (user : Int) (name : ByteArray) : Yu := (user, name, (Q0 s_ d user name), [])
theorem XG (s_ : Q5) (d : (List Y5)) (user : Int) (name : ByteArray) : ACalls Tryz.prog 8 [.a [.h s_.1, .h s_.2.1, .i s_.2.2], .h d, .i user, .s name] (.a [.i ((X2 s_ d user name).1), .s ((X2 s_ d user name).2.1), .o 0 ((X2 s_ d user name).2.2.1), .o 1 ((X2 s_ d user name).2.2.2)]) := by
 refine en Qb Tryz.func8 fun w0 F0 hG => ?_
 refine sn Qb [1, 2, 3, 4, 8] [4, 8] (p0) ?_
 refine tn Qb [8] [8] (pc 6 (O5 s_ d user name) p0) ?_
 refine opn [(true, 8, 3, true, 384000, 3)] ?_
 refine Qf ?_
 exact pz [] (show X2 s_ d user name = (user, name, (Q0 s_ d user name), []) from rfl) (fun z => .a [.i z.1, .s z.2.1, .o 0 z.2.2.1, .o 1 z.2.2.2])
def C2 (version : Int) (_ : Nat) (a0 : Yp) (s0 : (List Yp)) : Rd ((List Yp)) ((List Yp)) ((List Yp)) := (bif decide (a0.1 > version) then (.next (s0 ++ [a0])) else (.next s0))
def C3 (_ : Nat) (s0 : (List Yp)) : (List Yp) := s0
def Zp (w : Yu) (version : Int) : (List Yp) := (Out.on (Xm (C2 version) C3 w.2.2.2 0 []) (fun y0 => (Hd y0)))
theorem An (w : Yu) (version : Int) : ACalls Tryz.prog 16 [.a [.i w.1, .s w.2.1, .h w.2.2.1, .h w.2.2.2], .i version] (.o 0 (Zp w version)) := by
 refine en Qb Tryz.func16 fun w0 F0 hG => ?_
 refine sn Qb [1, 2, 4] [2] (p0) ?_
 refine tn Qb [1, 2, 4, 5] [2] (p0) ?_
 refine Qe ?_
 refine tu Qb [(2, .p 2 0), (4, .e 0), (5, .one (.slc (.own true 448) 3 [])), (6, .i 0)] [0] [(2, [.i w.1, .s w.2.1, .h w.2.2.1, .h w.2.2.2])] [] (p0) ?_
 refine wB 2 3 .sh w.2.2.2 (fun hw1 hl2 => ?_)
 refine HQ (C2 version) C3 w.2.2.2 [] (fun k0 s0 => [(5, .q 147203 s0), (6, .i ((k0 : Nat) : Int))]) [5, 6] (fun _ _ => []) [] (fun y0 => [(5, .q 147353 y0)]) [1, 2, 5, 6] (fun _ => []) [2] (fun k0 s0 => List.length s0 ≤ k0) (F5 [] [] [448] [(448, 147203)] (by kernel_rfl)) (by simp) (fun k0 s0 hk0 hI0 => ?_) (fun k0 s0 hk0 hI0 => ?_) (fun y0 hD0 => ?_)
 ·
  have hA0_0 := hI0.2
  obtain ⟨a0, hx0⟩ := Xk (l := w.2.2.2) (i := k0) hk0
  refine Qe ?_
  refine sn Qb [1, 2, 4, 5, 6, 12] [2] (pl 3 w.2.2.2 (pe 4 (Qs (decide_eq_true (p := ((k0 : Nat) : Int) < (w.2.2.2.length : Int)) (by omega))) p0)) ?_
  refine ckT ?_
  refine Qj ?_
  refine Qe ?_
  refine Qt ?_
  refine tn Qb [1, 2, 4, 5, 6, 22] [2] (pn 3 hx0 p0) ?_
  refine ck (decide (a0.1 > version)) (fun h3 => ?_) (fun h3 => ?_)
  ·
   have h3d := of_decide_eq_true h3
   refine wT 5 0 (.own false 147203) s0 (fun hw4 hl5 => ?_)
   refine qu Qb [(5, .one (.slc (.own false 1920) 3 ((eL s0) ++ [[.i a0.1, .h a0.2.1, .h a0.2.2]])))] [5] [] [] (pn 4 hx0 (pa s0 [a0] p0)) ?_
   refine eqn [(5, .q 1920 (s0 ++ [a0]))] [5] [] [] (by rw [show ((eL s0) ++ [[.i a0.1, .h a0.2.1, .h a0.2.2]]) = (eL (s0 ++ [a0])) from Ky (rfl) (rfl)]; first | done | kernel_rfl) ?_
   refine rn Qb [1, 2, 4, 5, 6] [2] (pe 1 (Jb (Qv k0 (by omega))) p0) ?_
   exact Exists.intro (s0 ++ [a0]) (And.intro (Xy [(1920, 147203)] (by kernel_rfl)) ⟨Qz hx0 (Q8 h3 (rfl)) hI0.1, by first | omega | (simp; omega) | simp⟩)
  ·
   have h3d := of_decide_eq_false h3
   refine Qj ?_
   refine qu Qb [(6, .i ((k0 + 1 : Nat) : Int))] [6] [] [] (pe 1 (Jb (Qv k0 (by omega))) p0) ?_
   exact Exists.intro s0 (And.intro (Qd (by kernel_rfl)) ⟨Qz hx0 (Qn h3 (rfl)) hI0.1, by first | omega | (simp; omega) | simp⟩)
 ·
  have hA0_0 := hI0.2
  refine Qe ?_
  refine sn Qb [1, 2, 4, 5, 6, 12] [2] (pl 3 w.2.2.2 (pe 4 (Qs (decide_eq_false (p := ((k0 : Nat) : Int) < (w.2.2.2.length : Int)) (by omega))) p0)) ?_
  refine ckF ?_
  refine Q3 ?_
  exact Exists.intro _ (And.intro (Xy [(147203, 147353)] (by kernel_rfl)) (Xl hk0 (rfl) hI0.1))
 ·
  refine sn Qb [4] [] (pc 1 (L6 y0) p0) ?_
  refine Qf ?_
  exact po0 [] (Wf hD0 (rfl))
end Go.Proofs.YtockoklfegpgeaaGreat
namespace Go.Proofs.YtockoklfegpgeaaGreat
open Go.RowKit
theorem QM (code : List UInt8) : List.length (Qh code).1 + GoD.size (Qh code).2 ≤ 2000 := by
  unfold Qh lt
  have h1 := Pn code (K4 code).1 (K4 code).2
  dsimp only
  generalize Kl code (K4 code).1 (K4 code).2 = x2 at h1 ⊢
  have h2 := KG code x2.2.1 x2.2.2
  have h3 := Vp (Z3 code x2.2.1 x2.2.2).1
  omega
theorem UK (code : List UInt8) (ci : Nat) (ch : Int) : (Bx code ci ch).1.size ≤ 2 := by
  have key : (([⟨#[100, 97]⟩, ⟨#[100, 98]⟩, ⟨#[100, 99]⟩, ⟨#[100, 100]⟩, ⟨#[100, 101]⟩, ⟨#[122, 122]⟩, ⟨#[]⟩] : List ByteArray).all fun x => decide (x.size ≤ 2)) = true := by kernel_rfl
  exact of_decide_eq_true (List.all_eq_true.1 key _ (JW code ci ch (Nat.zero_lt_succ _)))
theorem UL (code : List UInt8) : GoD.size (X2 (((Qc code)).1) (((Qc code)).2.1) (((Qc code)).2.2.1) (((Qc code)).2.2.2)) ≤ 100 := by
  have h1 : (((Qc code)).2.2.2).size ≤ 2 := UK code _ _
  generalize Qc code = y at h1 ⊢
  rw [Vp]
  have h2 := Cr y.1 y.2.1 y.2.2.1 y.2.2.2
  have h3 : GoD.size (X2 y.1 y.2.1 y.2.2.1 y.2.2.2).2.2.2 = 0 := rfl
  rw [h3]
  show y.2.2.2.size + (List.length (Q0 y.1 y.2.1 y.2.2.1 y.2.2.2) + 0) ≤ 100
  omega
open GoE (enc wide)
def QN (code : (List UInt8)) : Bool := decide ((code.length : Int) > (1048576 : Int))
theorem LM (code : (List UInt8)) : ACalls Tryz.prog 4 [.h code] (.b (QN code)) := by
 refine en Qb Tryz.func4 fun w0 F0 hG => ?_
 refine sn Qb [0, 2] [] (p0) ?_
 refine tn Qb [2] [] (pl 1 code p0) ?_
 refine Qf ?_
 exact pb [] (show QN code = decide ((code.length : Int) > (1048576 : Int)) from rfl)
def C4 (b : (List Int)) (k0 : Nat) (a0 : Int) (_ : Unit) : Rd (Bool) (Unit) (Unit) := (bif (a0 != (nth b k0)) then (.ret false) else (.next ()))
def Fl (_ : Nat) (_ : Unit) : Unit := ()
def X3 (a_ : (List Int)) (b : (List Int)) : Bool := (bif ((a_.length : Int) != (b.length : Int)) then false else (Out.on (Xm (C4 b) Fl a_ 0 ()) (fun _ => true)))
theorem Kd (a_ : (List Int)) (b : (List Int)) : ACalls Tryz.prog 17 [.h a_, .h b] (.b (X3 a_ b)) := by
 refine en Qb Tryz.func17 fun w0 F0 hG => ?_
 refine sn Qb [0, 1, 4] [] (p0) ?_
 refine Qe ?_
 refine tn Qb [0, 1, 4, 10] [] (pl 1 a_ (pl 3 b p0)) ?_
 refine ck ((a_.length : Int) != (b.length : Int)) (fun h1 => ?_) (fun h1 => ?_)
 ·
  refine tu Qb [(4, .b false)] [] [] [] (p0) ?_
  refine Qf ?_
  exact pb [] (Q8 h1 (rfl))
 ·
  have h1d := We h1
  refine Qj ?_
  refine Qe ?_
  refine tu Qb [(4, .b false), (5, .i 0)] [] [] [] (p0) ?_
  refine wT 0 0 .sh a_ (fun hw2 hl3 => ?_)
  refine Mq (C4 b) Fl a_ () (fun k0 _ => [(5, .i ((k0 : Nat) : Int))]) [5] (fun _ => []) [0, 1, 5] (Qd (by kernel_rfl)) (fun k0 s0 hk0 hI0 => ?_) (fun k0 s0 hk0 hI0 => ?_) (fun y0 hD0 => ?_)
  ·
   obtain ⟨a0, hx0⟩ := Xk (l := a_) (i := k0) hk0
   refine Qe ?_
   refine sn Qb [0, 1, 4, 5, 14] [] (pl 2 a_ (pe 3 (Qs (decide_eq_true (p := ((k0 : Nat) : Int) < (a_.length : Int)) (by omega))) p0)) ?_
   refine ckT ?_
   refine Qj ?_
   refine Qe ?_
   refine Qt ?_
   refine wT 1 0 .sh b (fun hw5 hl6 => ?_)
   have hx4 := ng b k0
   refine tN Qb Yn [0, 1, 4, 5, 25] [] (pn 2 hx0 (pn 6 hx4 p0)) ?_
   refine ck (a0 != (nth b k0)) (fun h7 => ?_) (fun h7 => ?_)
   ·
    refine tu Qb [] [] [] [] (p0) ?_
    refine Qf ?_
    have hr8 : (Xm (C4 b) Fl a_ 0 ()) = .ret false := Z1 hx0 (Q8 h7 (rfl)) hI0
    exact pb [] (Qn h1 (Gu hr8))
   ·
    have h7d := We h7
    refine Qj ?_
    refine qu Qb [(5, .i ((k0 + 1 : Nat) : Int))] [5] [] [] (pe 1 (Jb (Qv k0 (by omega))) p0) ?_
    exact Exists.intro _ (And.intro (Qd (by kernel_rfl)) (Qz hx0 (Qn h7 (rfl)) hI0))
  ·
   refine Qe ?_
   refine sn Qb [0, 1, 4, 5, 14] [] (pl 2 a_ (pe 3 (Qs (decide_eq_false (p := ((k0 : Nat) : Int) < (a_.length : Int)) (by omega))) p0)) ?_
   refine ckF ?_
   refine Q3 ?_
   exact Exists.intro _ (And.intro (Qd (by kernel_rfl)) (Xl hk0 (rfl) hI0))
  ·
   refine sn Qb [4] [] (p0) ?_
   refine Qf ?_
   exact pb [] (Qn h1 (Wf hD0 (rfl)))
def C5 (a_ : Yp) (b : Yp) : Bool := ((a_.1 == b.1) && ((X3 a_.2.1 b.2.1) && (X3 a_.2.2 b.2.2)))
theorem QO (a_ : Yp) (b : Yp) : ACalls Tryz.prog 37 [.a [.i a_.1, .h a_.2.1, .h a_.2.2], .a [.i b.1, .h b.2.1, .h b.2.2]] (.b (C5 a_ b)) := by
 refine en Qb Tryz.func37 fun w0 F0 hG => ?_
 refine sn Qb [2, 3, 4] [2, 3] (p0) ?_
 refine Qe ?_
 refine mz [(2, .p 2 0), (3, .p 3 0), (4, .b false)] [0, 1] [(2, [.i a_.1, .h a_.2.1, .h a_.2.2]), (3, [.i b.1, .h b.2.1, .h b.2.2])] [] ?_
 refine jn [(4, .b ((a_.1 == b.1) && ((X3 a_.2.1 b.2.1) && (X3 a_.2.2 b.2.2))))] [2, 3, 4] [] [2, 3] (a_.1 == b.1) (fun h1 => ?_) (fun h1 => ?_) ?_
 ·
  refine Xb (X3 a_.2.1 b.2.1) (fun h2 => ?_) (fun h2 => ?_)
  ·
   refine rn Qb [4] [] (pt 4 h1 (pc 10 (cb h2 (Kd a_.2.1 b.2.1)) (pc 17 (Kd a_.2.2 b.2.2) p0))) ?_
   exact ⟨rfl, Qd (by rw [h1, h2]; first | done | kernel_rfl)⟩
  ·
   refine rn Qb [4] [] (pt 4 h1 (pc 10 (cb h2 (Kd a_.2.1 b.2.1)) p0)) ?_
   exact ⟨rfl, Qd (by rw [h1, h2]; first | done | kernel_rfl)⟩
 ·
  refine rn Qb [4] [] (pf 4 h1 p0) ?_
  exact ⟨rfl, Qd (by rw [h1]; first | done | kernel_rfl)⟩
 refine Qf ?_
 exact pb [] (show C5 a_ b = ((a_.1 == b.1) && ((X3 a_.2.1 b.2.1) && (X3 a_.2.2 b.2.2))) from rfl)
def Ao (b : (List Yp)) (k0 : Nat) (a0 : Yp) (_ : Unit) : Rd (Bool) (Unit) (Unit) := (bif (!(C5 a0 (nth b k0))) then (.ret false) else (.next ()))
def Dj (_ : Nat) (_ : Unit) : Unit := ()
def Jk (a_ : (List Yp)) (b : (List Yp)) : Bool := (bif ((a_.length : Int) != (b.length : Int)) then false else (Out.on (Xm (Ao b) Dj a_ 0 ()) (fun _ => true)))
theorem Hg (a_ : (List Yp)) (b : (List Yp)) : ACalls Tryz.prog 14 [.h a_, .h b] (.b (Jk a_ b)) := by
 refine en Qb Tryz.func14 fun w0 F0 hG => ?_
 refine sn Qb [0, 1, 4] [] (p0) ?_
 refine Qe ?_
 refine tn Qb [0, 1, 4, 10] [] (pl 1 a_ (pl 3 b p0)) ?_
 refine ck ((a_.length : Int) != (b.length : Int)) (fun h1 => ?_) (fun h1 => ?_)
 ·
  refine tu Qb [(4, .b false)] [] [] [] (p0) ?_
  refine Qf ?_
  exact pb [] (Q8 h1 (rfl))
 ·
  have h1d := We h1
  refine Qj ?_
  refine Qe ?_
  refine tu Qb [(4, .b false), (5, .i 0)] [] [] [] (p0) ?_
  refine wT 0 0 .sh a_ (fun hw2 hl3 => ?_)
  refine Mq (Ao b) Dj a_ () (fun k0 _ => [(5, .i ((k0 : Nat) : Int))]) [5] (fun _ => []) [0, 1, 5] (Qd (by kernel_rfl)) (fun k0 s0 hk0 hI0 => ?_) (fun k0 s0 hk0 hI0 => ?_) (fun y0 hD0 => ?_)
  ·
   obtain ⟨a0, hx0⟩ := Xk (l := a_) (i := k0) hk0
   refine Qe ?_
   refine sn Qb [0, 1, 4, 5, 14] [] (pl 2 a_ (pe 3 (Qs (decide_eq_true (p := ((k0 : Nat) : Int) < (a_.length : Int)) (by omega))) p0)) ?_
   refine ckT ?_
   refine Qj ?_
   refine Qe ?_
   refine Qt ?_
   refine wT 1 0 .sh b (fun hw5 hl6 => ?_)
   have hx4 := ng b k0
   refine tN Qb Yn [0, 1, 4, 5, 26] [] (pn 2 hx0 (pn 6 hx4 (pc 8 (QO a0 (nth b k0)) p0))) ?_
   refine ck (!(C5 a0 (nth b k0))) (fun h7 => ?_) (fun h7 => ?_)
   ·
    refine tu Qb [] [] [] [] (p0) ?_
    refine Qf ?_
    have hr8 : (Xm (Ao b) Dj a_ 0 ()) = .ret false := Z1 hx0 (Q8 h7 (rfl)) hI0
    exact pb [] (Qn h1 (Gu hr8))
   ·
    refine Qj ?_
    refine qu Qb [(5, .i ((k0 + 1 : Nat) : Int))] [5] [] [] (pe 1 (Jb (Qv k0 (by omega))) p0) ?_
    exact Exists.intro _ (And.intro (Qd (by kernel_rfl)) (Qz hx0 (Qn h7 (rfl)) hI0))
  ·
   refine Qe ?_
   refine sn Qb [0, 1, 4, 5, 14] [] (pl 2 a_ (pe 3 (Qs (decide_eq_false (p := ((k0 : Nat) : Int) < (a_.length : Int)) (by omega))) p0)) ?_
   refine ckF ?_
   refine Q3 ?_
   exact Exists.intro _ (And.intro (Qd (by kernel_rfl)) (Xl hk0 (rfl) hI0))
  ·
   refine sn Qb [4] [] (p0) ?_
   refine Qf ?_
   exact pb [] (Qn h1 (Wf hD0 (rfl)))
def Z4 (a_ : Yu) (b : Yu) : Bool := ((a_.1 == b.1) && ((a_.2.1.toList == b.2.1.toList) && ((X3 a_.2.2.1 b.2.2.1) && (Jk a_.2.2.2 b.2.2.2))))
theorem Kb (a_ : Yu) (b : Yu) : ACalls Tryz.prog 11 [.a [.i a_.1, .s a_.2.1, .h a_.2.2.1, .h a_.2.2.2], .a [.i b.1, .s b.2.1, .h b.2.2.1, .h b.2.2.2]] (.b (Z4 a_ b)) := by
 refine en Qb Tryz.func11 fun w0 F0 hG => ?_
 refine sn Qb [2, 3, 4] [2, 3] (p0) ?_
 refine Qe ?_
 refine mz [(2, .p 2 0), (3, .p 3 0), (4, .b false)] [0, 1] [(2, [.i a_.1, .s a_.2.1, .h a_.2.2.1, .h a_.2.2.2]), (3, [.i b.1, .s b.2.1, .h b.2.2.1, .h b.2.2.2])] [] ?_
 refine jn [(4, .b ((a_.1 == b.1) && ((a_.2.1.toList == b.2.1.toList) && ((X3 a_.2.2.1 b.2.2.1) && (Jk a_.2.2.2 b.2.2.2)))))] [2, 3, 4] [] [2, 3] (a_.1 == b.1) (fun h1 => ?_) (fun h1 => ?_) ?_
 ·
  refine Xb (a_.2.1.toList == b.2.1.toList) (fun h2 => ?_) (fun h2 => ?_)
  ·
   refine Xb (X3 a_.2.2.1 b.2.2.1) (fun h3 => ?_) (fun h3 => ?_)
   ·
    refine rn Qb [4] [] (pt 4 h1 (pt 10 h2 (pc 17 (cb h3 (Kd a_.2.2.1 b.2.2.1)) (pc 24 (Hg a_.2.2.2 b.2.2.2) p0)))) ?_
    exact ⟨rfl, Qd (by rw [h1, h2, h3]; first | done | kernel_rfl)⟩
   ·
    refine rn Qb [4] [] (pt 4 h1 (pt 10 h2 (pc 17 (cb h3 (Kd a_.2.2.1 b.2.2.1)) p0))) ?_
    exact ⟨rfl, Qd (by rw [h1, h2, h3]; first | done | kernel_rfl)⟩
  ·
   refine rn Qb [4] [] (pt 4 h1 (pf 10 h2 p0)) ?_
   exact ⟨rfl, Qd (by rw [h1, h2]; first | done | kernel_rfl)⟩
 ·
  refine rn Qb [4] [] (pf 4 h1 p0) ?_
  exact ⟨rfl, Qd (by rw [h1]; first | done | kernel_rfl)⟩
 refine Qf ?_
 exact pb [] (show Z4 a_ b = ((a_.1 == b.1) && ((a_.2.1.toList == b.2.1.toList) && ((X3 a_.2.2.1 b.2.2.1) && (Jk a_.2.2.2 b.2.2.2)))) from rfl)
def Dk (code : (List UInt8)) : Bool := (bif (QN code) then true else (bif ((!(Z4 (Xw (((Qa code)).1) (((Qa code)).2.1) (((Qa code)).2.2.1) (((Qa code)).2.2.2)) (Zg (((Qa code)).1) (((Qa code)).2.1) (((Qa code)).2.2.1) (((Qa code)).2.2.2)))) || ((!(Z4 (X2 (((Qc code)).1) (((Qc code)).2.1) (((Qc code)).2.2.1) (((Qc code)).2.2.2)) (Yj (((Qc code)).1) (((Qc code)).2.1) (((Qc code)).2.2.1) (((Qc code)).2.2.2)))) || ((!(Jk (Zf (((Qg code)).1) (((Qg code)).2)) (Zp (((Qg code)).1) (((Qg code)).2)))) || ((!(X3 (Qp (((Qh code)).1) (((Qh code)).2)) (X8 (((Qh code)).1) (((Qh code)).2)))) || ((!((Yo (((Qa code)).1)) == (Xv (((Qa code)).1)))) || (!(X3 (Qi (((Qa code)).1)) (Q4 (((Qa code)).1))))))))) then false else (bif (!(Xv (((Qa code)).1))) then (((Qi (X2 (((Qc code)).1) (((Qc code)).2.1) (((Qc code)).2.2.1) (((Qc code)).2.2.2))).length : Int) == ((Xg (((Qc code)).1) (((Qc code)).2.1) (((Qc code)).2.2.1) (((Qc code)).2.2.2)).length : Int)) else ((X3 (Qi (Xw (((Qa code)).1) (((Qa code)).2.1) (((Qa code)).2.2.1) (((Qa code)).2.2.2))) (Xg (((Qa code)).2.2.1) (((Qa code)).2.2.2) ((((Qa code)).1).1) ((((Qa code)).1).2.1))) && (decide ((((Xw (((Qa code)).1) (((Qa code)).2.1) (((Qa code)).2.2.1) (((Qa code)).2.2.2)).2.2.2).length : Int) ≤ IntKind.i64.wrap ((((((Qa code)).1).2.2.2).length : Int) + 1)) && (((Qi (X2 (((Qc code)).1) (((Qc code)).2.1) (((Qc code)).2.2.1) (((Qc code)).2.2.2))).length : Int) == ((Xg (((Qc code)).1) (((Qc code)).2.1) (((Qc code)).2.2.1) (((Qc code)).2.2.2)).length : Int)))))))
theorem Nw (code : (List UInt8)) : ACalls Tryz.prog 3 [.h code] (.b (Dk code)) := by
 refine en Qb Tryz.func3 fun w0 F0 hG => ?_
 have hds := L8 code
 have hdt := QH (((Qa code)).1) (((Qa code)).2.1) (((Qa code)).2.2.1) (((Qa code)).2.2.2)
 have hdr := QM code
 have hdw := UL code
 have hde := QK code
 refine sn Qb [0, 2] [] (p0) ?_
 refine Qe ?_
 refine tn Qb [0, 2, 18] [] (pc 1 (LM code) p0) ?_
 refine ck (QN code) (fun h1 => ?_) (fun h1 => ?_)
 ·
  refine tu Qb [(2, .b true)] [] [] [] (p0) ?_
  refine Qf ?_
  exact pb [] (Q8 h1 (rfl))
 ·
  refine Qj ?_
  refine tu Qb [(2, .b false), (3, .p 3 0), (4, .i (((Qa code)).2.1)), (5, .p 5 0), (6, .h (((Qa code)).2.2.2))] [] [(3, [.i ((((Qa code)).1).1), .s ((((Qa code)).1).2.1), .o 1344 ((((Qa code)).1).2.2.1), .o 1345 ((((Qa code)).1).2.2.2)]), (5, [.h ((((Qa code)).2.2.1).1), .q 1346 ((((Qa code)).2.2.1).2.1), .i ((((Qa code)).2.2.1).2.2)])] [] (pc 1 (R3 code) p0) ?_
  refine sn Qb [0, 2, 3, 4, 5, 6, 7] [3, 5, 7] (pc 4 (UF (((Qa code)).1) (((Qa code)).2.1) (((Qa code)).2.2.1) (((Qa code)).2.2.2) (by omega)) p0) ?_
  refine tn Qb [0, 2, 3, 4, 5, 6, 7, 8, 9, 10, 11] [3, 5, 7, 8] (pc 1 (Po code) p0) ?_
  refine tu Qb [(7, .p 7 0), (8, .p 8 0), (9, .h (((Qc code)).2.1)), (10, .i (((Qc code)).2.2.1)), (11, .s (((Qc code)).2.2.2)), (12, .p 12 0)] [] [(7, [.i ((Xw (((Qa code)).1) (((Qa code)).2.1) (((Qa code)).2.2.1) (((Qa code)).2.2.2)).1), .s ((Xw (((Qa code)).1) (((Qa code)).2.1) (((Qa code)).2.2.1) (((Qa code)).2.2.2)).2.1), .o 1920 ((Xw (((Qa code)).1) (((Qa code)).2.1) (((Qa code)).2.2.1) (((Qa code)).2.2.2)).2.2.1), .o 1921 ((Xw (((Qa code)).1) (((Qa code)).2.1) (((Qa code)).2.2.1) (((Qa code)).2.2.2)).2.2.2)]), (8, [.h ((((Qc code)).1).1), .q 2112 ((((Qc code)).1).2.1), .i ((((Qc code)).1).2.2)]), (12, [.i ((X2 (((Qc code)).1) (((Qc code)).2.1) (((Qc code)).2.2.1) (((Qc code)).2.2.2)).1), .s ((X2 (((Qc code)).1) (((Qc code)).2.1) (((Qc code)).2.2.1) (((Qc code)).2.2.2)).2.1), .o 2688 ((X2 (((Qc code)).1) (((Qc code)).2.1) (((Qc code)).2.2.1) (((Qc code)).2.2.2)).2.2.1), .o 2689 ((X2 (((Qc code)).1) (((Qc code)).2.1) (((Qc code)).2.2.1) (((Qc code)).2.2.2)).2.2.2)])] [] (pc 4 (XG (((Qc code)).1) (((Qc code)).2.1) (((Qc code)).2.2.1) (((Qc code)).2.2.2)) p0) ?_
  refine sn Qb [0, 2, 3, 4, 5, 6, 7, 8, 9, 10, 11, 12, 13, 14] [3, 5, 7, 8, 12, 13] (pc 1 (L7 code) p0) ?_
  refine tn Qb [2, 3, 4, 5, 6, 7, 8, 9, 10, 11, 12, 13, 14, 15, 16] [3, 5, 7, 8, 12, 13] (pc 1 (I1 code) p0) ?_
  refine Qe ?_
  refine Qe ?_
  refine mz [(13, .p 13 0), (14, .i (((Qg code)).2)), (15, .o 3200 (((Qh code)).1)), (16, .o 3201 (((Qh code)).2))] [0] [(13, [.i ((((Qg code)).1).1), .s ((((Qg code)).1).2.1), .o 2880 ((((Qg code)).1).2.2.1), .o 2881 ((((Qg code)).1).2.2.2)])] [] ?_
  refine jn [(105, .b ((!(Z4 (Xw (((Qa code)).1) (((Qa code)).2.1) (((Qa code)).2.2.1) (((Qa code)).2.2.2)) (Zg (((Qa code)).1) (((Qa code)).2.1) (((Qa code)).2.2.1) (((Qa code)).2.2.2)))) || ((!(Z4 (X2 (((Qc code)).1) (((Qc code)).2.1) (((Qc code)).2.2.1) (((Qc code)).2.2.2)) (Yj (((Qc code)).1) (((Qc code)).2.1) (((Qc code)).2.2.1) (((Qc code)).2.2.2)))) || ((!(Jk (Zf (((Qg code)).1) (((Qg code)).2)) (Zp (((Qg code)).1) (((Qg code)).2)))) || ((!(X3 (Qp (((Qh code)).1) (((Qh code)).2)) (X8 (((Qh code)).1) (((Qh code)).2)))) || ((!((Yo (((Qa code)).1)) == (Xv (((Qa code)).1)))) || (!(X3 (Qi (((Qa code)).1)) (Q4 (((Qa code)).1))))))))))] [4, 13, 14, 15, 16] [] [13] (!(Z4 (Xw (((Qa code)).1) (((Qa code)).2.1) (((Qa code)).2.2.1) (((Qa code)).2.2.2)) (Zg (((Qa code)).1) (((Qa code)).2.1) (((Qa code)).2.2.1) (((Qa code)).2.2.2)))) (fun h2 => ?_) (fun h2 => ?_) ?_
  ·
   have h2n : (Z4 (Xw (((Qa code)).1) (((Qa code)).2.1) (((Qa code)).2.2.1) (((Qa code)).2.2.2)) (Zg (((Qa code)).1) (((Qa code)).2.1) (((Qa code)).2.2.1) (((Qa code)).2.2.2))) = false := Wz h2
   refine rU Qb Yn [(105, .b true)] [4, 13, 14, 15, 16] [] [13] (pc 5 (Ab (((Qa code)).1) (((Qa code)).2.1) (((Qa code)).2.2.1) (((Qa code)).2.2.2) (by omega)) (pc 6 (cb h2n (Kb (Xw (((Qa code)).1) (((Qa code)).2.1) (((Qa code)).2.2.1) (((Qa code)).2.2.2)) (Zg (((Qa code)).1) (((Qa code)).2.1) (((Qa code)).2.2.1) (((Qa code)).2.2.2)))) (pe 7 (show .b (!false) = .b true from rfl) p0))) ?_
   exact ⟨rfl, Qd (by rw [h2]; first | done | kernel_rfl)⟩
  ·
   have h2n : (Z4 (Xw (((Qa code)).1) (((Qa code)).2.1) (((Qa code)).2.2.1) (((Qa code)).2.2.2)) (Zg (((Qa code)).1) (((Qa code)).2.1) (((Qa code)).2.2.1) (((Qa code)).2.2.2))) = true := Je h2
   refine Xb (!(Z4 (X2 (((Qc code)).1) (((Qc code)).2.1) (((Qc code)).2.2.1) (((Qc code)).2.2.2)) (Yj (((Qc code)).1) (((Qc code)).2.1) (((Qc code)).2.2.1) (((Qc code)).2.2.2)))) (fun h3 => ?_) (fun h3 => ?_)
   ·
    have h3n : (Z4 (X2 (((Qc code)).1) (((Qc code)).2.1) (((Qc code)).2.2.1) (((Qc code)).2.2.2)) (Yj (((Qc code)).1) (((Qc code)).2.1) (((Qc code)).2.2.1) (((Qc code)).2.2.2))) = false := Wz h3
    refine rU Qb Yn [(105, .b true)] [4, 13, 14, 15, 16] [] [13] (pc 5 (Ab (((Qa code)).1) (((Qa code)).2.1) (((Qa code)).2.2.1) (((Qa code)).2.2.2) (by omega)) (pc 6 (cb h2n (Kb (Xw (((Qa code)).1) (((Qa code)).2.1) (((Qa code)).2.2.1) (((Qa code)).2.2.2)) (Zg (((Qa code)).1) (((Qa code)).2.1) (((Qa code)).2.2.1) (((Qa code)).2.2.2)))) (pe 7 (show .b (!true) = .b false from rfl) (pc 14 (Hm (((Qc code)).1) (((Qc code)).2.1) (((Qc code)).2.2.1) (((Qc code)).2.2.2)) (pc 15 (cb h3n (Kb (X2 (((Qc code)).1) (((Qc code)).2.1) (((Qc code)).2.2.1) (((Qc code)).2.2.2)) (Yj (((Qc code)).1) (((Qc code)).2.1) (((Qc code)).2.2.1) (((Qc code)).2.2.2)))) (pe 16 (show .b (!false) = .b true from rfl) p0)))))) ?_
    exact ⟨rfl, Qd (by rw [h2, h3]; first | done | kernel_rfl)⟩
   ·
    have h3n : (Z4 (X2 (((Qc code)).1) (((Qc code)).2.1) (((Qc code)).2.2.1) (((Qc code)).2.2.2)) (Yj (((Qc code)).1) (((Qc code)).2.1) (((Qc code)).2.2.1) (((Qc code)).2.2.2))) = true := Je h3
    refine Xb (!(Jk (Zf (((Qg code)).1) (((Qg code)).2)) (Zp (((Qg code)).1) (((Qg code)).2)))) (fun h4 => ?_) (fun h4 => ?_)
    ·
     have h4n : (Jk (Zf (((Qg code)).1) (((Qg code)).2)) (Zp (((Qg code)).1) (((Qg code)).2))) = false := Wz h4
     refine rU Qb Yn [(105, .b true)] [4, 13, 14, 15, 16] [] [13] (pc 5 (Ab (((Qa code)).1) (((Qa code)).2.1) (((Qa code)).2.2.1) (((Qa code)).2.2.2) (by omega)) (pc 6 (cb h2n (Kb (Xw (((Qa code)).1) (((Qa code)).2.1) (((Qa code)).2.2.1) (((Qa code)).2.2.2)) (Zg (((Qa code)).1) (((Qa code)).2.1) (((Qa code)).2.2.1) (((Qa code)).2.2.2)))) (pe 7 (show .b (!true) = .b false from rfl) (pc 14 (Hm (((Qc code)).1) (((Qc code)).2.1) (((Qc code)).2.2.1) (((Qc code)).2.2.2)) (pc 15 (cb h3n (Kb (X2 (((Qc code)).1) (((Qc code)).2.1) (((Qc code)).2.2.1) (((Qc code)).2.2.2)) (Yj (((Qc code)).1) (((Qc code)).2.1) (((Qc code)).2.2.1) (((Qc code)).2.2.2)))) (pe 16 (show .b (!true) = .b false from rfl) (pc 21 (Am (((Qg code)).1) (((Qg code)).2)) (pc 24 (An (((Qg code)).1) (((Qg code)).2)) (pc 25 (cb h4n (Hg (Zf (((Qg code)).1) (((Qg code)).2)) (Zp (((Qg code)).1) (((Qg code)).2)))) (pe 26 (show .b (!false) = .b true from rfl) p0)))))))))) ?_
     exact ⟨rfl, Qd (by rw [h2, h3, h4]; first | done | kernel_rfl)⟩
    ·
     have h4n : (Jk (Zf (((Qg code)).1) (((Qg code)).2)) (Zp (((Qg code)).1) (((Qg code)).2))) = true := Je h4
     refine Xb (!(X3 (Qp (((Qh code)).1) (((Qh code)).2)) (X8 (((Qh code)).1) (((Qh code)).2)))) (fun h5 => ?_) (fun h5 => ?_)
     ·
      have h5n : (X3 (Qp (((Qh code)).1) (((Qh code)).2)) (X8 (((Qh code)).1) (((Qh code)).2))) = false := Wz h5
      refine rU Qb Yn [(105, .b true)] [4, 13, 14, 15, 16] [] [13] (pc 5 (Ab (((Qa code)).1) (((Qa code)).2.1) (((Qa code)).2.2.1) (((Qa code)).2.2.2) (by omega)) (pc 6 (cb h2n (Kb (Xw (((Qa code)).1) (((Qa code)).2.1) (((Qa code)).2.2.1) (((Qa code)).2.2.2)) (Zg (((Qa code)).1) (((Qa code)).2.1) (((Qa code)).2.2.1) (((Qa code)).2.2.2)))) (pe 7 (show .b (!true) = .b false from rfl) (pc 14 (Hm (((Qc code)).1) (((Qc code)).2.1) (((Qc code)).2.2.1) (((Qc code)).2.2.2)) (pc 15 (cb h3n (Kb (X2 (((Qc code)).1) (((Qc code)).2.1) (((Qc code)).2.2.1) (((Qc code)).2.2.2)) (Yj (((Qc code)).1) (((Qc code)).2.1) (((Qc code)).2.2.1) (((Qc code)).2.2.2)))) (pe 16 (show .b (!true) = .b false from rfl) (pc 21 (Am (((Qg code)).1) (((Qg code)).2)) (pc 24 (An (((Qg code)).1) (((Qg code)).2)) (pc 25 (cb h4n (Hg (Zf (((Qg code)).1) (((Qg code)).2)) (Zp (((Qg code)).1) (((Qg code)).2)))) (pe 26 (show .b (!true) = .b false from rfl) (pc 31 (Us (((Qh code)).1) (((Qh code)).2) (by omega)) (pc 34 (Ut (((Qh code)).1) (((Qh code)).2) (by omega)) (pc 35 (cb h5n (Kd (Qp (((Qh code)).1) (((Qh code)).2)) (X8 (((Qh code)).1) (((Qh code)).2)))) (pe 36 (show .b (!false) = .b true from rfl) p0)))))))))))))) ?_
      exact ⟨rfl, Qd (by rw [h2, h3, h4, h5]; first | done | kernel_rfl)⟩
     ·
      have h5n : (X3 (Qp (((Qh code)).1) (((Qh code)).2)) (X8 (((Qh code)).1) (((Qh code)).2))) = true := Je h5
      refine Xb (!((Yo (((Qa code)).1)) == (Xv (((Qa code)).1)))) (fun h6 => ?_) (fun h6 => ?_)
      ·
       have h6n : ((Yo (((Qa code)).1)) == (Xv (((Qa code)).1))) = false := Wz h6
       have h6nd := Yb h6n
       refine rU Qb Yn [(105, .b true)] [4, 13, 14, 15, 16] [] [13] (pc 5 (Ab (((Qa code)).1) (((Qa code)).2.1) (((Qa code)).2.2.1) (((Qa code)).2.2.2) (by omega)) (pc 6 (cb h2n (Kb (Xw (((Qa code)).1) (((Qa code)).2.1) (((Qa code)).2.2.1) (((Qa code)).2.2.2)) (Zg (((Qa code)).1) (((Qa code)).2.1) (((Qa code)).2.2.1) (((Qa code)).2.2.2)))) (pe 7 (show .b (!true) = .b false from rfl) (pc 14 (Hm (((Qc code)).1) (((Qc code)).2.1) (((Qc code)).2.2.1) (((Qc code)).2.2.2)) (pc 15 (cb h3n (Kb (X2 (((Qc code)).1) (((Qc code)).2.1) (((Qc code)).2.2.1) (((Qc code)).2.2.2)) (Yj (((Qc code)).1) (((Qc code)).2.1) (((Qc code)).2.2.1) (((Qc code)).2.2.2)))) (pe 16 (show .b (!true) = .b false from rfl) (pc 21 (Am (((Qg code)).1) (((Qg code)).2)) (pc 24 (An (((Qg code)).1) (((Qg code)).2)) (pc 25 (cb h4n (Hg (Zf (((Qg code)).1) (((Qg code)).2)) (Zp (((Qg code)).1) (((Qg code)).2)))) (pe 26 (show .b (!true) = .b false from rfl) (pc 31 (Us (((Qh code)).1) (((Qh code)).2) (by omega)) (pc 34 (Ut (((Qh code)).1) (((Qh code)).2) (by omega)) (pc 35 (cb h5n (Kd (Qp (((Qh code)).1) (((Qh code)).2)) (X8 (((Qh code)).1) (((Qh code)).2)))) (pe 36 (show .b (!true) = .b false from rfl) (pc 40 (Fz (((Qa code)).1) (by omega)) (pc 42 (Cz (((Qa code)).1) (by omega)) (pt 43 h6 p0))))))))))))))))) ?_
       exact ⟨rfl, Qd (by rw [h2, h3, h4, h5, h6]; first | done | kernel_rfl)⟩
      ·
       have h6n : ((Yo (((Qa code)).1)) == (Xv (((Qa code)).1))) = true := Je h6
       have h6nd := eq_of_beq h6n
       refine rN Qb Yn [2, 3, 5, 6, 7, 8, 9, 10, 11, 12, 105] [3, 5, 7, 8, 12] (pc 5 (Ab (((Qa code)).1) (((Qa code)).2.1) (((Qa code)).2.2.1) (((Qa code)).2.2.2) (by omega)) (pc 6 (cb h2n (Kb (Xw (((Qa code)).1) (((Qa code)).2.1) (((Qa code)).2.2.1) (((Qa code)).2.2.2)) (Zg (((Qa code)).1) (((Qa code)).2.1) (((Qa code)).2.2.1) (((Qa code)).2.2.2)))) (pe 7 (show .b (!true) = .b false from rfl) (pc 14 (Hm (((Qc code)).1) (((Qc code)).2.1) (((Qc code)).2.2.1) (((Qc code)).2.2.2)) (pc 15 (cb h3n (Kb (X2 (((Qc code)).1) (((Qc code)).2.1) (((Qc code)).2.2.1) (((Qc code)).2.2.2)) (Yj (((Qc code)).1) (((Qc code)).2.1) (((Qc code)).2.2.1) (((Qc code)).2.2.2)))) (pe 16 (show .b (!true) = .b false from rfl) (pc 21 (Am (((Qg code)).1) (((Qg code)).2)) (pc 24 (An (((Qg code)).1) (((Qg code)).2)) (pc 25 (cb h4n (Hg (Zf (((Qg code)).1) (((Qg code)).2)) (Zp (((Qg code)).1) (((Qg code)).2)))) (pe 26 (show .b (!true) = .b false from rfl) (pc 31 (Us (((Qh code)).1) (((Qh code)).2) (by omega)) (pc 34 (Ut (((Qh code)).1) (((Qh code)).2) (by omega)) (pc 35 (cb h5n (Kd (Qp (((Qh code)).1) (((Qh code)).2)) (X8 (((Qh code)).1) (((Qh code)).2)))) (pe 36 (show .b (!true) = .b false from rfl) (pc 40 (Fz (((Qa code)).1) (by omega)) (pc 42 (Cz (((Qa code)).1) (by omega)) (pf 43 h6 (pc 47 (Ve (((Qa code)).1) (by first | omega | (rw [U7]; omega) | exact Nat.le_trans (findWatch_size x i) hp | exact Nat.le_trans (findWatch_sizeS x i) hp)) (pc 49 (Fx (((Qa code)).1) (by first | omega | (rw [U7]; omega) | exact Nat.le_trans (findWatch_size x i) hp | exact Nat.le_trans (findWatch_sizeS x i) hp)) (pc 50 (Kd (Qi (((Qa code)).1)) (Q4 (((Qa code)).1))) p0)))))))))))))))))))) ?_
       exact ⟨rfl, Qd (by rw [h2, h3, h4, h5, h6]; first | done | kernel_rfl)⟩
  refine ck ((!(Z4 (Xw (((Qa code)).1) (((Qa code)).2.1) (((Qa code)).2.2.1) (((Qa code)).2.2.2)) (Zg (((Qa code)).1) (((Qa code)).2.1) (((Qa code)).2.2.1) (((Qa code)).2.2.2)))) || ((!(Z4 (X2 (((Qc code)).1) (((Qc code)).2.1) (((Qc code)).2.2.1) (((Qc code)).2.2.2)) (Yj (((Qc code)).1) (((Qc code)).2.1) (((Qc code)).2.2.1) (((Qc code)).2.2.2)))) || ((!(Jk (Zf (((Qg code)).1) (((Qg code)).2)) (Zp (((Qg code)).1) (((Qg code)).2)))) || ((!(X3 (Qp (((Qh code)).1) (((Qh code)).2)) (X8 (((Qh code)).1) (((Qh code)).2)))) || ((!((Yo (((Qa code)).1)) == (Xv (((Qa code)).1)))) || (!(X3 (Qi (((Qa code)).1)) (Q4 (((Qa code)).1))))))))) (fun h7 => ?_) (fun h7 => ?_)
  ·
   refine su Qb [] [105] [] [] (p0) ?_
   refine Qf ?_
   exact pb [] (Qn h1 (Q8 h7 (rfl)))
  ·
   have h7r : (((!(Z4 (X2 (((Qc code)).1) (((Qc code)).2.1) (((Qc code)).2.2.1) (((Qc code)).2.2.2)) (Yj (((Qc code)).1) (((Qc code)).2.1) (((Qc code)).2.2.1) (((Qc code)).2.2.2)))) || ((!(Jk (Zf (((Qg code)).1) (((Qg code)).2)) (Zp (((Qg code)).1) (((Qg code)).2)))) || ((!(X3 (Qp (((Qh code)).1) (((Qh code)).2)) (X8 (((Qh code)).1) (((Qh code)).2)))) || ((!((Yo (((Qa code)).1)) == (Xv (((Qa code)).1)))) || (!(X3 (Qi (((Qa code)).1)) (Q4 (((Qa code)).1))))))))) = false := I0 h7
   have h7rr : (((!(Jk (Zf (((Qg code)).1) (((Qg code)).2)) (Zp (((Qg code)).1) (((Qg code)).2)))) || ((!(X3 (Qp (((Qh code)).1) (((Qh code)).2)) (X8 (((Qh code)).1) (((Qh code)).2)))) || ((!((Yo (((Qa code)).1)) == (Xv (((Qa code)).1)))) || (!(X3 (Qi (((Qa code)).1)) (Q4 (((Qa code)).1)))))))) = false := I0 h7r
   have h7rrr : (((!(X3 (Qp (((Qh code)).1) (((Qh code)).2)) (X8 (((Qh code)).1) (((Qh code)).2)))) || ((!((Yo (((Qa code)).1)) == (Xv (((Qa code)).1)))) || (!(X3 (Qi (((Qa code)).1)) (Q4 (((Qa code)).1))))))) = false := I0 h7rr
   have h7rrrr : (((!((Yo (((Qa code)).1)) == (Xv (((Qa code)).1)))) || (!(X3 (Qi (((Qa code)).1)) (Q4 (((Qa code)).1)))))) = false := I0 h7rrr
   have h7rrrrl : ((!((Yo (((Qa code)).1)) == (Xv (((Qa code)).1))))) = false := Pq h7rrrr
   have h7rrrrln : ((Yo (((Qa code)).1)) == (Xv (((Qa code)).1))) = true := Je h7rrrrl
   have h7rrrrlnd := eq_of_beq h7rrrrln
   refine Qj ?_
   refine Qe ?_
   refine sn Qb [2, 3, 5, 6, 7, 8, 9, 10, 11, 12, 108] [3, 5, 7, 8, 12] (pc 1 (Cz (((Qa code)).1) (by omega)) p0) ?_
   refine ck (!(Xv (((Qa code)).1))) (fun h8 => ?_) (fun h8 => ?_)
   ·
    refine tN Qb Yn [2, 3, 5, 6, 7, 8, 9, 10, 11, 12] [3, 5, 7, 8, 12] (pc 1 (Ve (X2 (((Qc code)).1) (((Qc code)).2.1) (((Qc code)).2.2.1) (((Qc code)).2.2.2)) (by first | omega | (rw [U7]; omega) | exact Nat.le_trans (findWatch_size x i) hp | exact Nat.le_trans (findWatch_sizeS x i) hp)) (pl 2 (Qi (X2 (((Qc code)).1) (((Qc code)).2.1) (((Qc code)).2.2.1) (((Qc code)).2.2.2))) (pc 7 (Hb (((Qc code)).1) (((Qc code)).2.1) (((Qc code)).2.2.1) (((Qc code)).2.2.2)) (pl 8 (Xg (((Qc code)).1) (((Qc code)).2.1) (((Qc code)).2.2.1) (((Qc code)).2.2.2)) p0)))) ?_
    refine Qf ?_
    exact pb [] (Qn h1 (Qn h7 (Q8 h8 (rfl))))
   ·
    refine Qj ?_
    refine Qe ?_
    refine mz [(108, .b (!(Xv (((Qa code)).1))))] [105] [] [] ?_
    refine jn [(2, .b ((X3 (Qi (Xw (((Qa code)).1) (((Qa code)).2.1) (((Qa code)).2.2.1) (((Qa code)).2.2.2))) (Xg (((Qa code)).2.2.1) (((Qa code)).2.2.2) ((((Qa code)).1).1) ((((Qa code)).1).2.1))) && (decide ((((Xw (((Qa code)).1) (((Qa code)).2.1) (((Qa code)).2.2.1) (((Qa code)).2.2.2)).2.2.2).length : Int) ≤ IntKind.i64.wrap ((((((Qa code)).1).2.2.2).length : Int) + 1)) && (((Qi (X2 (((Qc code)).1) (((Qc code)).2.1) (((Qc code)).2.2.1) (((Qc code)).2.2.2))).length : Int) == ((Xg (((Qc code)).1) (((Qc code)).2.1) (((Qc code)).2.2.1) (((Qc code)).2.2.2)).length : Int)))))] [2, 3, 5, 6, 7, 8, 9, 10, 11, 12, 108] [] [3, 5, 7, 8, 12] (X3 (Qi (Xw (((Qa code)).1) (((Qa code)).2.1) (((Qa code)).2.2.1) (((Qa code)).2.2.2))) (Xg (((Qa code)).2.2.1) (((Qa code)).2.2.2) ((((Qa code)).1).1) ((((Qa code)).1).2.1))) (fun h9 => ?_) (fun h9 => ?_) ?_
    ·
     refine Xb (decide ((((Xw (((Qa code)).1) (((Qa code)).2.1) (((Qa code)).2.2.1) (((Qa code)).2.2.2)).2.2.2).length : Int) ≤ IntKind.i64.wrap ((((((Qa code)).1).2.2.2).length : Int) + 1))) (fun h10 => ?_) (fun h10 => ?_)
     ·
      have h10d := of_decide_eq_true h10
      refine rN Qb Yn [2] [] (pc 1 (Ve (Xw (((Qa code)).1) (((Qa code)).2.1) (((Qa code)).2.2.1) (((Qa code)).2.2.2)) (by first | omega | (rw [U7]; omega) | exact Nat.le_trans (findWatch_size x i) hp | exact Nat.le_trans (findWatch_sizeS x i) hp)) (pc 8 (Hb (((Qa code)).2.2.1) (((Qa code)).2.2.2) ((((Qa code)).1).1) ((((Qa code)).1).2.1)) (pc 9 (cb h9 (Kd (Qi (Xw (((Qa code)).1) (((Qa code)).2.1) (((Qa code)).2.2.1) (((Qa code)).2.2.2))) (Xg (((Qa code)).2.2.1) (((Qa code)).2.2.2) ((((Qa code)).1).1) ((((Qa code)).1).2.1)))) (pl 13 ((Xw (((Qa code)).1) (((Qa code)).2.1) (((Qa code)).2.2.1) (((Qa code)).2.2.2)).2.2.2) (pl 16 ((((Qa code)).1).2.2.2) (pt 18 h10 (pc 22 (Ve (X2 (((Qc code)).1) (((Qc code)).2.1) (((Qc code)).2.2.1) (((Qc code)).2.2.2)) (by first | omega | (rw [U7]; omega) | exact Nat.le_trans (findWatch_size x i) hp | exact Nat.le_trans (findWatch_sizeS x i) hp)) (pl 23 (Qi (X2 (((Qc code)).1) (((Qc code)).2.1) (((Qc code)).2.2.1) (((Qc code)).2.2.2))) (pc 28 (Hb (((Qc code)).1) (((Qc code)).2.1) (((Qc code)).2.2.1) (((Qc code)).2.2.2)) (pl 29 (Xg (((Qc code)).1) (((Qc code)).2.1) (((Qc code)).2.2.1) (((Qc code)).2.2.2)) p0)))))))))) ?_
      exact ⟨rfl, Qd (by rw [h9, h10]; first | done | kernel_rfl)⟩
     ·
      have h10d := of_decide_eq_false h10
      refine rN Qb Yn [2] [] (pc 1 (Ve (Xw (((Qa code)).1) (((Qa code)).2.1) (((Qa code)).2.2.1) (((Qa code)).2.2.2)) (by first | omega | (rw [U7]; omega) | exact Nat.le_trans (findWatch_size x i) hp | exact Nat.le_trans (findWatch_sizeS x i) hp)) (pc 8 (Hb (((Qa code)).2.2.1) (((Qa code)).2.2.2) ((((Qa code)).1).1) ((((Qa code)).1).2.1)) (pc 9 (cb h9 (Kd (Qi (Xw (((Qa code)).1) (((Qa code)).2.1) (((Qa code)).2.2.1) (((Qa code)).2.2.2))) (Xg (((Qa code)).2.2.1) (((Qa code)).2.2.2) ((((Qa code)).1).1) ((((Qa code)).1).2.1)))) (pl 13 ((Xw (((Qa code)).1) (((Qa code)).2.1) (((Qa code)).2.2.1) (((Qa code)).2.2.2)).2.2.2) (pl 16 ((((Qa code)).1).2.2.2) (pf 18 h10 p0)))))) ?_
      exact ⟨rfl, Qd (by rw [h9, h10]; first | done | kernel_rfl)⟩
    ·
     refine rN Qb Yn [2] [] (pc 1 (Ve (Xw (((Qa code)).1) (((Qa code)).2.1) (((Qa code)).2.2.1) (((Qa code)).2.2.2)) (by first | omega | (rw [U7]; omega) | exact Nat.le_trans (findWatch_size x i) hp | exact Nat.le_trans (findWatch_sizeS x i) hp)) (pc 8 (Hb (((Qa code)).2.2.1) (((Qa code)).2.2.2) ((((Qa code)).1).1) ((((Qa code)).1).2.1)) (pc 9 (cb h9 (Kd (Qi (Xw (((Qa code)).1) (((Qa code)).2.1) (((Qa code)).2.2.1) (((Qa code)).2.2.2))) (Xg (((Qa code)).2.2.1) (((Qa code)).2.2.2) ((((Qa code)).1).1) ((((Qa code)).1).2.1)))) p0))) ?_
     exact ⟨rfl, Qd (by rw [h9]; first | done | kernel_rfl)⟩
    refine Qf ?_
    exact pb [] (Qn h1 (Qn h7 (Qn h8 (rfl))))
end Go.Proofs.YtockoklfegpgeaaGreat
namespace Go.Proofs.YtockoklfegpgeaaGreat
open Go.RowKit
theorem QP : ∀ (l : List Yp) (k : Nat) (s : List Int), Xm K2 W5 l k s = .brk (l.foldl (fun s a => Zs s a.2.1 a.2.2) s)
  | [], k, s => rfl
  | a :: l, k, s => by
    simp only [Xm, K2, List.foldl_cons]
    exact QP l (k + 1) _
theorem Pp (s : List Int) (l : List Yp) : Qp s l = l.foldl (fun s a => Zs s a.2.1 a.2.2) s := by
  unfold Qp
  rw [QP]
  rfl
theorem YY (s : List Int) (l m : List Yp) : Qp s (l ++ m) = Qp (Qp s l) m := by
  rw [Pp, Pp, Pp, List.foldl_append]
def bef (w : Yu) (k : Nat) : List Int := Qp w.2.2.1 (List.take k w.2.2.2)
theorem CX {w : Yu} {k : Nat} {a : Yp} (h : w.2.2.2[k]? = some a) : X8 (bef w k) [a] = bef w (k + 1) := by
  unfold bef
  rw [Pk, List.take_add_one, h, YY]
  rfl
structure PW (w : Yu) (k : Nat) (a : Yp) : Prop where
  a1 : Zi a.2.1 = true
  a2 : Zi a.2.2 = true
  a3 : (IntKind.i64.wrap ((a.2.1.length : Int) + (a.2.2.length : Int)) == (0 : Int)) = false
  a4 : (decide (((k : Nat) : Int) > (0 : Int)) && decide ((nth w.2.2.2 (Int.toNat (((k : Nat) : Int) - 1))).1 ≥ a.1)) = false
  a5 : ∀ x, x ∈ a.2.1 → Xx (bef w k) x = false
  a6 : ∀ x, x ∈ a.2.2 → Xx (bef w k) x = true
theorem TQ {w : Yu} (hu : Q6 w.1 0 2 = true) (hi : Zi w.2.2.1 = true) (h : ∀ (k : Nat) (a : Yp), w.2.2.2[k]? = some a → PW w k a) : Xv w = true := by
  have key : ∀ (l : List Yp) (k : Nat), w.2.2.2.drop k = l → Xm (Yr w) Ja l k (bef w k) = .brk () := by
    intro l
    induction l with
    | nil => intro k _; rfl
    | cons a l ih =>
      intro k hk
      have ha : w.2.2.2[k]? = some a := by
        have := congrArg (·[0]?) hk
        simpa using this
      have p := h k a ha
      have hrest : w.2.2.2.drop (k + 1) = l := by rw [← List.drop_drop, hk]; rfl
      have h1 : Xm (Z8 (bef w k)) W7 a.2.1 0 () = .brk () := Be a.2.1 0 fun i x hx => by
        unfold Z8
        rw [p.a5 x (List.mem_of_getElem? hx)]
        rfl
      have h2 : Xm (Z9 (bef w k)) W8 a.2.2 0 () = .brk () := Be a.2.2 0 fun i x hx => by
        unfold Z9
        rw [p.a6 x (List.mem_of_getElem? hx)]
        rfl
      have hf : Yr w k a (bef w k) = .next (bef w (k + 1)) := by
        unfold Yr
        rw [p.a1, p.a2, p.a3, p.a4, h1, h2, CX ha]
        rfl
      simp only [Xm, hf]
      exact ih (k + 1) hrest
  have h0 : bef w 0 = w.2.2.1 := rfl
  unfold Xv
  rw [← h0, key w.2.2.2 0 rfl]
  simp only [Out.on, hu, h0, hi, Bool.and_self]
theorem CY {a b : List Int} (h : (((less a b).length : Int) != (a.length : Int)) = false) : ∀ x, x ∈ a → b.contains x = false := by
  have h : (less a b).length = a.length := by have := We h; omega
  intro x hx
  have h2 := List.length_filter_eq_length_iff.1 (show (a.filter _).length = a.length from h) x hx
  simpa using h2
theorem UM {a b : List Int} (h : (((less a b).length : Int) != (0 : Int)) = false) : ∀ x, x ∈ a → b.contains x = true := by
  have h : (less a b).length = 0 := by have := We h; omega
  intro x hx
  have h2 := List.filter_eq_nil_iff.1 (List.length_eq_zero_iff.1 (show (a.filter _).length = 0 from h)) x hx
  simpa using h2
theorem TR {w : Yu} (h : Yo w = true) : Xv w = true := by
  unfold Yo at h
  cases hc : ((!(Zz w.1)) || (!(Ye w.2.2.1))) with
  | true => rw [hc] at h; simp at h
  | false =>
    rw [hc] at h
    simp only [cond_false] at h
    have hu : Zz w.1 = true := Je (Pq hc)
    have hi : Ye w.2.2.1 = true := Je (I0 hc)
    cases hl : Xm (Jp w) W6 w.2.2.2 0 () with
    | ret r =>
      rw [hl] at h
      obtain rfl : r = true := h
      exfalso
      have key : ∀ (l : List Yp) k, Xm (Jp w) W6 l k () ≠ .ret true := by
        intro l
        induction l with
        | nil => intro k h; simp [Xm] at h
        | cons a l ih =>
          intro k h
          simp only [Xm] at h
          unfold Jp at h
          split at h
          · exact ih _ h
          · cases h
          · rename_i r hf; cases h; revert hf; generalize (_ || _ : Bool) = c; cases c <;> simp
      exact key _ _ hl
    | brk t =>
      have hall := Fs (fun k a t => by unfold Jp; generalize (_ || _ : Bool) = c; cases c <;> simp) hl
      refine TQ ?_ hi fun k a ha => ?_
      · rw [← On]; exact hu
      · have hk := hall k a ha
        rw [Nat.zero_add] at hk
        unfold Jp at hk
        generalize hC : ((!(Ye a.2.1)) || _ : Bool) = C at hk
        cases C with
        | true => simp at hk
        | false =>
          have c1 := Pq hC
          have c2 := Pq (I0 hC)
          have c3 := Pq (I0 (I0 hC))
          have c4 := I0 (I0 (I0 hC))
          have hb : bef w k = Qp w.2.2.1 (List.take k w.2.2.2) := rfl
          rw [← hb] at c4
          by_cases h0 : ((k : Nat) : Int) > 0
          · rw [decide_eq_true h0] at c4
            simp only [cond_true] at c4
            exact ⟨Je c1, Je c2, c3, by rw [Pq c4, Bool.and_false], fun x hx => by rw [L3]; exact CY (Pq (I0 c4)) x hx, fun x hx => by rw [L3]; exact UM (I0 (I0 c4)) x hx⟩
          · rw [decide_eq_false h0] at c4
            simp only [cond_false] at c4
            exact ⟨Je c1, Je c2, c3, by rw [decide_eq_false h0, Bool.false_and], fun x hx => by rw [L3]; exact CY (Pq c4) x hx, fun x hx => by rw [L3]; exact UM (I0 c4) x hx⟩
theorem QQ {α R S T : Type} {f : Nat → α → S → Rd R S T} {e : Nat → S → T} {v : R} (hf : ∀ k a s r, f k a s = .ret r → r = v) : ∀ (l : List α) (k : Nat) (s : S) (r : R), Xm f e l k s = .ret r → r = v
  | [], k, s, r, h => by simp [Xm] at h
  | a :: l, k, s, r, h => by
    simp only [Xm] at h
    cases hs : f k a s with
    | next s' => rw [hs] at h; exact QQ hf l (k + 1) s' r h
    | brk t => rw [hs] at h; cases h
    | ret r' =>
      rw [hs] at h
      obtain rfl : r' = r := by simpa using h
      exact hf k a s r' hs
theorem C6 (l : List Int) : X3 l l = true := by
  unfold X3
  rw [Be l 0 (fun i a hi => by
    unfold C4
    rw [Nat.zero_add, Lh hi]
    simp)]
  simp [Out.on]
theorem L9 (l : List Yp) : Jk l l = true := by
  unfold Jk
  rw [Be l 0 (fun i a hi => by
    unfold Ao C5
    rw [Nat.zero_add, Lh hi, C6, C6]
    simp)]
  simp [Out.on]
theorem XH (w : Yu) : Z4 w w = true := by
  unfold Z4
  rw [C6, L9]
  simp
theorem UN (ids a r : List Int) (x : Int) : x ∈ Zs ids a r ↔ x ∈ a ∨ (x ∈ ids ∧ x ∉ r) := by
  have h : Zs ids a r = Rh ids a r := Ri ids a r
  rw [h]
  unfold Rh
  rw [Gs, Gs]
  simp [less]
theorem Sj {a b : List Int} {x : Int} : x ∈ less a b ↔ x ∈ a ∧ x ∉ b := by simp [less]
theorem Qbx (w : Yu) (k : Nat) (a : Yp) (s : List Int) : Yr w k a s = .ret false ∨ (Yr w k a s = .next (X8 s [a]) ∧ Zi a.2.1 = true ∧ Zi a.2.2 = true ∧ (IntKind.i64.wrap ((a.2.1.length : Int) + (a.2.2.length : Int)) == (0 : Int)) = false ∧
    (decide (((k : Nat) : Int) > (0 : Int)) && decide ((nth w.2.2.2 (Int.toNat (((k : Nat) : Int) - 1))).1 ≥ a.1)) = false ∧ (∀ x, x ∈ a.2.1 → Xx s x = false) ∧ (∀ x, x ∈ a.2.2 → Xx s x = true)) := by
  unfold Yr
  generalize hC : ((IntKind.i64.wrap ((a.2.1.length : Int) + (a.2.2.length : Int)) == (0 : Int)) || _ : Bool) = C
  cases C with
  | true => exact .inl rfl
  | false =>
    simp only [cond_false]
    have c1 : ∀ k x t r, Z8 s k x t = .ret r → r = .ret false := fun k x t r => by
      unfold Z8
      cases Xx s x with
      | true => intro h; exact (Rd.ret.inj h).symm
      | false => intro h; cases h
    have c2 : ∀ k x t r, Z9 s k x t = .ret r → r = .ret false := fun k x t r => by
      unfold Z9
      cases Xx s x with
      | false => intro h; exact (Rd.ret.inj h).symm
      | true => intro h; cases h
    cases h1 : Xm (Z8 s) W7 a.2.1 0 () with
    | ret r =>
      left
      obtain rfl := QQ (v := .ret false) c1 _ _ _ _ h1
      rfl
    | brk t =>
      simp only [Out.on]
      cases h2 : Xm (Z9 s) W8 a.2.2 0 () with
      | ret r =>
        left
        obtain rfl := QQ (v := .ret false) c2 _ _ _ _ h2
        rfl
      | brk t2 =>
        refine .inr ⟨rfl, Je (Pq (I0 hC)), Je (Pq (I0 (I0 hC))), Pq hC, I0 (I0 (I0 hC)), fun x hx => ?_, fun x hx => ?_⟩
        · obtain ⟨i, hi⟩ := List.getElem?_of_mem hx
          have := Fs (fun k x t => by unfold Z8; cases Xx s x <;> simp) h1 i x hi
          unfold Z8 at this
          cases hc : Xx s x with
          | false => rfl
          | true => rw [hc] at this; cases this
        · obtain ⟨i, hi⟩ := List.getElem?_of_mem hx
          have := Fs (fun k x t => by unfold Z9; cases Xx s x <;> simp) h2 i x hi
          unfold Z9 at this
          cases hc : Xx s x with
          | true => rfl
          | false => rw [hc] at this; cases this
theorem LN {w : Yu} (h : Xv w = true) : Q6 w.1 0 2 = true ∧ Zi w.2.2.1 = true ∧ ∀ (k : Nat) (a : Yp), w.2.2.2[k]? = some a → PW w k a := by
  have key : ∀ (l : List Yp) (k : Nat), w.2.2.2.drop k = l → Xm (Yr w) Ja l k (bef w k) = .ret false ∨ (Xm (Yr w) Ja l k (bef w k) = .brk () ∧ ∀ (i : Nat) (a : Yp), l[i]? = some a → PW w (k + i) a) := by
    intro l
    induction l with
    | nil => intro k _; exact .inr ⟨rfl, fun i a h => by simp at h⟩
    | cons a l ih =>
      intro k hk
      have ha : w.2.2.2[k]? = some a := by
        have := congrArg (·[0]?) hk
        simpa using this
      have hrest : w.2.2.2.drop (k + 1) = l := by rw [← List.drop_drop, hk]; rfl
      rcases Qbx w k a (bef w k) with hf | ⟨hf, p1, p2, p3, p4, p5, p6⟩
      · left; simp only [Xm, hf]
      · rw [CX ha] at hf
        rcases ih (k + 1) hrest with h1 | ⟨h1, h2⟩
        · left; simp only [Xm, hf]; exact h1
        · right
          refine ⟨by simp only [Xm, hf]; exact h1, fun i b hb => ?_⟩
          cases i with
          | zero =>
            obtain rfl : a = b := by simpa using hb
            exact ⟨p1, p2, p3, p4, p5, p6⟩
          | succ i =>
            have := h2 i b (by simpa using hb)
            rwa [show k + 1 + i = k + (i + 1) by omega] at this
  unfold Xv at h
  rcases key w.2.2.2 0 rfl with h1 | ⟨h1, h2⟩
  · have h1 : Xm (Yr w) Ja w.2.2.2 0 w.2.2.1 = .ret false := h1
    rw [h1] at h; cases h
  · have h1 : Xm (Yr w) Ja w.2.2.2 0 w.2.2.1 = .brk () := h1
    rw [h1] at h
    simp only [Out.on, Bool.and_eq_true] at h
    exact ⟨h.1, h.2, fun k a ha => by have := h2 k a ha; rwa [Nat.zero_add] at this⟩
theorem TS {w : Yu} (hu : Zz w.1 = true) (hi : Ye w.2.2.1 = true) (h : ∀ (k : Nat) (a : Yp), w.2.2.2[k]? = some a → PW w k a) : Yo w = true := by
  unfold Yo
  rw [hu, hi]
  simp only [Bool.not_true, Bool.or_false, cond_false]
  rw [Be w.2.2.2 0 (fun i a ha => by
    have p := h i a ha
    unfold Jp
    rw [Nat.zero_add]
    have hb : Qp w.2.2.1 (List.take i w.2.2.2) = bef w i := rfl
    rw [hb]
    have l1 : less a.2.1 (bef w i) = a.2.1 := List.filter_eq_self.2 fun x hx => by
      have := p.a5 x hx
      rw [L3] at this
      rw [this]; rfl
    have l2 : less a.2.2 (bef w i) = [] := List.filter_eq_nil_iff.2 fun x hx => by
      have := p.a6 x hx
      rw [L3] at this
      rw [this]; simp
    have e0 : ((a.2.1.length : Int) != (a.2.1.length : Int)) = false := by simp
    have e1 : ((([] : List Int).length : Int) != (0 : Int)) = false := rfl
    rw [l1, l2, show Ye a.2.1 = true from p.a1, show Ye a.2.2 = true from p.a2, p.a3, e0, e1]
    by_cases h0 : ((i : Nat) : Int) > 0
    · have p4 := p.a4
      rw [decide_eq_true h0, Bool.true_and] at p4
      rw [decide_eq_true h0, p4]
      rfl
    · rw [decide_eq_false h0]
      rfl)]
  rfl
theorem KI (w : Yu) : Yo w = Xv w := by
  cases hs : Xv w with
  | true =>
    obtain ⟨h1, h2, h3⟩ := LN hs
    exact TS (by rw [← On] at h1; exact h1) h2 h3
  | false =>
    cases hi : Yo w with
    | false => rfl
    | true => rw [TR hi] at hs; cases hs
/-! ### ascending lists -/
theorem UO {α : Type} (f : α → Int) {l : List α} (h : ∀ (i : Nat) (a b : α), l[i]? = some a → l[i+1]? = some b → f a < f b) : l.Pairwise (fun a b => f a < f b) := by
  rw [List.pairwise_iff_getElem]
  have key : ∀ (d i : Nat) (hi : i < l.length) (hj : i + d + 1 < l.length), f l[i] < f l[i + d + 1] := by
    intro d
    induction d with
    | zero => intro i hi hj; exact h i _ _ (List.getElem?_eq_getElem hi) (List.getElem?_eq_getElem hj)
    | succ d ih =>
      intro i hi hj
      have h1 := ih i hi (by omega)
      have h2 := h (i + d + 1) _ _ (List.getElem?_eq_getElem (by omega)) (List.getElem?_eq_getElem hj)
      exact Int.lt_trans h1 h2
  intro i j hi hj hij
  have h1 := key (j - i - 1) i hi (by omega)
  have e : i + (j - i - 1) + 1 = j := by omega
  simp only [e] at h1
  exact h1
theorem LO (l : List Int) : ∀ (n k : Nat), Vz (Wt l) Dw n k () = .ret false ∨ ∀ j, k ≤ j → j < k + n → nth l j < nth l (j + 1)
  | 0, k => .inr fun j h1 h2 => by omega
  | n + 1, k => by
    by_cases hc : nth l k < nth l (k + 1)
    · have hf : Wt l k () = .next () := by
        unfold Wt
        rw [show Int.toNat (((k + 1 : Nat) : Int) - 1) = k by omega, decide_eq_false (show ¬ nth l k ≥ nth l (k + 1) by omega)]
        rfl
      rcases LO l n (k + 1) with h | h
      · left; simp only [Vz, hf]; exact h
      · right
        intro j h1 h2
        by_cases e : j = k
        · subst e; exact hc
        · exact h j (by omega) (by omega)
    · left
      have hf : Wt l k () = .ret false := by
        unfold Wt
        rw [show Int.toNat (((k + 1 : Nat) : Int) - 1) = k by omega, decide_eq_true (show nth l k ≥ nth l (k + 1) by omega)]
        rfl
      simp only [Vz, hf]
theorem OL {l : List Int} (h : Zi l = true) : l.Pairwise (· < ·) := by
  unfold Zi at h
  rcases LO l (l.length - 1) 0 with h1 | h1
  · rw [h1] at h; cases h
  · refine UO (fun x => x) fun i a b ha hb => ?_
    have hlt := (List.getElem?_eq_some_iff.1 hb).1
    have := h1 i (Nat.zero_le _) (by omega)
    rwa [Lh ha, Lh hb] at this
theorem Ry (ids a r : List Int) : (Zs ids a r).Pairwise (· < ·) := by
  have h : Zs ids a r = Rh ids a r := Ri ids a r
  rw [h]
  unfold Rh
  exact Gt _ _ (Gt _ _ List.Pairwise.nil)
theorem AP {w : Yu} (h : Zi w.2.2.1 = true) : (Qi w).Pairwise (· < ·) := by
  unfold Qi
  rw [Pp]
  have key : ∀ (l : List Yp) (s : List Int), s.Pairwise (· < ·) → (l.foldl (fun s a => Zs s a.2.1 a.2.2) s).Pairwise (· < ·) := by
    intro l
    induction l with
    | nil => intro s hs; exact hs
    | cons a l ih => intro s _; exact ih _ (Ry _ _ _)
  exact key _ _ (OL h)
theorem OM (s : Q5) (d : List Y5) (u : Int) : ∀ x, x ∈ (Yc s d u).1 → x.2.Pairwise (· < ·) := by
  unfold Yc
  cases ((!(Xq s)) || (!(Zz u))) with
  | true => intro x hx; simp at hx
  | false =>
    simp only [cond_false]
    cases he : (Jw (Jd s u) d).2 with
    | false => rw [T7 he]; intro x hx; simp at hx
    | true =>
      obtain ⟨_, h2, _, h4⟩ := T6 he
      intro x hx
      obtain ⟨p, hp⟩ := h4 x hx
      rw [← JF] at h2
      have hv := Qbv h2
      rw [hp]
      unfold sel
      exact List.pairwise_map.2 ((UO (fun f : X4 => f.1) (l := (Jd s u).2.1) (fun i a b ha hb => hv.asc i a b ha hb)).filter _)
theorem QR (s : Q5) (d : List Y5) (u : Int) (n : ByteArray) : (Q0 s d u n).Pairwise (· < ·) := by
  unfold Q0 Yi
  rcases JS n (Yc s d u).1 0 with h | ⟨x, hx, h⟩
  · rw [h]; exact List.Pairwise.nil
  · rw [h]; exact OM s d u x hx
theorem XI (w : Yu) (v : Int) (s : Q5) (d : List Y5) (hp : GoD.size w ≤ 536870912) (hv : (Qi w).Pairwise (· < ·)) : Qi (Xw w v s d) = Q0 s d w.1 w.2.1 ∧ (Xw w v s d).2.2.2.length ≤ w.2.2.2.length + 1 := by
  have hl := Nv w
  have hs := Cr s d w.1 w.2.1
  have h3 := Fw (Q0 s d w.1 w.2.1) (Qi w)
  have h4 := Fw (Qi w) (Q0 s d w.1 w.2.1)
  have hn : Xw w v s d = bif decide ((less (Q0 s d w.1 w.2.1) (Qi w)).length + (less (Qi w) (Q0 s d w.1 w.2.1)).length > 0) then (w.1, w.2.1, w.2.2.1, w.2.2.2 ++ [(v, less (Q0 s d w.1 w.2.1) (Qi w), less (Qi w) (Q0 s d w.1 w.2.1))]) else w := by
    unfold Xw
    rw [Fy]
    unfold Y3
    simp only
    have hw : IntKind.i64.wrap (((less (Q0 s d w.1 w.2.1) (Qi w)).length : Int) + ((less (Qi w) (Q0 s d w.1 w.2.1)).length : Int)) = ((less (Q0 s d w.1 w.2.1) (Qi w)).length : Int) + ((less (Qi w) (Q0 s d w.1 w.2.1)).length : Int) := IntWalk.i64_in _ (by omega)
    rw [hw]
    have hc : decide (((less (Q0 s d w.1 w.2.1) (Qi w)).length : Int) + ((less (Qi w) (Q0 s d w.1 w.2.1)).length : Int) > (0 : Int)) = decide ((less (Q0 s d w.1 w.2.1) (Qi w)).length + (less (Qi w) (Q0 s d w.1 w.2.1)).length > 0) := by
      rw [Bool.eq_iff_iff]; simp only [decide_eq_true_eq]; omega
    rw [hc]
  by_cases h0 : (less (Q0 s d w.1 w.2.1) (Qi w)).length + (less (Qi w) (Q0 s d w.1 w.2.1)).length > 0
  · rw [decide_eq_true h0] at hn
    simp only [cond_true] at hn
    rw [hn]
    have hlist : Qi (w.1, w.2.1, w.2.2.1, w.2.2.2 ++ [(v, less (Q0 s d w.1 w.2.1) (Qi w), less (Qi w) (Q0 s d w.1 w.2.1))]) = Zs (Qi w) (less (Q0 s d w.1 w.2.1) (Qi w)) (less (Qi w) (Q0 s d w.1 w.2.1)) := by
      unfold Qi
      dsimp only
      rw [YY]
      rfl
    have hmem : ∀ x, x ∈ Zs (Qi w) (less (Q0 s d w.1 w.2.1) (Qi w)) (less (Qi w) (Q0 s d w.1 w.2.1)) ↔ x ∈ Q0 s d w.1 w.2.1 := fun x => by
      rw [UN, Sj, Sj]
      constructor
      · rintro (⟨h1, _⟩ | ⟨h1, h2⟩)
        · exact h1
        · exact Decidable.byContradiction fun h3 => h2 ⟨h1, h3⟩
      · intro h1
        by_cases h2 : x ∈ Qi w
        · exact .inr ⟨h2, fun h3 => h3.2 h1⟩
        · exact .inl ⟨h1, h2⟩
    refine ⟨?_, by simp⟩
    rw [hlist]
    exact JZ _ _ (Ry _ _ _) (QR _ _ _ _) hmem
  · rw [decide_eq_false h0] at hn
    simp only [cond_false] at hn
    rw [hn]
    have e1 : less (Q0 s d w.1 w.2.1) (Qi w) = [] := List.length_eq_zero_iff.1 (by omega)
    have e2 : less (Qi w) (Q0 s d w.1 w.2.1) = [] := List.length_eq_zero_iff.1 (by omega)
    refine ⟨JZ _ _ hv (QR _ _ _ _) fun x => ⟨fun hx => Decidable.byContradiction fun hn => ?_, fun hx => Decidable.byContradiction fun hn => ?_⟩, Nat.le_succ _⟩
    · have : x ∈ less (Qi w) (Q0 s d w.1 w.2.1) := Sj.2 ⟨hx, hn⟩
      rw [e2] at this; simp at this
    · have : x ∈ less (Q0 s d w.1 w.2.1) (Qi w) := Sj.2 ⟨hx, hn⟩
      rw [e1] at this; simp at this
theorem ON (l : List Yp) : Hd l = l := by
  unfold Hd
  rw [Ib (f := Bb) (e := Ej) (g := id) (fun _ _ _ => rfl), List.map_id]
  rfl
theorem LP (w : Yu) (v : Int) : Zp w v = Zf w v := by
  unfold Zp
  rw [OK, Hz (f := C2 v) (e := C3) (p := fun a : Yp => decide (a.1 > v)) (g := fun a => a) (fun _ _ _ => rfl), List.map_id']
  exact ON _
theorem UP (s : Q5) (d : List Y5) (u : Int) (n : ByteArray) : Yj s d u n = X2 s d u n := by
  unfold Yj X2
  rw [Gq]
theorem EP (s : Q5) (d : List Y5) (u : Int) (n : ByteArray) : Qi (X2 s d u n) = Xg s d u n := by
  rw [Gq]
  rfl
theorem I2 (code : List UInt8) : Dk code = true := by
  unfold Dk
  cases QN code with
  | true => rfl
  | false =>
    simp only [cond_false]
    have hsz := L8 code
    generalize Qa code = z at hsz ⊢
    generalize Qc code = y
    generalize Qg code = q
    generalize Qh code = r
    rw [UG z.1 z.2.1 z.2.2.1 z.2.2.2 (by omega), UP, LP, Pk, YX, KI, EP]
    simp only [XH, L9, C6, beq_self_eq_true, Bool.not_true, Bool.or_self, cond_false]
    cases hv : Xv z.1 with
    | false => rfl
    | true =>
      obtain ⟨_, h2, _⟩ := LN hv
      obtain ⟨n1, n2⟩ := XI z.1 z.2.1 z.2.2.1 z.2.2.2 (by omega) (AP h2)
      have he := Pm z.1
      rw [n1, Gq z.2.2.1, C6]
      have hw : IntKind.i64.wrap ((z.1.2.2.2.length : Int) + 1) = (z.1.2.2.2.length : Int) + 1 := IntWalk.i64_in _ (by omega)
      rw [hw, decide_eq_true (show ((Xw z.1 z.2.1 z.2.2.1 z.2.2.2).2.2.2.length : Int) ≤ (z.1.2.2.2.length : Int) + 1 by omega)]
      rfl
end Go.Proofs.YtockoklfegpgeaaGreat
namespace Go.Proofs.YtockoklfegpgeaaGreat
open Go.RowKit
open GoD (rd own)
set_option maxRecDepth 1000000 in
theorem XJ (w : World) (v : Value) (a : List UInt8) (h : rd w [v] a) (hbig : ¬ a.length ≤ 1048576) : Calls Tryz.prog 3 #[v] w (Ret w (.bool true)) := by
  obtain ⟨oa, cap, rfl⟩ := M8 h
  have hln := GP h
  clear h
  have hbi : 1048576 < (a.length : Int) := by omega
  go_enter Tryz.func3, Tryz.ntmps3
  go_wp2_with (first | (go_at_call 4; go_in))
  go_ret
  exact ⟨rfl, by go_grown⟩
theorem XK (w : World) (v : Value) (a : List UInt8) (h : rd w [v] a) : Calls Tryz.prog 3 #[v] w (Ret w (.bool true)) := by
  by_cases hbig : a.length ≤ 1048576
  · haveI : Good Tryz.prog w := Good.none (by kernel_rfl) w
    have hc := (Nw a).run (.cons (RZ h ⟨by omega, fun _ _ => trivial⟩) .nil)
    rw [I2] at hc
    exact hc.mono fun _ _ h => MW h
  · exact XJ w v a h hbig
end Go.Proofs.YtockoklfegpgeaaGreat
