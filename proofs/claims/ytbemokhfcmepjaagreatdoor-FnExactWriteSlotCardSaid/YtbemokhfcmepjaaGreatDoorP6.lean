/- Texts of this proof, put together by a program: Wsj, Wsk, Wsl, Wsm, Wsm2, Wsn, Wp1, Wp2, Wp3, Wp4, Wp5, Wp6, Lw, Sz. -/
import Derived.Test.YtbemokhfcmepjaaGreatDoorP5
import Derived.KernelRfl
import Derived.Test.YtbemokhfcmepjaaGreatDoorProg
set_option linter.unusedVariables false
set_option linter.unusedSimpArgs false
namespace Go.Proofs.YtbemokhfcmepjaaGreatDoor
section
open Go.RowKit
open GoE (enc wide)
def Vn (_ : Nat) (a0 : ByteArray) (s0 : ByteArray) : Rd (ByteArray) (ByteArray) (ByteArray) := (.next (s0 ++ (a0 ++ (⟨#[10]⟩ : ByteArray))))
def Uc (_ : Nat) (s0 : ByteArray) : ByteArray := s0
def Zv (version : Int) (x : Qp) : ByteArray := (bif ((!(Qi x)) || (!(Q9 version 1 1000000000))) then ⟨#[]⟩ else (Out.on (Yr Vn Uc (Qx x) 0 ((Qq version) ++ (⟨#[10]⟩ : ByteArray))) (fun y0 => ((y0 ++ (Qq (Jw y0))) ++ (⟨#[46]⟩ : ByteArray)))))
theorem Di (version : Int) (x : Qp) : ACalls Tryz.prog 36 [.i version, .a [.h x.1.1, .h x.1.2.1, .i x.1.2.2, .h x.2]] (.s (Zv version x)) := by
 refine en Qa Tryz.func36 fun w0 F0 hG => ?_
 have hes := FB x
 refine sn Qa [0, 3, 4] [3] (p0) ?_
 refine Qc ?_
 refine Qc ?_
 refine mz [(3, .p 3 0), (4, .s ⟨#[]⟩)] [1] [(3, [.h x.1.1, .h x.1.2.1, .i x.1.2.2, .h x.2])] [] ?_
 refine jn [(15, .b ((!(Qi x)) || (!(Q9 version 1 1000000000))))] [] [] [] (!(Qi x)) (fun h1 => ?_) (fun h1 => ?_) ?_
 ·
  have h1n : (Qi x) = false := Vp h1
  refine rn Qa [0, 3, 4, 15] [3] (pc 1 (cb h1n (Ju x)) (pe 2 (show .b (!false) = .b true from rfl) p0)) ?_
  exact ⟨rfl, Qd (by rw [h1] <;> kernel_rfl)⟩
 ·
  have h1n : (Qi x) = true := Z4 h1
  have h1nn := (B7 h1n).2.2.1; have h1nl := Bq h1n
  refine rn Qa [0, 3, 4, 15] [3] (pc 1 (cb h1n (Ju x)) (pe 2 (show .b (!true) = .b false from rfl) (pc 5 (Za version 1 1000000000) p0))) ?_
  exact ⟨rfl, Qd (by rw [h1] <;> kernel_rfl)⟩
 refine ck ((!(Qi x)) || (!(Q9 version 1 1000000000))) (fun h2 => ?_) (fun h2 => ?_)
 ·
  refine su Qa [] [15] [] [] (p0) ?_
  refine Qe ?_
  exact ps [] (Xh h2 (rfl))
 have h2l : ((!(Qi x))) = false := KN h2
 have h2ln : (Qi x) = true := Z4 h2l
 have h2lnn := (B7 h2ln).2.2.1; have h2lnl := Bq h2ln
 have h2r : ((!(Q9 version 1 1000000000))) = false := KO h2
 have h2rn : (Q9 version 1 1000000000) = true := Z4 h2r
 have h2rnw := Jn.1 h2rn
 refine Qf ?_
 have hk3 := Zf (n := version) (by omega)
 refine sn Qa [3, 4, 5] [3] (pc 1 (Ko version (by omega)) (px (Yi (n := (ByteArray.size (Qq version) + ByteArray.size (⟨#[10]⟩ : ByteArray))) (by have hq0 : ByteArray.size (⟨#[10]⟩ : ByteArray) = 1 := rfl; unfold maxLen; first | omega | (simp only [ByteArray.size_append]; omega))) p0)) ?_
 refine Qc ?_
 refine tn Qa [4, 5, 20, 21, 22] [] (pc 1 (Aq x) (pl 2 (Qx x) p0)) ?_
 refine mz [(5, .s ((Qq version) ++ (⟨#[10]⟩ : ByteArray))), (20, .o 1280 (Qx x)), (21, .i ((Qx x).length : Int)), (22, .i 0)] [0, 3, 15] [] [3] ?_
 refine wT 20 0 (.own true 1280) (Qx x) (fun hw4 hl5 => ?_)
 refine DI Vn Uc (Qx x) ((Qq version) ++ (⟨#[10]⟩ : ByteArray)) (fun k0 s0 => [(5, .s s0), (22, .i ((k0 : Nat) : Int))]) [5, 22] (fun y0 => [(5, .s y0)]) [5, 20, 21, 22] (fun k0 s0 => ByteArray.size s0 ≤ 40 + 10400 * k0) (fun y0 => ByteArray.size y0 ≤ 400000) wf0 (by have hq1 : ByteArray.size (⟨#[10]⟩ : ByteArray) = 1 := rfl; simp only [ByteArray.size_append]; omega) (fun k0 s0 hk0 hI0 => ?_) (fun k0 s0 hk0 hI0 => ?_) (fun y0 hD0 => ?_)
 ·
  have hA0_0 := hI0.2
  obtain ⟨a0, hx0⟩ := Yp (l := Qx x) (i := k0) hk0
  have hxs := hes.2 _ (List.mem_of_getElem? hx0)
  have hll := hes.1
  refine su Qa [(23, .b true)] [] [] [] (pe 0 (Q1 (decide_eq_true (p := ((k0 : Nat) : Int) < ((Qx x).length : Int)) (by omega))) p0) ?_
  refine Qc ?_
  refine ckT ?_
  refine Qf ?_
  refine Qc ?_
  refine Qz ?_
  refine su Qa [(7, .s a0)] [23] [] [] (pN 0 hx0 p0) ?_
  refine rn Qa [4, 5, 20, 21, 22] [] (px (Yi (n := (ByteArray.size a0 + ByteArray.size (⟨#[10]⟩ : ByteArray))) (by have hq0 : ByteArray.size (⟨#[10]⟩ : ByteArray) = 1 := rfl; unfold maxLen; first | omega | (simp only [ByteArray.size_append]; omega))) (px (Yi (n := (ByteArray.size s0 + ByteArray.size (a0 ++ (⟨#[10]⟩ : ByteArray)))) (by have hq0 : ByteArray.size (⟨#[10]⟩ : ByteArray) = 1 := rfl; unfold maxLen; first | omega | (simp only [ByteArray.size_append]; omega))) p0)) ?_
  refine qn Qa [4, 5, 20, 21, 22] [] (pe 0 (Jq (Q4 k0 (by omega))) p0) ?_
  exact xw (s0 ++ (a0 ++ (⟨#[10]⟩ : ByteArray))) ⟨Xp hx0 (rfl) hI0.1, (by have hq1 : ByteArray.size (⟨#[10]⟩ : ByteArray) = 1 := rfl; simp only [ByteArray.size_append]; omega)⟩
 ·
  have hA0_0 := hI0.2
  refine su Qa [(23, .b false)] [] [] [] (pe 0 (Q1 (decide_eq_false (p := ((k0 : Nat) : Int) < ((Qx x).length : Int)) (by omega))) p0) ?_
  refine Qc ?_
  refine ckF ?_
  refine Xu ?_
  exact xw s0 ⟨Yq hk0 (rfl) hI0.1, by first | omega | (simp only [List.length_set]; omega)⟩
 have hD0_0 := hD0.2
 have hk6 := UM y0
 have hk7 := Zf (n := Jw y0) (by omega)
 refine sn Qa [4] [] (pc 2 (Rg y0) (pc 3 (Ko (Jw y0) (by omega)) (px (Yi (n := (ByteArray.size y0 + ByteArray.size (Qq (Jw y0)))) (by unfold maxLen; first | omega | (simp only [ByteArray.size_append]; omega))) (px (Yi (n := (ByteArray.size (y0 ++ (Qq (Jw y0))) + ByteArray.size (⟨#[46]⟩ : ByteArray))) (by have hq0 : ByteArray.size (⟨#[46]⟩ : ByteArray) = 1 := rfl; unfold maxLen; first | omega | (simp only [ByteArray.size_append]; omega))) p0)))) ?_
 refine Qe ?_
 exact ps [] (Qj h2 (V4 hD0.1 (rfl)))
def Ud (_ : Nat) (a0 : ByteArray) (s0 : ByteArray) : Rd (ByteArray) (ByteArray) (ByteArray) := (.next ((s0 ++ a0) ++ (⟨#[10]⟩ : ByteArray)))
def H4 (_ : Nat) (s0 : ByteArray) : ByteArray := s0
def Xw (version : Int) (x : Qp) : ByteArray := (bif ((!(Q3 x)) || (!(Xf version 1 1000000000))) then ⟨#[]⟩ else (Out.on (Yr Ud H4 (Xz x) 0 ((Qq version) ++ (⟨#[10]⟩ : ByteArray))) (fun y0 => ((y0 ++ (Qq (Kg y0))) ++ (⟨#[46]⟩ : ByteArray)))))
theorem Dj (version : Int) (x : Qp) : ACalls Tryz.prog 15 [.i version, .a [.h x.1.1, .h x.1.2.1, .i x.1.2.2, .h x.2]] (.s (Xw version x)) := by
 refine en Qa Tryz.func15 fun w0 F0 hG => ?_
 have hes := RY x
 refine sn Qa [0, 3, 4] [3] (p0) ?_
 refine Qc ?_
 refine Qc ?_
 refine mz [(3, .p 3 0), (4, .s ⟨#[]⟩)] [1] [(3, [.h x.1.1, .h x.1.2.1, .i x.1.2.2, .h x.2])] [] ?_
 refine jn [(15, .b ((!(Q3 x)) || (!(Xf version 1 1000000000))))] [] [] [] (!(Q3 x)) (fun h1 => ?_) (fun h1 => ?_) ?_
 ·
  have h1n : (Q3 x) = false := Vp h1
  refine rn Qa [0, 3, 4, 15] [3] (pc 1 (cb h1n (Jv x)) (pe 2 (show .b (!false) = .b true from rfl) p0)) ?_
  exact ⟨rfl, Qd (by rw [h1] <;> kernel_rfl)⟩
 ·
  have h1n : (Q3 x) = true := Z4 h1
  have h1nn := (QA h1n).2.2.1; have h1nl := Bq ((A4 x).symm.trans h1n)
  refine rn Qa [0, 3, 4, 15] [3] (pc 1 (cb h1n (Jv x)) (pe 2 (show .b (!true) = .b false from rfl) (pc 5 (Y2 version 1 1000000000) p0))) ?_
  exact ⟨rfl, Qd (by rw [h1] <;> kernel_rfl)⟩
 refine ck ((!(Q3 x)) || (!(Xf version 1 1000000000))) (fun h2 => ?_) (fun h2 => ?_)
 ·
  refine su Qa [] [15] [] [] (p0) ?_
  refine Qe ?_
  exact ps [] (Xh h2 (rfl))
 have h2l : ((!(Q3 x))) = false := KN h2
 have h2ln : (Q3 x) = true := Z4 h2l
 have h2lnn := (QA h2ln).2.2.1; have h2lnl := Bq ((A4 x).symm.trans h2ln)
 have h2r : ((!(Xf version 1 1000000000))) = false := KO h2
 have h2rn : (Xf version 1 1000000000) = true := Z4 h2r
 have h2rnw := Ox.1 h2rn
 refine Qf ?_
 have hk3 := Zf (n := version) (by omega)
 refine sn Qa [3, 4, 5] [3] (pc 1 (Jt version (by omega)) (px (Yi (n := (ByteArray.size (Qq version) + ByteArray.size (⟨#[10]⟩ : ByteArray))) (by have hq0 : ByteArray.size (⟨#[10]⟩ : ByteArray) = 1 := rfl; unfold maxLen; first | omega | (simp only [ByteArray.size_append]; omega))) p0)) ?_
 refine tn Qa [4, 5, 6] [] (pc 1 (Ar x) p0) ?_
 refine Qc ?_
 refine tu Qa [(5, .s ((Qq version) ++ (⟨#[10]⟩ : ByteArray))), (6, .o 1280 (Xz x)), (7, .i 0)] [0, 3, 15] [] [3] (p0) ?_
 refine wT 6 0 (.own true 1280) (Xz x) (fun hw4 hl5 => ?_)
 refine DI Ud H4 (Xz x) ((Qq version) ++ (⟨#[10]⟩ : ByteArray)) (fun k0 s0 => [(5, .s s0), (7, .i ((k0 : Nat) : Int))]) [5, 7] (fun y0 => [(5, .s y0)]) [5, 6, 7] (fun k0 s0 => ByteArray.size s0 ≤ 40 + 10400 * k0) (fun y0 => ByteArray.size y0 ≤ 400000) wf0 (by have hq1 : ByteArray.size (⟨#[10]⟩ : ByteArray) = 1 := rfl; simp only [ByteArray.size_append]; omega) (fun k0 s0 hk0 hI0 => ?_) (fun k0 s0 hk0 hI0 => ?_) (fun y0 hD0 => ?_)
 ·
  have hA0_0 := hI0.2
  obtain ⟨a0, hx0⟩ := Yp (l := Xz x) (i := k0) hk0
  have hxs := hes.2 _ (List.mem_of_getElem? hx0)
  have hll := hes.1
  refine Qc ?_
  refine sn Qa [4, 5, 6, 7, 24] [] (pl 2 (Xz x) (pe 3 (Q1 (decide_eq_true (p := ((k0 : Nat) : Int) < ((Xz x).length : Int)) (by omega))) p0)) ?_
  refine ckT ?_
  refine Qf ?_
  refine Qc ?_
  refine Qz ?_
  refine qn Qa [4, 5, 6, 7] [] (pN 3 hx0 (px (Yi (n := (ByteArray.size s0 + ByteArray.size a0)) (by unfold maxLen; first | omega | (simp only [ByteArray.size_append]; omega))) (px (Yi (n := (ByteArray.size (s0 ++ a0) + ByteArray.size (⟨#[10]⟩ : ByteArray))) (by have hq0 : ByteArray.size (⟨#[10]⟩ : ByteArray) = 1 := rfl; unfold maxLen; first | omega | (simp only [ByteArray.size_append]; omega))) p0))) ?_
  refine qu Qa [(5, .s ((s0 ++ a0) ++ (⟨#[10]⟩ : ByteArray))), (7, .i ((k0 + 1 : Nat) : Int))] [5, 7] [] [] (pe 1 (Jq (Q4 k0 (by omega))) p0) ?_
  exact xw ((s0 ++ a0) ++ (⟨#[10]⟩ : ByteArray)) ⟨Xp hx0 (rfl) hI0.1, (by have hq1 : ByteArray.size (⟨#[10]⟩ : ByteArray) = 1 := rfl; simp only [ByteArray.size_append]; omega)⟩
 ·
  have hA0_0 := hI0.2
  refine Qc ?_
  refine sn Qa [4, 5, 6, 7, 24] [] (pl 2 (Xz x) (pe 3 (Q1 (decide_eq_false (p := ((k0 : Nat) : Int) < ((Xz x).length : Int)) (by omega))) p0)) ?_
  refine ckF ?_
  refine Xu ?_
  exact xw s0 ⟨Yq hk0 (rfl) hI0.1, by first | omega | (simp only [List.length_set]; omega)⟩
 have hD0_0 := hD0.2
 have hk6 := EP y0
 have hk7 := Zf (n := Kg y0) (by omega)
 refine sn Qa [4] [] (pc 2 (Rh y0) (pc 3 (Jt (Kg y0) (by omega)) (px (Yi (n := (ByteArray.size y0 + ByteArray.size (Qq (Kg y0)))) (by unfold maxLen; first | omega | (simp only [ByteArray.size_append]; omega))) (px (Yi (n := (ByteArray.size (y0 ++ (Qq (Kg y0))) + ByteArray.size (⟨#[46]⟩ : ByteArray))) (by have hq0 : ByteArray.size (⟨#[46]⟩ : ByteArray) = 1 := rfl; unfold maxLen; first | omega | (simp only [ByteArray.size_append]; omega))) p0)))) ?_
 refine Qe ?_
 exact ps [] (Qj h2 (V4 hD0.1 (rfl)))
open GoE (enc wide)
def Yd (bf : (List ByteArray)) (bn : (List Qw)) : ByteArray × (List ByteArray) × (List Qw) := (bif ((bf.length : Int) == (0 : Int)) then (⟨#[]⟩, bf, bn) else ((nth bf 0), List.drop 1 bf, bn))
theorem C7 (bf : List ByteArray) (bn : List Qw) : (Yd bf bn).2.1.length ≤ bf.length ∧ (Yd bf bn).2.2.length = bn.length ∧ (1 ≤ bf.length → (Yd bf bn).2.1.length + 1 = bf.length) ∧ ((Yd bf bn).1.size = 0 ∨ 1 ≤ bf.length) := by
 unfold Yd
 cases h : ((bf.length : Int) == (0 : Int)) with
 | true => have := eq_of_beq h; simp only [cond_true]; exact ⟨Nat.le_refl _, trivial, fun h1 => by omega, .inl rfl⟩
 | false => have := ne_of_beq_false h; simp only [cond_false, List.length_drop]; exact ⟨by omega, trivial, fun _ => by omega, .inr (by omega)⟩
theorem FD {k : Int} {w : ByteArray} {n : Nat} (h : ((Qo k).toList == w.toList) = true) (hn : w.size = 0 ∨ 1 ≤ n) : 1 ≤ n := by
 have h1 := Up h
 have h2 := Qak k
 rw [h1] at h2
 omega
theorem Ey (bf : (List ByteArray)) (bn : (List Qw)) : AGive Tryz.prog 187 [.h bf, .o 41 bn] [] (.s (((Yd bf bn)).1)) [.h (((Yd bf bn)).2.1), .o 41 (((Yd bf bn)).2.2)] := by
 refine Tu (tt := tt) Qa Tryz.func187 (fn := Tryz.f187) rfl (by unfold Br; kernel_rfl) (Nat.le_of_ble_eq_true rfl) (Nat.le_of_ble_eq_true rfl) rfl rfl fun w0 F0 hG => ?_
 refine sn Qa [0, 2] [60000] (p0) ?_
 refine Qc ?_
 refine tn Qa [0, 2, 9] [60000] (pl 4 bf p0) ?_
 refine ck ((bf.length : Int) == (0 : Int)) (fun h1 => ?_) (fun h1 => ?_)
 ·
  refine tu Qa [(2, .s ⟨#[]⟩)] [] [] [] (p0) ?_
  refine Qe ?_
  have hE2 : Yd bf bn = (⟨#[]⟩, bf, bn) := Xh h1 (rfl)
  exact WW [] (congrArg (fun z => (.s z.1 : AV)) hE2.symm) (congrArg (fun z => ([.h z.2.1, .o 41 z.2.2] : List C)) hE2.symm)
 have h1d := Yg h1
 refine Qf ?_
 refine wB 60000 0 .sh bf (fun hw4 hl5 => ?_)
 have hx3 := ng bf 0
 refine tu Qa [(2, .s ⟨#[]⟩), (3, .s (nth bf 0))] [] [] [] (pg 4 0 hx3 p0) ?_
 refine sn Qa [0, 2, 3] [60000] (pe 5 (Lc .sh 1 1 1 bf rfl) (px (Af (lo := 1) (hi := (((eL bf) : List (List PV)).length : Int)) (n := (List.length (eL bf))) (Ld (by omega) (by omega))) p0)) ?_
 refine tn Qa [0, 2] [60000] (p0) ?_
 refine Qe ?_
 have hE6 : Yd bf bn = ((nth bf 0), List.drop 1 bf, bn) := Qj h1 (rfl)
 exact WW [] (congrArg (fun z => (.s z.1 : AV)) hE6.symm) (congrArg (fun z => ([.h z.2.1, .o 41 z.2.2] : List C)) hE6.symm)
def C8 (x1 : ByteArray × (List ByteArray) × (List Qw)) (k0 : Nat) (s0 : Int) : Rd (Bool × (List ByteArray) × (List Qw)) (Int) (Int) := (bif ((Qo ((k0 + 1 : Nat) : Int)).toList == x1.1.toList) then (.next ((k0 + 1 : Nat) : Int)) else (.next s0))
def C9 (_ : Nat) (s0 : Int) : Int := s0
def Xc (n_ : Nat) (bf : (List ByteArray)) (bn : (List Qw)) : Bool × (List ByteArray) × (List Qw) := match n_ with
 | 0 => default
 | n_ + 1 => (lt (Yd bf bn) (fun x1 => (Out.on (Jg (C8 x1) C9 (Int.toNat (((9 : Int) + 1) - 1)) 0 0) (fun y0 => (lt (α := Bool) (bif (y0 == (2 : Int)) then (y0 == (2 : Int)) else (bif (y0 == (8 : Int)) then (y0 == (8 : Int)) else (y0 == (9 : Int)))) (fun x4 => (bif x4 then (lt (Yd x1.2.1 x1.2.2) (fun x8 => ((y0 != (0 : Int)), x8.2.1, x8.2.2 ++ [((y0, 0, 0, x8.1, (0, 0, ⟨#[]⟩)) : Qw)]))) else (bif (bif (y0 == (3 : Int)) then (y0 == (3 : Int)) else (y0 == (4 : Int))) then (lt (Yd x1.2.1 x1.2.2) (fun x14 => (lt (Yd x14.2.1 x14.2.2) (fun x15 => (((Qn x15.1)).2, x15.2.1, x15.2.2 ++ [((y0, 0, 0, x14.1, (((Qn x15.1)).1)) : Qw)]))))) else (bif (y0 == (5 : Int)) then (lt (Xc n_ x1.2.1 x1.2.2) (fun x20 => (x20.1, x20.2.1, x20.2.2 ++ [((y0, ((x20.2.2.length : Int) - 1), 0, ⟨#[]⟩, (0, 0, ⟨#[]⟩)) : Qw)]))) else (lt (α := Bool) (bif (y0 == (6 : Int)) then (y0 == (6 : Int)) else (y0 == (7 : Int))) (fun x24 => (bif x24 then (lt (Xc n_ x1.2.1 x1.2.2) (fun x27 => (bif x27.1 then (lt (Xc n_ x27.2.1 x27.2.2) (fun x31 => (x31.1, x31.2.1, x31.2.2 ++ [((y0, ((x27.2.2.length : Int) - 1), ((x31.2.2.length : Int) - 1), ⟨#[]⟩, (0, 0, ⟨#[]⟩)) : Qw)]))) else (false, x27.2.1, x27.2.2 ++ [((y0, ((x27.2.2.length : Int) - 1), ((x27.2.2.length : Int) - 1), ⟨#[]⟩, (0, 0, ⟨#[]⟩)) : Qw)])))) else ((y0 != (0 : Int)), x1.2.1, x1.2.2 ++ [((y0, 0, 0, ⟨#[]⟩, (0, 0, ⟨#[]⟩)) : Qw)])))))))))))))
theorem Ik : ∀ (n : Nat) (bf : List ByteArray) (bn : List Qw), (Xc n bf bn).2.1.length ≤ bf.length ∧ (Xc n bf bn).2.2.length + 2 * (Xc n bf bn).2.1.length ≤ bn.length + 2 * bf.length + 1
 | 0, bf, bn => ⟨Nat.zero_le _, Nat.zero_le _⟩
 | n + 1, bf, bn => by
  have h1 := C7 bf bn
  have ih := Ik n
  unfold Xc lt
  generalize Yd bf bn = x1 at h1 ⊢
  dsimp only
  rw [Ei (f := C8 x1) (e := C9) (p := fun k => (Qo ((k + 1 : Nat) : Int)).toList == x1.1.toList) (fun _ _ => rfl) (fun _ _ => rfl)]
  simp only [Out.on]
  have hy : Eh (fun k => (Qo ((k + 1 : Nat) : Int)).toList == x1.1.toList) (Int.toNat (((9 : Int) + 1) - 1)) 0 0 ≠ 0 → 1 ≤ bf.length := fun h => by
   have := FC (w := x1.1) h
   omega
  generalize Eh (fun k => (Qo ((k + 1 : Nat) : Int)).toList == x1.1.toList) (Int.toNat (((9 : Int) + 1) - 1)) 0 0 = y0 at hy ⊢
  have h2 := C7 x1.2.1 x1.2.2
  cases (bif (y0 == (2 : Int)) then (y0 == (2 : Int)) else (bif (y0 == (8 : Int)) then (y0 == (8 : Int)) else (y0 == (9 : Int)))) with
  | true =>
   simp only [cond_true]
   generalize Yd x1.2.1 x1.2.2 = x8 at h2 ⊢
   simp only [List.length_append, List.length_cons, List.length_nil]
   omega
  | false =>
  simp only [cond_false]
  cases (bif (y0 == (3 : Int)) then (y0 == (3 : Int)) else (y0 == (4 : Int))) with
  | true =>
   simp only [cond_true]
   generalize Yd x1.2.1 x1.2.2 = x8 at h2 ⊢
   have h3 := C7 x8.2.1 x8.2.2
   generalize Yd x8.2.1 x8.2.2 = x9 at h3 ⊢
   simp only [List.length_append, List.length_cons, List.length_nil]
   omega
  | false =>
  simp only [cond_false]
  have h4 := ih x1.2.1 x1.2.2
  cases h5 : (y0 == (5 : Int)) with
  | true =>
   have := hy (by have := eq_of_beq h5; omega)
   simp only [cond_true]
   generalize Xc n x1.2.1 x1.2.2 = x8 at h4 ⊢
   simp only [List.length_append, List.length_cons, List.length_nil]
   omega
  | false =>
  simp only [cond_false]
  cases h6 : (bif (y0 == (6 : Int)) then (y0 == (6 : Int)) else (y0 == (7 : Int))) with
  | true =>
   have := hy (by intro e; rw [e] at h6; revert h6; decide)
   simp only [cond_true]
   generalize Xc n x1.2.1 x1.2.2 = x8 at h4 ⊢
   cases x8.1 with
   | true =>
    have h7 := ih x8.2.1 x8.2.2
    simp only [cond_true]
    generalize Xc n x8.2.1 x8.2.2 = x9 at h7 ⊢
    simp only [List.length_append, List.length_cons, List.length_nil]
    omega
   | false =>
    simp only [cond_false, List.length_append, List.length_cons, List.length_nil]
    omega
  | false =>
   simp only [cond_false, List.length_append, List.length_cons, List.length_nil]
   omega
theorem Lz : ∀ (n_ : Nat) (bf : (List ByteArray)) (bn : (List Qw)) (hf : List.length bf < n_) (hz : List.length bf ≤ 24) (hb : List.length bn + 2 * List.length bf ≤ 100), AGive Tryz.prog 163 [.h bf, .o 41 bn] [] (.b (((Xc n_ bf bn)).1)) [.h (((Xc n_ bf bn)).2.1), .o 41 (((Xc n_ bf bn)).2.2)] := by
 intro n_
 induction n_ with
 | zero => intro bf bn hf hz hb; exact (by omega : False).elim
 | succ n_ ih =>
  intro bf bn hf hz hb
  refine Tu (tt := tt) Qa Tryz.func163 (fn := Tryz.f163) rfl (by unfold Br; kernel_rfl) (Nat.le_of_ble_eq_true rfl) (Nat.le_of_ble_eq_true rfl) rfl rfl fun w0 F0 hG => ?_
  refine sn Qa [0, 2] [60000] (p0) ?_
  obtain ⟨x1, hx1⟩ := nm (Yd bf bn)
  have hnx1 := C7 bf bn
  rw [hx1] at hnx1
  refine tn Qa [0, 2, 3] [60000] (po 1 (.give none (.s x1.1) [.h x1.2.1, .o 41 x1.2.2]) (px (Bb (hx1 ▸ Ey bf bn)) p0)) ?_
  refine tu Qa [(2, .b false), (3, .s x1.1), (4, .p 4 0)] [] [(4, [.i 0, .i 0, .i 0, .s ⟨#[]⟩, .i 0, .i 0, .s ⟨#[]⟩]), (60000, [.h x1.2.1, .o 553 x1.2.2])] [60000] (p0) ?_
  refine Qc ?_
  refine su Qa [(5, .i 1)] [] [] [] (p0) ?_
  refine Qbn (C8 x1) C9 (Int.toNat (((9 : Int) + 1) - 1)) 0 (fun k0 _ => [(5, .i ((k0 + 1 : Nat) : Int))]) [5] (fun _ s0 => [(4, [.i s0, .i 0, .i 0, .s ⟨#[]⟩, .i 0, .i 0, .s ⟨#[]⟩])]) [4] (fun _ => []) [3, 5] (fun y0 => [(4, [.i y0, .i 0, .i 0, .s ⟨#[]⟩, .i 0, .i 0, .s ⟨#[]⟩])]) [4] (fun _ s0 => (s0 = 0 ∨ 1 ≤ List.length bf)) (fun y0 => (y0 = 0 ∨ 1 ≤ List.length bf)) wf0 (by exact .inl rfl) (fun k0 s0 hk0 hI0 => ?_) (fun k0 s0 hk0 hI0 => ?_) (fun y0 hD0 => ?_)
  ·
   have hA0_0 := hI0.2
   refine Qc ?_
   refine su Qa [(11, .b true)] [] [] [] (pe 1 (Q1 (decide_eq_true (p := ((k0 + 1 : Nat) : Int) ≤ (9 : Int)) (by omega))) p0) ?_
   refine ckT ?_
   refine Qf ?_
   refine Qc ?_
   refine Qz ?_
   have hk2 := ET ((k0 + 1 : Nat) : Int)
   refine sn Qa [0, 2, 3, 4, 5, 17] [4, 60000] (pc 1 (Ee ((k0 + 1 : Nat) : Int)) p0) ?_
   refine ck ((Qo ((k0 + 1 : Nat) : Int)).toList == x1.1.toList) (fun h3 => ?_) (fun h3 => ?_)
   ·
    refine qn Qa [0, 2, 3, 4, 5] [4, 60000] (p0) ?_
    refine qu Qa [(5, .i ((k0 + 2 : Nat) : Int))] [5, 11] [(4, [.i ((k0 + 1 : Nat) : Int), .i 0, .i 0, .s ⟨#[]⟩, .i 0, .i 0, .s ⟨#[]⟩])] [4] (pe 1 (show .i (IntKind.i64.wrap (((k0 + 1 : Nat) : Int) + 1)) = .i ((k0 + 2 : Nat) : Int) from Jq ((IntWalk.i64_in _ (by omega)).trans (by omega))) p0) ?_
    exact xw ((k0 + 1 : Nat) : Int) ⟨Zp hk0 (Xh h3 (rfl)) hI0.1, (by first | exact hA0_0 | exact .inr (FD (by assumption) hnx1.2.2.2))⟩
   refine Qf ?_
   refine qn Qa [0, 2, 3, 4, 5] [4, 60000] (pe 1 (show .i (IntKind.i64.wrap (((k0 + 1 : Nat) : Int) + 1)) = .i ((k0 + 2 : Nat) : Int) from Jq ((IntWalk.i64_in _ (by omega)).trans (by omega))) p0) ?_
   exact xw s0 ⟨Zp hk0 (Qj h3 (rfl)) hI0.1, (by first | exact hA0_0 | exact .inr (FD (by assumption) hnx1.2.2.2))⟩
  ·
   have hA0_0 := hI0.2
   refine Qc ?_
   refine su Qa [(11, .b false)] [] [] [] (pe 1 (Q1 (decide_eq_false (p := ((k0 + 1 : Nat) : Int) ≤ (9 : Int)) (by omega))) p0) ?_
   refine ckF ?_
   refine Xu ?_
   exact xw s0 ⟨W6 hk0 (rfl) hI0.1, by exact hA0_0⟩
  have hD0_0 := hD0.2
  refine sn Qa [0, 2, 4, 6] [4, 60000] (p0) ?_
  refine Qc ?_
  refine tn Qa [0, 2, 4, 6, 24] [4, 60000] (p0) ?_
  refine Qz ?_
  refine Qc ?_
  refine tu Qa [(6, .b (y0 != (0 : Int))), (24, .i y0), (25, .b (y0 == (2 : Int)))] [] [] [] (p0) ?_
  obtain ⟨x4, hx4⟩ := nm ((bif (y0 == (2 : Int)) then (y0 == (2 : Int)) else (bif (y0 == (8 : Int)) then (y0 == (8 : Int)) else (y0 == (9 : Int)))))
  refine jn [(25, .b x4)] [25] [] [] (y0 == (2 : Int)) (fun h5 => ?_) (fun h5 => ?_) ?_
  ·
   have h5d := eq_of_beq h5
   refine ckt h5 ?_
   refine Qf ?_
   obtain rfl : x4 = (y0 == (2 : Int)) := hx4.symm.trans (show (bif (y0 == (2 : Int)) then (y0 == (2 : Int)) else (bif (y0 == (8 : Int)) then (y0 == (8 : Int)) else (y0 == (9 : Int)))) = (y0 == (2 : Int)) from Xh h5 (rfl))
   exact ⟨rfl, Qd (by kernel_rfl)⟩
  ·
   have h5d := Yg h5
   refine ckf h5 ?_
   refine sn Qa [0, 2, 4, 6, 24, 25] [4, 60000] (p0) ?_
   refine ck (y0 == (8 : Int)) (fun h6 => ?_) (fun h6 => ?_)
   ·
    have h6d := eq_of_beq h6
    refine Qf ?_
    obtain rfl : x4 = (y0 == (8 : Int)) := hx4.symm.trans (show (bif (y0 == (2 : Int)) then (y0 == (2 : Int)) else (bif (y0 == (8 : Int)) then (y0 == (8 : Int)) else (y0 == (9 : Int)))) = (y0 == (8 : Int)) from Qj h5 (Xh h6 (rfl)))
    exact ⟨rfl, Qd (by kernel_rfl)⟩
   have h6d := Yg h6
   refine qn Qa [0, 2, 4, 6, 24, 25] [4, 60000] (p0) ?_
   obtain rfl : x4 = (y0 == (9 : Int)) := hx4.symm.trans (show (bif (y0 == (2 : Int)) then (y0 == (2 : Int)) else (bif (y0 == (8 : Int)) then (y0 == (8 : Int)) else (y0 == (9 : Int)))) = (y0 == (9 : Int)) from Qj h5 (Qj h6 (rfl)))
   exact ⟨rfl, Qd (by kernel_rfl)⟩
  refine ck x4 (fun h7 => ?_) (fun h7 => ?_)
  ·
   obtain ⟨x8, hx8⟩ := nm (Yd x1.2.1 x1.2.2)
   have hnx8 := C7 x1.2.1 x1.2.2
   rw [hx8] at hnx8
   refine rn Qa [0, 2, 4, 6] [4, 60000] (po 1 (.give none (.s x8.1) [.h x8.2.1, .o 41 x8.2.2]) (px (Bb (hx8 ▸ Ey x1.2.1 x1.2.2)) p0)) ?_
   refine wB 60000 1 (.own true 1961) x8.2.2 (fun hw9 hl10 => ?_)
   refine tU Qa Yz [] [4, 24, 25] [(60000, [.h x8.2.1, .slc (.own true 5568) 7 ((eL x8.2.2) ++ [[.i y0, .i 0, .i 0, .s x8.1, .i 0, .i 0, .s ⟨#[]⟩]])])] [4, 60000] (pa x8.2.2 [((y0, 0, 0, x8.1, (0, 0, ⟨#[]⟩)) : Qw)] p0) ?_
   refine eqn [] [] [(60000, [.h x8.2.1, .o 5568 (x8.2.2 ++ [((y0, 0, 0, x8.1, (0, 0, ⟨#[]⟩)) : Qw)])])] [60000] (by rw [show ((eL x8.2.2) ++ [[.i y0, .i 0, .i 0, .s x8.1, .i 0, .i 0, .s ⟨#[]⟩]]) = (eL (x8.2.2 ++ [((y0, 0, 0, x8.1, (0, 0, ⟨#[]⟩)) : Qw)])) from Jo (rfl) (rfl)]; first | done | kernel_rfl) ?_
   refine sn Qa [0, 2] [60000] (p0) ?_
   refine Qe ?_
   have hE11 : Xc (n_ + 1) bf bn = ((y0 != (0 : Int)), x8.2.1, x8.2.2 ++ [((y0, 0, 0, x8.1, (0, 0, ⟨#[]⟩)) : Qw)]) := D4 hx1 (V4 hD0.1 (D4 hx4 (Xh h7 (D4 hx8 (rfl)))))
   exact WW [] (congrArg (fun z => (.b z.1 : AV)) hE11.symm) (congrArg (fun z => ([.h z.2.1, .o 41 z.2.2] : List C)) hE11.symm)
  refine Qc ?_
  refine sn Qa [0, 2, 4, 6, 24, 32] [4, 60000] (p0) ?_
  refine mz [(32, .b (y0 == (3 : Int)))] [25] [] [] ?_
  refine jn [(32, .b (bif (y0 == (3 : Int)) then (y0 == (3 : Int)) else (y0 == (4 : Int))))] [32] [] [] (y0 == (3 : Int)) (fun h12 => ?_) (fun h12 => ?_) ?_
  ·
   have h12d := eq_of_beq h12
   refine ckt h12 ?_
   refine Qf ?_
   exact ⟨rfl, Qd (by rw [h12] <;> kernel_rfl)⟩
  ·
   have h12d := Yg h12
   refine ckf h12 ?_
   refine rn Qa [0, 2, 4, 6, 24, 32] [4, 60000] (p0) ?_
   exact ⟨rfl, Qd (by rw [h12] <;> kernel_rfl)⟩
  refine ck (bif (y0 == (3 : Int)) then (y0 == (3 : Int)) else (y0 == (4 : Int))) (fun h13 => ?_) (fun h13 => ?_)
  ·
   obtain ⟨x14, hx14⟩ := nm (Yd x1.2.1 x1.2.2)
   have hnx14 := C7 x1.2.1 x1.2.2
   rw [hx14] at hnx14
   refine sn Qa [0, 2, 4, 6] [4, 60000] (po 1 (.give none (.s x14.1) [.h x14.2.1, .o 41 x14.2.2]) (px (Bb (hx14 ▸ Ey x1.2.1 x1.2.2)) p0)) ?_
   obtain ⟨x15, hx15⟩ := nm (Yd x14.2.1 x14.2.2)
   have hnx15 := C7 x14.2.1 x14.2.2
   rw [hx15] at hnx15
   refine qn Qa [0, 2, 4, 6] [4, 60000] (po 1 (.give none (.s x15.1) [.h x15.2.1, .o 41 x15.2.2]) (px (Bb (hx15 ▸ Ey x14.2.1 x14.2.2)) (pc 2 (Dg x15.1) p0))) ?_
   refine wB 60000 1 (.own true 2601) x15.2.2 (fun hw16 hl17 => ?_)
   refine tU Qa Yz [(6, .b (((Qn x15.1)).2))] [4, 6, 24, 32] [(60000, [.h x15.2.1, .slc (.own true 5568) 7 ((eL x15.2.2) ++ [[.i y0, .i 0, .i 0, .s x14.1, .i ((((Qn x15.1)).1).1), .i ((((Qn x15.1)).1).2.1), .s ((((Qn x15.1)).1).2.2)]])])] [4, 60000] (pa x15.2.2 [((y0, 0, 0, x14.1, (((Qn x15.1)).1)) : Qw)] p0) ?_
   refine eqn [] [] [(60000, [.h x15.2.1, .o 5568 (x15.2.2 ++ [((y0, 0, 0, x14.1, (((Qn x15.1)).1)) : Qw)])])] [60000] (by rw [show ((eL x15.2.2) ++ [[.i y0, .i 0, .i 0, .s x14.1, .i ((((Qn x15.1)).1).1), .i ((((Qn x15.1)).1).2.1), .s ((((Qn x15.1)).1).2.2)]]) = (eL (x15.2.2 ++ [((y0, 0, 0, x14.1, (((Qn x15.1)).1)) : Qw)])) from Jo (rfl) (rfl)]; first | done | kernel_rfl) ?_
   refine sn Qa [0, 2] [60000] (p0) ?_
   refine Qe ?_
   have hE18 : Xc (n_ + 1) bf bn = (((Qn x15.1)).2, x15.2.1, x15.2.2 ++ [((y0, 0, 0, x14.1, (((Qn x15.1)).1)) : Qw)]) := D4 hx1 (V4 hD0.1 (D4 hx4 (Qj h7 (Xh h13 (D4 hx14 (D4 hx15 (rfl)))))))
   exact WW [] (congrArg (fun z => (.b z.1 : AV)) hE18.symm) (congrArg (fun z => ([.h z.2.1, .o 41 z.2.2] : List C)) hE18.symm)
  refine sn Qa [0, 2, 4, 6, 24, 45] [4, 60000] (p0) ?_
  refine ck (y0 == (5 : Int)) (fun h19 => ?_) (fun h19 => ?_)
  ·
   have h19d := eq_of_beq h19
   obtain ⟨x20, hx20⟩ := nm (Xc n_ x1.2.1 x1.2.2)
   have hqx20 := Ik n_ x1.2.1 x1.2.2
   rw [hx20] at hqx20
   refine tn Qa [0, 2, 4, 6] [4, 60000] (po 1 (.give none (.b x20.1) [.h x20.2.1, .o 41 x20.2.2]) (px (Bb (hx20 ▸ ih x1.2.1 x1.2.2 (by first | omega | (have hy0 : y0 = 6 ∨ y0 = 7 := (by simp_all); omega)) (by first | omega | (have hy0 : y0 = 6 ∨ y0 = 7 := (by simp_all); omega)) (by first | omega | (have hy0 : y0 = 6 ∨ y0 = 7 := (by simp_all); omega)))) p0)) ?_
   refine wB 60000 1 (.own true 3113) x20.2.2 (fun hw21 hl22 => ?_)
   refine qu Qa [(6, .b x20.1)] [6, 24, 32] [(4, [.i y0, .i ((x20.2.2.length : Int) - 1), .i 0, .s ⟨#[]⟩, .i 0, .i 0, .s ⟨#[]⟩]), (60000, [.h x20.2.1, .o 3113 x20.2.2])] [4, 60000] (pl 4 x20.2.2 (pe 5 (Jq (IntWalk.i64_in ((x20.2.2.length : Int) - 1) (by omega))) p0)) ?_
   refine sU Qa Yz [] [4] [(60000, [.h x20.2.1, .slc (.own true 5568) 7 ((eL x20.2.2) ++ [[.i y0, .i ((x20.2.2.length : Int) - 1), .i 0, .s ⟨#[]⟩, .i 0, .i 0, .s ⟨#[]⟩]])])] [4, 60000] (pa x20.2.2 [((y0, ((x20.2.2.length : Int) - 1), 0, ⟨#[]⟩, (0, 0, ⟨#[]⟩)) : Qw)] p0) ?_
   refine eqn [] [] [(60000, [.h x20.2.1, .o 5568 (x20.2.2 ++ [((y0, ((x20.2.2.length : Int) - 1), 0, ⟨#[]⟩, (0, 0, ⟨#[]⟩)) : Qw)])])] [60000] (by rw [show ((eL x20.2.2) ++ [[.i y0, .i ((x20.2.2.length : Int) - 1), .i 0, .s ⟨#[]⟩, .i 0, .i 0, .s ⟨#[]⟩]]) = (eL (x20.2.2 ++ [((y0, ((x20.2.2.length : Int) - 1), 0, ⟨#[]⟩, (0, 0, ⟨#[]⟩)) : Qw)])) from Jo (rfl) (rfl)]; first | done | kernel_rfl) ?_
   refine sn Qa [0, 2] [60000] (p0) ?_
   refine Qe ?_
   have hE23 : Xc (n_ + 1) bf bn = (x20.1, x20.2.1, x20.2.2 ++ [((y0, ((x20.2.2.length : Int) - 1), 0, ⟨#[]⟩, (0, 0, ⟨#[]⟩)) : Qw)]) := D4 hx1 (V4 hD0.1 (D4 hx4 (Qj h7 (Qj h13 (Xh h19 (D4 hx20 (rfl)))))))
   exact WW [] (congrArg (fun z => (.b z.1 : AV)) hE23.symm) (congrArg (fun z => ([.h z.2.1, .o 41 z.2.2] : List C)) hE23.symm)
  have h19d := Yg h19
  refine Qc ?_
  refine tn Qa [0, 2, 4, 6, 24, 56] [4, 60000] (p0) ?_
  refine mz [(56, .b (y0 == (6 : Int)))] [32] [] [] ?_
  obtain ⟨x24, hx24⟩ := nm ((bif (y0 == (6 : Int)) then (y0 == (6 : Int)) else (y0 == (7 : Int))))
  refine jn [(56, .b x24)] [24, 56] [] [] (y0 == (6 : Int)) (fun h25 => ?_) (fun h25 => ?_) ?_
  ·
   have h25d := eq_of_beq h25
   refine ckt h25 ?_
   refine Qf ?_
   obtain rfl : x24 = (y0 == (6 : Int)) := hx24.symm.trans (show (bif (y0 == (6 : Int)) then (y0 == (6 : Int)) else (y0 == (7 : Int))) = (y0 == (6 : Int)) from Xh h25 (rfl))
   exact ⟨rfl, Qd (by kernel_rfl)⟩
  ·
   have h25d := Yg h25
   refine ckf h25 ?_
   refine rn Qa [0, 2, 4, 6, 56] [4, 60000] (p0) ?_
   obtain rfl : x24 = (y0 == (7 : Int)) := hx24.symm.trans (show (bif (y0 == (6 : Int)) then (y0 == (6 : Int)) else (y0 == (7 : Int))) = (y0 == (7 : Int)) from Qj h25 (rfl))
   exact ⟨rfl, Qd (by kernel_rfl)⟩
  refine ck x24 (fun h26 => ?_) (fun h26 => ?_)
  ·
   obtain ⟨x27, hx27⟩ := nm (Xc n_ x1.2.1 x1.2.2)
   have hqx27 := Ik n_ x1.2.1 x1.2.2
   rw [hx27] at hqx27
   refine sn Qa [0, 2, 4, 6] [4, 60000] (po 1 (.give none (.b x27.1) [.h x27.2.1, .o 41 x27.2.2]) (px (Bb (hx27 ▸ ih x1.2.1 x1.2.2 (by first | omega | (have hy0 : y0 = 6 ∨ y0 = 7 := (by simp_all); omega)) (by first | omega | (have hy0 : y0 = 6 ∨ y0 = 7 := (by simp_all); omega)) (by first | omega | (have hy0 : y0 = 6 ∨ y0 = 7 := (by simp_all); omega)))) p0)) ?_
   refine wB 60000 1 (.own true 3881) x27.2.2 (fun hw28 hl29 => ?_)
   refine tn Qa [0, 2, 4, 6] [4, 60000] (pl 4 x27.2.2 (pe 5 (Jq (IntWalk.i64_in ((x27.2.2.length : Int) - 1) (by omega))) p0)) ?_
   refine Qc ?_
   refine Xo x27.1 (fun h30 => ?_) (fun h30 => ?_)
   ·
    obtain ⟨x31, hx31⟩ := nm (Xc n_ x27.2.1 x27.2.2)
    have hqx31 := Ik n_ x27.2.1 x27.2.2
    rw [hx31] at hqx31
    refine qu Qa [(6, .b x31.1)] [6, 56] [(4, [.i y0, .i ((x27.2.2.length : Int) - 1), .i 0, .s ⟨#[]⟩, .i 0, .i 0, .s ⟨#[]⟩]), (60000, [.h x31.2.1, .o 4585 x31.2.2])] [4, 60000] (pt 0 h30 (po 3 (.give none (.b x31.1) [.h x31.2.1, .o 41 x31.2.2]) (px (Bb (hx31 ▸ ih x27.2.1 x27.2.2 (by first | omega | (have hy0 : y0 = 6 ∨ y0 = 7 := (by simp_all); omega)) (by first | omega | (have hy0 : y0 = 6 ∨ y0 = 7 := (by simp_all); omega)) (by first | omega | (have hy0 : y0 = 6 ∨ y0 = 7 := (by simp_all); omega)))) p0))) ?_
    refine wB 60000 1 (.own true 4585) x31.2.2 (fun hw32 hl33 => ?_)
    refine rn Qa [0, 2, 4, 6] [4, 60000] (pl 4 x31.2.2 (pe 5 (Jq (IntWalk.i64_in ((x31.2.2.length : Int) - 1) (by omega))) p0)) ?_
    refine tU Qa Yz [] [4] [(60000, [.h x31.2.1, .slc (.own true 5568) 7 ((eL x31.2.2) ++ [[.i y0, .i ((x27.2.2.length : Int) - 1), .i ((x31.2.2.length : Int) - 1), .s ⟨#[]⟩, .i 0, .i 0, .s ⟨#[]⟩]])])] [4, 60000] (pa x31.2.2 [((y0, ((x27.2.2.length : Int) - 1), ((x31.2.2.length : Int) - 1), ⟨#[]⟩, (0, 0, ⟨#[]⟩)) : Qw)] p0) ?_
    refine eqn [] [] [(60000, [.h x31.2.1, .o 5568 (x31.2.2 ++ [((y0, ((x27.2.2.length : Int) - 1), ((x31.2.2.length : Int) - 1), ⟨#[]⟩, (0, 0, ⟨#[]⟩)) : Qw)])])] [60000] (by rw [show ((eL x31.2.2) ++ [[.i y0, .i ((x27.2.2.length : Int) - 1), .i ((x31.2.2.length : Int) - 1), .s ⟨#[]⟩, .i 0, .i 0, .s ⟨#[]⟩]]) = (eL (x31.2.2 ++ [((y0, ((x27.2.2.length : Int) - 1), ((x31.2.2.length : Int) - 1), ⟨#[]⟩, (0, 0, ⟨#[]⟩)) : Qw)])) from Jo (rfl) (rfl)]; first | done | kernel_rfl) ?_
    refine sn Qa [0, 2] [60000] (p0) ?_
    refine Qe ?_
    have hE34 : Xc (n_ + 1) bf bn = (x31.1, x31.2.1, x31.2.2 ++ [((y0, ((x27.2.2.length : Int) - 1), ((x31.2.2.length : Int) - 1), ⟨#[]⟩, (0, 0, ⟨#[]⟩)) : Qw)]) := D4 hx1 (V4 hD0.1 (D4 hx4 (Qj h7 (Qj h13 (Qj h19 (D4 hx24 (Xh h26 (D4 hx27 (Xh h30 (D4 hx31 (rfl)))))))))))
    exact WW [] (congrArg (fun z => (.b z.1 : AV)) hE34.symm) (congrArg (fun z => ([.h z.2.1, .o 41 z.2.2] : List C)) hE34.symm)
   refine qu Qa [(6, .b false)] [6, 56] [(4, [.i y0, .i ((x27.2.2.length : Int) - 1), .i 0, .s ⟨#[]⟩, .i 0, .i 0, .s ⟨#[]⟩]), (60000, [.h x27.2.1, .o 3881 x27.2.2])] [4, 60000] (pf 0 h30 p0) ?_
   refine rn Qa [0, 2, 4, 6] [4, 60000] (pl 4 x27.2.2 (pe 5 (Jq (IntWalk.i64_in ((x27.2.2.length : Int) - 1) (by omega))) p0)) ?_
   refine tU Qa Yz [] [4] [(60000, [.h x27.2.1, .slc (.own true 5568) 7 ((eL x27.2.2) ++ [[.i y0, .i ((x27.2.2.length : Int) - 1), .i ((x27.2.2.length : Int) - 1), .s ⟨#[]⟩, .i 0, .i 0, .s ⟨#[]⟩]])])] [4, 60000] (pa x27.2.2 [((y0, ((x27.2.2.length : Int) - 1), ((x27.2.2.length : Int) - 1), ⟨#[]⟩, (0, 0, ⟨#[]⟩)) : Qw)] p0) ?_
   refine eqn [] [] [(60000, [.h x27.2.1, .o 5568 (x27.2.2 ++ [((y0, ((x27.2.2.length : Int) - 1), ((x27.2.2.length : Int) - 1), ⟨#[]⟩, (0, 0, ⟨#[]⟩)) : Qw)])])] [60000] (by rw [show ((eL x27.2.2) ++ [[.i y0, .i ((x27.2.2.length : Int) - 1), .i ((x27.2.2.length : Int) - 1), .s ⟨#[]⟩, .i 0, .i 0, .s ⟨#[]⟩]]) = (eL (x27.2.2 ++ [((y0, ((x27.2.2.length : Int) - 1), ((x27.2.2.length : Int) - 1), ⟨#[]⟩, (0, 0, ⟨#[]⟩)) : Qw)])) from Jo (rfl) (rfl)]; first | done | kernel_rfl) ?_
   refine su Qa [] [6] [] [] (p0) ?_
   refine Qe ?_
   have hE35 : Xc (n_ + 1) bf bn = (false, x27.2.1, x27.2.2 ++ [((y0, ((x27.2.2.length : Int) - 1), ((x27.2.2.length : Int) - 1), ⟨#[]⟩, (0, 0, ⟨#[]⟩)) : Qw)]) := D4 hx1 (V4 hD0.1 (D4 hx4 (Qj h7 (Qj h13 (Qj h19 (D4 hx24 (Xh h26 (D4 hx27 (Qj h30 (rfl))))))))))
   exact WW [] (congrArg (fun z => (.b z.1 : AV)) hE35.symm) (congrArg (fun z => ([.h z.2.1, .o 41 z.2.2] : List C)) hE35.symm)
  refine Qf ?_
  refine wB 60000 1 (.own true 553) x1.2.2 (fun hw36 hl37 => ?_)
  refine sU Qa Yz [] [4, 56] [(60000, [.h x1.2.1, .slc (.own true 5568) 7 ((eL x1.2.2) ++ [[.i y0, .i 0, .i 0, .s ⟨#[]⟩, .i 0, .i 0, .s ⟨#[]⟩]])])] [4, 60000] (pa x1.2.2 [((y0, 0, 0, ⟨#[]⟩, (0, 0, ⟨#[]⟩)) : Qw)] p0) ?_
  refine eqn [] [] [(60000, [.h x1.2.1, .o 5568 (x1.2.2 ++ [((y0, 0, 0, ⟨#[]⟩, (0, 0, ⟨#[]⟩)) : Qw)])])] [60000] (by rw [show ((eL x1.2.2) ++ [[.i y0, .i 0, .i 0, .s ⟨#[]⟩, .i 0, .i 0, .s ⟨#[]⟩]]) = (eL (x1.2.2 ++ [((y0, 0, 0, ⟨#[]⟩, (0, 0, ⟨#[]⟩)) : Qw)])) from Jo (rfl) (rfl)]; first | done | kernel_rfl) ?_
  refine sn Qa [0, 2] [60000] (p0) ?_
  refine Qe ?_
  have hE38 : Xc (n_ + 1) bf bn = ((y0 != (0 : Int)), x1.2.1, x1.2.2 ++ [((y0, 0, 0, ⟨#[]⟩, (0, 0, ⟨#[]⟩)) : Qw)]) := D4 hx1 (V4 hD0.1 (D4 hx4 (Qj h7 (Qj h13 (Qj h19 (D4 hx24 (Qj h26 (rfl))))))))
  exact WW [] (congrArg (fun z => (.b z.1 : AV)) hE38.symm) (congrArg (fun z => ([.h z.2.1, .o 41 z.2.2] : List C)) hE38.symm)
open GoE (enc wide)
def Ul (p : (List ByteArray)) (at_ : Int) (k0 : Nat) (s0 : Int) : Rd ((List Qw) × Int) (Int) (Int) := (bif ((Qh p at_).toList == (Xk ((k0 + 1 : Nat) : Int)).toList) then (.next ((k0 + 1 : Nat) : Int)) else (.next s0))
def Ac (_ : Nat) (s0 : Int) : Int := s0
def Xt (n_ : Nat) (p : (List ByteArray)) (at_ : Int) (q : (List Qw)) (deep : Int) : (List Qw) × Int := match n_ with
 | 0 => default
 | n_ + 1 => (Out.on (Jg (Ul p at_) Ac (Int.toNat (((9 : Int) + 1) - 1)) 0 0) (fun y0 => (bif ((y0 == (0 : Int)) || (decide (deep > (9 : Int)) || decide ((q.length : Int) > (9 : Int)))) then (q, 0) else (bif ((y0 == (2 : Int)) || ((y0 == (8 : Int)) || (y0 == (9 : Int)))) then (q ++ [((y0, 0, 0, (Qh p (IntKind.i64.wrap (at_ + 1))), (0, 0, ⟨#[]⟩)) : Qw)], 2) else (bif ((y0 == (3 : Int)) || (y0 == (4 : Int))) then (q ++ [((y0, 0, 0, (Qh p (IntKind.i64.wrap (at_ + 1))), (((Q8 (Qh p (IntKind.i64.wrap (at_ + 2))))).1)) : Qw)], 3) else (bif (Xf y0 5 7) then (lt (Xt n_ p (IntKind.i64.wrap (at_ + 1)) q (IntKind.i64.wrap (deep + 1))) (fun x16 => (bif (x16.2 == (0 : Int)) then (x16.1, 0) else (bif (y0 != (5 : Int)) then (lt (Xt n_ p (IntKind.i64.wrap (at_ + IntKind.i64.wrap (1 + x16.2))) x16.1 (IntKind.i64.wrap (deep + 1))) (fun x21 => (bif (x21.2 == (0 : Int)) then (x21.1, 0) else (x21.1 ++ [((y0, ((x16.1.length : Int) - 1), ((x21.1.length : Int) - 1), ⟨#[]⟩, (0, 0, ⟨#[]⟩)) : Qw)], IntKind.i64.wrap (IntKind.i64.wrap (1 + x16.2) + x21.2))))) else (x16.1 ++ [((y0, ((x16.1.length : Int) - 1), 0, ⟨#[]⟩, (0, 0, ⟨#[]⟩)) : Qw)], IntKind.i64.wrap (1 + x16.2)))))) else (q ++ [((y0, 0, 0, ⟨#[]⟩, (0, 0, ⟨#[]⟩)) : Qw)], 1)))))))
theorem FE {p : List ByteArray} {at_ : Int} {k : Int} (h : ((Qh p at_).toList == (Xk k).toList) = true) : at_ < (p.length : Int) := by
  have h1 := Up h
  have h2 := Qak k
  rw [← UQ, ← h1] at h2
  unfold Qh at h2
  by_cases hc : at_ ≥ (p.length : Int)
  · rw [decide_eq_true hc, cond_true] at h2; exact absurd h2 (by decide)
  omega
theorem FF {p : List ByteArray} {at_ : Int} (h : Fj (Qh p at_) ≠ 0) : at_ < (p.length : Int) := by
  have h2 := FC h
  unfold Qh at h2
  by_cases hc : at_ ≥ (p.length : Int)
  · rw [decide_eq_true hc, cond_true] at h2; exact absurd h2 (by decide)
  omega
theorem OA (p : List ByteArray) (at_ : Int) : Jg (Ul p at_) Ac (Int.toNat (((9 : Int) + 1) - 1)) 0 0 = .brk (Fj (Qh p at_)) := by
 rw [Ei (f := Ul p at_) (e := Ac) (p := fun k => (Qo ((k + 1 : Nat) : Int)).toList == (Qh p at_).toList) (fun k s => by
  unfold Ul
  rw [UQ, show ((Qh p at_).toList == (Qo ((k + 1 : Nat) : Int)).toList) = ((Qo ((k + 1 : Nat) : Int)).toList == (Qh p at_).toList) from Bool.eq_iff_iff.2 (by simp only [beq_iff_eq]; exact eq_comm)]) (fun _ _ => rfl)]
 rfl
theorem B2 : ∀ (n : Nat) (p : List ByteArray) (at_ : Int) (q : List Qw) (deep : Int), 0 ≤ at_ → at_ ≤ 30 → p.length ≤ 24 → 0 ≤ deep → deep ≤ 10 →
  ((Xt n p at_ q deep).1.length ≤ q.length ∨ (Xt n p at_ q deep).1.length ≤ 9 + n) ∧ 0 ≤ (Xt n p at_ q deep).2 ∧ ((Xt n p at_ q deep).2 = 0 ∨ at_ + (Xt n p at_ q deep).2 ≤ (p.length : Int) + 2)
 | 0, p, at_, q, deep, _, _, _, _, _ => ⟨.inl (Nat.zero_le _), Int.le_refl _, .inl rfl⟩
 | n + 1, p, at_, q, deep, h0, h1, hp, hd, hx => by
  unfold Xt lt
  rw [OA]
  simp only [Out.on]
  have hy := FF (p := p) (at_ := at_)
  generalize Fj (Qh p at_) = y0 at hy ⊢
  rw [IntWalk.i64_in (at_ + 1) (by omega), IntWalk.i64_in (deep + 1) (by omega)]
  cases c0 : ((y0 == (0 : Int)) || (decide (deep > (9 : Int)) || decide ((q.length : Int) > (9 : Int)))) with
  | true => exact ⟨.inl (Nat.le_refl _), Int.le_refl _, .inl rfl⟩
  | false =>
   obtain ⟨c1, c2⟩ := bo c0
   obtain ⟨c3, c4⟩ := bo c2
   have c1 := ne_of_beq_false c1
   have c3 := of_decide_eq_false c3
   have c4 := of_decide_eq_false c4
   have hlt := hy c1
   simp only [cond_false]
   cases ((y0 == (2 : Int)) || ((y0 == (8 : Int)) || (y0 == (9 : Int)))) with
   | true => simp only [cond_true, List.length_append, List.length_cons, List.length_nil]; omega
   | false =>
   cases ((y0 == (3 : Int)) || (y0 == (4 : Int))) with
   | true => simp only [cond_true, cond_false, List.length_append, List.length_cons, List.length_nil]; omega
   | false =>
   cases Xf y0 5 7 with
   | false => simp only [cond_false, List.length_append, List.length_cons, List.length_nil]; omega
   | true =>
    have ih := B2 n p (at_ + 1) q (deep + 1) (by omega) (by omega) hp (by omega) (by omega)
    simp only [cond_true, cond_false]
    generalize Xt n p (at_ + 1) q (deep + 1) = x16 at ih ⊢
    cases c5 : (x16.2 == (0 : Int)) with
    | true => simp only [cond_true]; omega
    | false =>
     have c5 := ne_of_beq_false c5
     rw [IntWalk.i64_in (1 + x16.2) (by omega), IntWalk.i64_in (at_ + (1 + x16.2)) (by omega)]
     simp only [cond_false]
     cases (y0 != (5 : Int)) with
     | false => simp only [cond_false, List.length_append, List.length_cons, List.length_nil]; omega
     | true =>
      have ih2 := B2 n p (at_ + (1 + x16.2)) x16.1 (deep + 1) (by omega) (by omega) hp (by omega) (by omega)
      simp only [cond_true]
      generalize Xt n p (at_ + (1 + x16.2)) x16.1 (deep + 1) = x21 at ih2 ⊢
      cases c6 : (x21.2 == (0 : Int)) with
      | true => simp only [cond_true]; omega
      | false =>
       have c6 := ne_of_beq_false c6
       rw [IntWalk.i64_in (1 + x16.2 + x21.2) (by omega)]
       simp only [cond_false, List.length_append, List.length_cons, List.length_nil]
       omega
theorem QG : ∀ (n_ : Nat) (p : (List ByteArray)) (at_ : Int) (q : (List Qw)) (deep : Int) (ha : 0 ≤ at_) (hz : List.length p ≤ 24) (ht : at_ ≤ 30) (hd : 0 ≤ deep) (hx : deep ≤ 10) (hn : 11 ≤ deep + ((n_ : Nat) : Int)) (hm : n_ ≤ 12), AVal Tryz.prog 124 [.h p, .i at_, .o 40 q, .i deep] (.tup [(false, [.o 0 (((Xt n_ p at_ q deep)).1)]), (false, [.i (((Xt n_ p at_ q deep)).2)])]) := by
 intro n_
 induction n_ with
 | zero => intro p at_ q deep ha hz ht hd hx hn hm; exact (by omega : False).elim
 | succ n_ ih =>
  intro p at_ q deep ha hz ht hd hx hn hm
  refine DM (tt := tt) Qa Tryz.func124 (fn := Tryz.f124) rfl (by unfold Br; kernel_rfl) (Nat.le_of_ble_eq_true rfl) rfl fun w0 F0 hG => ?_
  have hw1 : IntKind.i64.wrap (at_ + 1) = at_ + 1 := IntWalk.i64_in _ (by omega)
  have hw2 : IntKind.i64.wrap (deep + 1) = deep + 1 := IntWalk.i64_in _ (by omega)
  have hw3 : IntKind.i64.wrap (at_ + 2) = at_ + 2 := IntWalk.i64_in _ (by omega)
  refine sn Qa [0, 1, 2, 3, 8, 9] [] (p0) ?_
  refine tn Qa [0, 1, 2, 3, 8, 9, 10] [] (p0) ?_
  refine Qc ?_
  refine tu Qa [(8, .e 0), (9, .i 0), (10, .i 0), (11, .i 1)] [] [] [] (p0) ?_
  refine RD (Ul p at_) Ac (Int.toNat (((9 : Int) + 1) - 1)) 0 (fun k0 s0 => [(10, .i s0), (11, .i ((k0 + 1 : Nat) : Int))]) [10, 11] (fun y0 => [(10, .i y0)]) [10, 11] (fun _ s0 => (s0 = 0 ∨ at_ < (List.length p : Int))) (fun y0 => (y0 = 0 ∨ at_ < (List.length p : Int))) wf0 (by exact .inl rfl) (fun k0 s0 hk0 hI0 => ?_) (fun k0 s0 hk0 hI0 => ?_) (fun y0 hD0 => ?_)
  ·
   have hA0_0 := hI0.2
   refine Qc ?_
   refine su Qa [(16, .b true)] [] [] [] (pe 1 (Q1 (decide_eq_true (p := ((k0 + 1 : Nat) : Int) ≤ (9 : Int)) (by omega))) p0) ?_
   refine ckT ?_
   refine Qf ?_
   refine Qc ?_
   refine Qz ?_
   have hk1 := NX ((k0 + 1 : Nat) : Int)
   refine sn Qa [0, 1, 2, 3, 8, 9, 10, 11, 24] [] (pc 2 (Je p at_ (by omega)) (pc 4 (Ef ((k0 + 1 : Nat) : Int)) p0)) ?_
   refine ck ((Qh p at_).toList == (Xk ((k0 + 1 : Nat) : Int)).toList) (fun h2 => ?_) (fun h2 => ?_)
   ·
    refine qn Qa [0, 1, 2, 3, 8, 9, 10, 11] [] (p0) ?_
    refine qu Qa [(10, .i ((k0 + 1 : Nat) : Int)), (11, .i ((k0 + 2 : Nat) : Int))] [10, 11, 16] [] [] (pe 1 (show .i (IntKind.i64.wrap (((k0 + 1 : Nat) : Int) + 1)) = .i ((k0 + 2 : Nat) : Int) from Jq ((IntWalk.i64_in _ (by omega)).trans (by omega))) p0) ?_
    exact xw ((k0 + 1 : Nat) : Int) ⟨Zp hk0 (Xh h2 (rfl)) hI0.1, (by first | exact hA0_0 | exact .inr (FE (by assumption)))⟩
   refine Qf ?_
   refine qn Qa [0, 1, 2, 3, 8, 9, 10, 11] [] (pe 1 (show .i (IntKind.i64.wrap (((k0 + 1 : Nat) : Int) + 1)) = .i ((k0 + 2 : Nat) : Int) from Jq ((IntWalk.i64_in _ (by omega)).trans (by omega))) p0) ?_
   exact xw s0 ⟨Zp hk0 (Qj h2 (rfl)) hI0.1, (by first | exact hA0_0 | exact .inr (FE (by assumption)))⟩
  ·
   have hA0_0 := hI0.2
   refine Qc ?_
   refine su Qa [(16, .b false)] [] [] [] (pe 1 (Q1 (decide_eq_false (p := ((k0 + 1 : Nat) : Int) ≤ (9 : Int)) (by omega))) p0) ?_
   refine ckF ?_
   refine Xu ?_
   exact xw s0 ⟨W6 hk0 (rfl) hI0.1, by exact hA0_0⟩
  have hD0_0 := hD0.2
  refine sn Qa [0, 1, 2, 3, 8, 9, 10, 12] [12] (p0) ?_
  refine tn Qa [0, 1, 2, 3, 8, 9, 10, 12, 13] [12] (p0) ?_
  refine Qc ?_
  refine Qz ?_
  refine Qc ?_
  refine mz [(12, .p 12 0), (13, .i 1)] [] [(12, [.i y0, .i 0, .i 0, .s ⟨#[]⟩, .i 0, .i 0, .s ⟨#[]⟩])] [] ?_
  refine jn [(28, .b ((y0 == (0 : Int)) || (decide (deep > (9 : Int)) || decide ((q.length : Int) > (9 : Int)))))] [] [] [] (y0 == (0 : Int)) (fun h3 => ?_) (fun h3 => ?_) ?_
  ·
   have h3d := eq_of_beq h3
   refine ru Qa [(28, .b true)] [] [] [] (pt 1 h3 p0) ?_
   exact ⟨rfl, Qd (by rw [h3] <;> kernel_rfl)⟩
  ·
   have h3d := Yg h3
   refine Xo (decide (deep > (9 : Int))) (fun h4 => ?_) (fun h4 => ?_)
   ·
    have h4d := of_decide_eq_true h4
    refine ru Qa [(28, .b true)] [] [] [] (pf 1 h3 (pt 4 h4 p0)) ?_
    exact ⟨rfl, Qd (by rw [h3, h4] <;> kernel_rfl)⟩
   have h4d := of_decide_eq_false h4
   refine rn Qa [0, 1, 2, 3, 8, 9, 10, 12, 13, 28] [12] (pf 1 h3 (pf 4 h4 (pl 8 q p0))) ?_
   exact ⟨rfl, Qd (by rw [h3, h4] <;> kernel_rfl)⟩
  refine ck ((y0 == (0 : Int)) || (decide (deep > (9 : Int)) || decide ((q.length : Int) > (9 : Int)))) (fun h5 => ?_) (fun h5 => ?_)
  ·
   refine sn Qa [2, 8, 9, 12, 13] [12] (p0) ?_
   refine Qe ?_
   exact pz [] (show Xt (n_ + 1) p at_ q deep = _ from V4 hD0.1 (Xh h5 (rfl))) (fun z => .tup [(false, [.o 0 z.1]), (false, [.i z.2])])
  have h5l : ((y0 == (0 : Int))) = false := KN h5
  have h5ld := Yg h5l
  have h5r : ((decide (deep > (9 : Int)) || decide ((q.length : Int) > (9 : Int)))) = false := KO h5
  have h5rl : (decide (deep > (9 : Int))) = false := KN h5r
  have h5rld := of_decide_eq_false h5rl
  have h5rr : (decide ((q.length : Int) > (9 : Int))) = false := KO h5r
  have h5rrd := of_decide_eq_false h5rr
  refine Qc ?_
  refine jn [(41, .b ((y0 == (2 : Int)) || ((y0 == (8 : Int)) || (y0 == (9 : Int)))))] [28] [] [] (y0 == (2 : Int)) (fun h6 => ?_) (fun h6 => ?_) ?_
  ·
   have h6d := eq_of_beq h6
   refine ru Qa [(41, .b true)] [28] [] [] (pt 1 h6 p0) ?_
   exact ⟨rfl, Qd (by rw [h6] <;> kernel_rfl)⟩
  ·
   have h6d := Yg h6
   refine Xo (y0 == (8 : Int)) (fun h7 => ?_) (fun h7 => ?_)
   ·
    have h7d := eq_of_beq h7
    refine ru Qa [(41, .b true)] [28] [] [] (pf 1 h6 (pt 4 h7 p0)) ?_
    exact ⟨rfl, Qd (by rw [h6, h7] <;> kernel_rfl)⟩
   have h7d := Yg h7
   refine ru Qa [(41, .b (y0 == (9 : Int)))] [28] [] [] (pf 1 h6 (pf 4 h7 p0)) ?_
   exact ⟨rfl, Qd (by rw [h6, h7] <;> kernel_rfl)⟩
  refine ck ((y0 == (2 : Int)) || ((y0 == (8 : Int)) || (y0 == (9 : Int)))) (fun h8 => ?_) (fun h8 => ?_)
  ·
   refine sn Qa [2, 8, 9, 12, 13] [12] (pc 3 (Je p (IntKind.i64.wrap (at_ + 1)) (by omega)) p0) ?_
   refine qn Qa [2, 8, 9, 12, 13] [12] (p0) ?_
   refine wT 2 0 (.own true 40) q (fun hw9 hl10 => ?_)
   refine tu Qa [(8, .one (.slc (.own true 8064) 7 ((eL q) ++ [[.i y0, .i 0, .i 0, .s (Qh p (IntKind.i64.wrap (at_ + 1))), .i 0, .i 0, .s ⟨#[]⟩]]))), (9, .i 2)] [0, 1, 2, 3, 8, 9, 10, 12, 13, 41] [] [12] (pa q [((y0, 0, 0, (Qh p (IntKind.i64.wrap (at_ + 1))), (0, 0, ⟨#[]⟩)) : Qw)] p0) ?_
   refine eqn [(8, .o 8064 (q ++ [((y0, 0, 0, (Qh p (IntKind.i64.wrap (at_ + 1))), (0, 0, ⟨#[]⟩)) : Qw)]))] [8] [] [] (by rw [show ((eL q) ++ [[.i y0, .i 0, .i 0, .s (Qh p (IntKind.i64.wrap (at_ + 1))), .i 0, .i 0, .s ⟨#[]⟩]]) = (eL (q ++ [((y0, 0, 0, (Qh p (IntKind.i64.wrap (at_ + 1))), (0, 0, ⟨#[]⟩)) : Qw)])) from Jo (rfl) (rfl)]; first | done | kernel_rfl) ?_
   refine Qe ?_
   exact pz [] (show Xt (n_ + 1) p at_ q deep = _ from V4 hD0.1 (Qj h5 (Xh h8 (rfl)))) (fun z => .tup [(false, [.o 0 z.1]), (false, [.i z.2])])
  have h8l : ((y0 == (2 : Int))) = false := KN h8
  have h8ld := Yg h8l
  have h8r : (((y0 == (8 : Int)) || (y0 == (9 : Int)))) = false := KO h8
  have h8rl : ((y0 == (8 : Int))) = false := KN h8r
  have h8rld := Yg h8rl
  have h8rr : ((y0 == (9 : Int))) = false := KO h8r
  have h8rrd := Yg h8rr
  refine Qc ?_
  refine jn [(57, .b ((y0 == (3 : Int)) || (y0 == (4 : Int))))] [41] [] [] (y0 == (3 : Int)) (fun h11 => ?_) (fun h11 => ?_) ?_
  ·
   have h11d := eq_of_beq h11
   refine ru Qa [(57, .b true)] [41] [] [] (pt 1 h11 p0) ?_
   exact ⟨rfl, Qd (by rw [h11] <;> kernel_rfl)⟩
  ·
   have h11d := Yg h11
   refine ru Qa [(57, .b (y0 == (4 : Int)))] [41] [] [] (pf 1 h11 p0) ?_
   exact ⟨rfl, Qd (by rw [h11] <;> kernel_rfl)⟩
  refine ck ((y0 == (3 : Int)) || (y0 == (4 : Int))) (fun h12 => ?_) (fun h12 => ?_)
  ·
   refine sn Qa [0, 1, 2, 8, 9, 12, 13] [12] (pc 3 (Je p (IntKind.i64.wrap (at_ + 1)) (by omega)) p0) ?_
   refine tn Qa [2, 8, 9, 12, 13] [12] (pc 3 (Je p (IntKind.i64.wrap (at_ + 2)) (by omega)) (pc 4 (Dh (Qh p (IntKind.i64.wrap (at_ + 2)))) p0)) ?_
   refine qu Qa [(13, .i 3)] [0, 1, 3, 10, 13, 57] [(12, [.i y0, .i 0, .i 0, .s (Qh p (IntKind.i64.wrap (at_ + 1))), .i ((((Q8 (Qh p (IntKind.i64.wrap (at_ + 2))))).1).1), .i ((((Q8 (Qh p (IntKind.i64.wrap (at_ + 2))))).1).2.1), .s ((((Q8 (Qh p (IntKind.i64.wrap (at_ + 2))))).1).2.2)])] [12] (p0) ?_
   refine wT 2 0 (.own true 40) q (fun hw13 hl14 => ?_)
   refine su Qa [(8, .one (.slc (.own true 8064) 7 ((eL q) ++ [[.i y0, .i 0, .i 0, .s (Qh p (IntKind.i64.wrap (at_ + 1))), .i ((((Q8 (Qh p (IntKind.i64.wrap (at_ + 2))))).1).1), .i ((((Q8 (Qh p (IntKind.i64.wrap (at_ + 2))))).1).2.1), .s ((((Q8 (Qh p (IntKind.i64.wrap (at_ + 2))))).1).2.2)]]))), (9, .i 3)] [2, 8, 9, 12, 13] [] [12] (pa q [((y0, 0, 0, (Qh p (IntKind.i64.wrap (at_ + 1))), (((Q8 (Qh p (IntKind.i64.wrap (at_ + 2))))).1)) : Qw)] p0) ?_
   refine eqn [(8, .o 8064 (q ++ [((y0, 0, 0, (Qh p (IntKind.i64.wrap (at_ + 1))), (((Q8 (Qh p (IntKind.i64.wrap (at_ + 2))))).1)) : Qw)]))] [8] [] [] (by rw [show ((eL q) ++ [[.i y0, .i 0, .i 0, .s (Qh p (IntKind.i64.wrap (at_ + 1))), .i ((((Q8 (Qh p (IntKind.i64.wrap (at_ + 2))))).1).1), .i ((((Q8 (Qh p (IntKind.i64.wrap (at_ + 2))))).1).2.1), .s ((((Q8 (Qh p (IntKind.i64.wrap (at_ + 2))))).1).2.2)]]) = (eL (q ++ [((y0, 0, 0, (Qh p (IntKind.i64.wrap (at_ + 1))), (((Q8 (Qh p (IntKind.i64.wrap (at_ + 2))))).1)) : Qw)])) from Jo (rfl) (rfl)]; first | done | kernel_rfl) ?_
   refine Qe ?_
   exact pz [] (show Xt (n_ + 1) p at_ q deep = _ from V4 hD0.1 (Qj h5 (Qj h8 (Xh h12 (rfl))))) (fun z => .tup [(false, [.o 0 z.1]), (false, [.i z.2])])
  have h12l : ((y0 == (3 : Int))) = false := KN h12
  have h12ld := Yg h12l
  have h12r : ((y0 == (4 : Int))) = false := KO h12
  have h12rd := Yg h12r
  refine sn Qa [0, 1, 2, 3, 8, 9, 10, 12, 13, 78] [12] (pc 1 (Y2 y0 5 7) p0) ?_
  refine ck (Xf y0 5 7) (fun h15 => ?_) (fun h15 => ?_)
  ·
   have h15w := Ox.1 h15
   refine tu Qa [(14, .i 0)] [57] [] [] (p0) ?_
   obtain ⟨x16, hx16⟩ := nm ((Xt n_ p (IntKind.i64.wrap (at_ + 1)) q (IntKind.i64.wrap (deep + 1))))
   have hrx16 := B2 n_ p (IntKind.i64.wrap (at_ + 1)) q (IntKind.i64.wrap (deep + 1)) (by omega) (by omega) (by omega) (by omega) (by omega)
   rw [hx16] at hrx16
   have hux16 : IntKind.i64.wrap (1 + x16.2) = 1 + x16.2 := IntWalk.i64_in _ (by omega)
   have hvx16 : IntKind.i64.wrap (at_ + IntKind.i64.wrap (1 + x16.2)) = at_ + (1 + x16.2) := by rw [hux16]; exact IntWalk.i64_in _ (by omega)
   refine sn Qa [0, 1, 2, 3, 8, 9, 10, 12, 13, 14] [12] (po 6 (.giv [40] (.tup [(false, [.o 0 x16.1]), (false, [.i x16.2])])) (px (WN (hx16 ▸ ih p (IntKind.i64.wrap (at_ + 1)) q (IntKind.i64.wrap (deep + 1)) (by omega) (by omega) (by omega) (by omega) (by omega) (by omega) (by omega))) p0)) ?_
   refine wT 2 0 (.own true 5632) x16.1 (fun hw17 hl18 => ?_)
   refine tn Qa [0, 1, 2, 3, 8, 9, 10, 12, 13, 14] [12] (pl 1 x16.1 (pe 2 (Jq (IntWalk.i64_in ((x16.1.length : Int) - 1) (by omega))) p0)) ?_
   refine tu Qa [(2, .o 5632 x16.1), (13, .i (IntKind.i64.wrap (1 + x16.2))), (14, .i x16.2)] [2, 13, 14] [(12, [.i y0, .i ((x16.1.length : Int) - 1), .i 0, .s ⟨#[]⟩, .i 0, .i 0, .s ⟨#[]⟩])] [12] (p0) ?_
   refine Qc ?_
   refine su Qa [(98, .b (x16.2 == (0 : Int)))] [] [] [] (p0) ?_
   refine ck (x16.2 == (0 : Int)) (fun h19 => ?_) (fun h19 => ?_)
   ·
    have h19d := eq_of_beq h19
    refine su Qa [(8, .o 5632 x16.1)] [8, 98] [] [] (p0) ?_
    refine Qe ?_
    exact pz [] (show Xt (n_ + 1) p at_ q deep = _ from V4 hD0.1 (Qj h5 (Qj h8 (Qj h12 (Xh h15 (D4 hx16 (Xh h19 (rfl)))))))) (fun z => .tup [(false, [.o 0 z.1]), (false, [.i z.2])])
   have h19d := Yg h19
   refine Qf ?_
   refine sn Qa [0, 1, 2, 3, 8, 9, 12, 13, 14, 101] [12] (p0) ?_
   refine ck (y0 != (5 : Int)) (fun h20 => ?_) (fun h20 => ?_)
   ·
    have h20d := Ot h20
    obtain ⟨x21, hx21⟩ := nm ((Xt n_ p (IntKind.i64.wrap (at_ + IntKind.i64.wrap (1 + x16.2))) x16.1 (IntKind.i64.wrap (deep + 1))))
    have hrx21 := B2 n_ p (IntKind.i64.wrap (at_ + IntKind.i64.wrap (1 + x16.2))) x16.1 (IntKind.i64.wrap (deep + 1)) (by omega) (by omega) (by omega) (by omega) (by omega)
    rw [hx21] at hrx21
    have hux21 : IntKind.i64.wrap (1 + x21.2) = 1 + x21.2 := IntWalk.i64_in _ (by omega)
    have hvx21 : IntKind.i64.wrap (at_ + IntKind.i64.wrap (1 + x21.2)) = at_ + (1 + x21.2) := by rw [hux21]; exact IntWalk.i64_in _ (by omega)
    refine tn Qa [2, 8, 9, 12, 13, 14] [12] (po 7 (.giv [5632] (.tup [(false, [.o 0 x21.1]), (false, [.i x21.2])])) (px (WN (hx21 ▸ ih p (IntKind.i64.wrap (at_ + IntKind.i64.wrap (1 + x16.2))) x16.1 (IntKind.i64.wrap (deep + 1)) (by omega) (by omega) (by omega) (by omega) (by omega) (by omega) (by omega))) p0)) ?_
    refine wT 2 0 (.own true 7040) x21.1 (fun hw22 hl23 => ?_)
    refine tu Qa [(2, .o 7040 x21.1), (14, .i x21.2)] [0, 1, 2, 3, 10, 14, 98] [(12, [.i y0, .i ((x16.1.length : Int) - 1), .i ((x21.1.length : Int) - 1), .s ⟨#[]⟩, .i 0, .i 0, .s ⟨#[]⟩])] [12] (pl 1 x21.1 (pe 2 (Jq (IntWalk.i64_in ((x21.1.length : Int) - 1) (by omega))) p0)) ?_
    refine sn Qa [2, 8, 9, 12, 13, 14] [12] (p0) ?_
    refine tn Qa [2, 8, 9, 12, 13, 121] [12] (p0) ?_
    refine ck (x21.2 == (0 : Int)) (fun h24 => ?_) (fun h24 => ?_)
    ·
     have h24d := eq_of_beq h24
     refine tu Qa [(8, .o 7040 x21.1), (13, .i (IntKind.i64.wrap (IntKind.i64.wrap (1 + x16.2) + x21.2)))] [8, 13, 14] [] [] (p0) ?_
     refine Qe ?_
     exact pz [] (show Xt (n_ + 1) p at_ q deep = _ from V4 hD0.1 (Qj h5 (Qj h8 (Qj h12 (Xh h15 (D4 hx16 (Qj h19 (Xh h20 (D4 hx21 (Xh h24 (rfl))))))))))) (fun z => .tup [(false, [.o 0 z.1]), (false, [.i z.2])])
    have h24d := Yg h24
    refine Qf ?_
    refine tu Qa [(8, .one (.slc (.own true 8064) 7 ((eL x21.1) ++ [[.i y0, .i ((x16.1.length : Int) - 1), .i ((x21.1.length : Int) - 1), .s ⟨#[]⟩, .i 0, .i 0, .s ⟨#[]⟩]]))), (9, .i (IntKind.i64.wrap (IntKind.i64.wrap (1 + x16.2) + x21.2)))] [2, 8, 9, 12, 13, 14] [] [12] (pa x21.1 [((y0, ((x16.1.length : Int) - 1), ((x21.1.length : Int) - 1), ⟨#[]⟩, (0, 0, ⟨#[]⟩)) : Qw)] p0) ?_
    refine eqn [(8, .o 8064 (x21.1 ++ [((y0, ((x16.1.length : Int) - 1), ((x21.1.length : Int) - 1), ⟨#[]⟩, (0, 0, ⟨#[]⟩)) : Qw)]))] [8] [] [] (by rw [show ((eL x21.1) ++ [[.i y0, .i ((x16.1.length : Int) - 1), .i ((x21.1.length : Int) - 1), .s ⟨#[]⟩, .i 0, .i 0, .s ⟨#[]⟩]]) = (eL (x21.1 ++ [((y0, ((x16.1.length : Int) - 1), ((x21.1.length : Int) - 1), ⟨#[]⟩, (0, 0, ⟨#[]⟩)) : Qw)])) from Jo (rfl) (rfl)]; first | done | kernel_rfl) ?_
    refine Qe ?_
    exact pz [] (show Xt (n_ + 1) p at_ q deep = _ from V4 hD0.1 (Qj h5 (Qj h8 (Qj h12 (Xh h15 (D4 hx16 (Qj h19 (Xh h20 (D4 hx21 (Qj h24 (rfl))))))))))) (fun z => .tup [(false, [.o 0 z.1]), (false, [.i z.2])])
   have h20d := Hb h20
   refine Qf ?_
   refine tu Qa [(8, .one (.slc (.own true 8064) 7 ((eL x16.1) ++ [[.i y0, .i ((x16.1.length : Int) - 1), .i 0, .s ⟨#[]⟩, .i 0, .i 0, .s ⟨#[]⟩]]))), (9, .i (IntKind.i64.wrap (1 + x16.2)))] [0, 1, 2, 3, 8, 9, 10, 12, 13, 14, 98] [] [12] (pa x16.1 [((y0, ((x16.1.length : Int) - 1), 0, ⟨#[]⟩, (0, 0, ⟨#[]⟩)) : Qw)] p0) ?_
   refine eqn [(8, .o 8064 (x16.1 ++ [((y0, ((x16.1.length : Int) - 1), 0, ⟨#[]⟩, (0, 0, ⟨#[]⟩)) : Qw)]))] [8] [] [] (by rw [show ((eL x16.1) ++ [[.i y0, .i ((x16.1.length : Int) - 1), .i 0, .s ⟨#[]⟩, .i 0, .i 0, .s ⟨#[]⟩]]) = (eL (x16.1 ++ [((y0, ((x16.1.length : Int) - 1), 0, ⟨#[]⟩, (0, 0, ⟨#[]⟩)) : Qw)])) from Jo (rfl) (rfl)]; first | done | kernel_rfl) ?_
   refine Qe ?_
   exact pz [] (show Xt (n_ + 1) p at_ q deep = _ from V4 hD0.1 (Qj h5 (Qj h8 (Qj h12 (Xh h15 (D4 hx16 (Qj h19 (Qj h20 (rfl))))))))) (fun z => .tup [(false, [.o 0 z.1]), (false, [.i z.2])])
  refine Qf ?_
  refine wT 2 0 (.own true 40) q (fun hw25 hl26 => ?_)
  refine tu Qa [(8, .one (.slc (.own true 8064) 7 ((eL q) ++ [[.i y0, .i 0, .i 0, .s ⟨#[]⟩, .i 0, .i 0, .s ⟨#[]⟩]]))), (9, .i 1)] [0, 1, 2, 3, 8, 9, 10, 12, 13, 57] [] [12] (pa q [((y0, 0, 0, ⟨#[]⟩, (0, 0, ⟨#[]⟩)) : Qw)] p0) ?_
  refine eqn [(8, .o 8064 (q ++ [((y0, 0, 0, ⟨#[]⟩, (0, 0, ⟨#[]⟩)) : Qw)]))] [8] [] [] (by rw [show ((eL q) ++ [[.i y0, .i 0, .i 0, .s ⟨#[]⟩, .i 0, .i 0, .s ⟨#[]⟩]]) = (eL (q ++ [((y0, 0, 0, ⟨#[]⟩, (0, 0, ⟨#[]⟩)) : Qw)])) from Jo (rfl) (rfl)]; first | done | kernel_rfl) ?_
  refine Qe ?_
  exact pz [] (show Xt (n_ + 1) p at_ q deep = _ from V4 hD0.1 (Qj h5 (Qj h8 (Qj h12 (Qj h15 (rfl)))))) (fun z => .tup [(false, [.o 0 z.1]), (false, [.i z.2])])
def Xr (s_ : ByteArray) : (List Qw) × Bool := (bif (!(((Xd s_)).2)) then ([], false) else (lt (Xc (List.length (((Xd s_)).1) + 1) (((Xd s_)).1) ([] : (List Qw))) (fun x3 => (bif ((!x3.1) || (decide ((x3.2.1.length : Int) > (0 : Int)) || (!(Qk x3.2.2)))) then ([], false) else (x3.2.2, true)))))
theorem Mt (s_ : ByteArray) : ACalls Tryz.prog 136 [.s s_] (.tup [(false, [.o 0 (((Xr s_)).1)]), (false, [.b (((Xr s_)).2)])]) := by
 refine en Qa Tryz.func136 fun w0 F0 hG => ?_
 refine sn Qa [0, 2, 3] [] (p0) ?_
 have hk1 := Qaj s_
 refine tn Qa [2, 3, 4, 5] [] (pc 1 (Ln s_) p0) ?_
 refine Qc ?_
 refine tu Qa [(2, .e 0), (3, .b false), (4, .o 576 (((Xd s_)).1)), (13, .b (!(((Xd s_)).2)))] [0] [] [] (p0) ?_
 refine ck (!(((Xd s_)).2)) (fun h2 => ?_) (fun h2 => ?_)
 ·
  refine sn Qa [2, 3, 4] [] (p0) ?_
  refine opn [(false, 2, 0, true, 384000, 7)] ?_
  refine Qe ?_
  exact pz [] (show Xr s_ = _ from Xh h2 (rfl)) (fun z => .tup [(false, [.o 0 z.1]), (false, [.b z.2])])
 refine Qf ?_
 refine sn Qa [2, 3, 6] [16] (p0) ?_
 refine Qc ?_
 obtain ⟨x3, hx3⟩ := nm (Xc (List.length (((Xd s_)).1) + 1) (((Xd s_)).1) ([] : (List Qw)))
 have hqx3 := Ik (List.length (((Xd s_)).1) + 1) (((Xd s_)).1) ([] : (List Qw))
 rw [hx3] at hqx3
 refine Qc ?_
 refine mz [(6, .p 16 0)] [4, 13] [(16, [.o 576 (((Xd s_)).1), .e 7])] [] ?_
 refine jn [(35, .b ((!x3.1) || (decide ((x3.2.1.length : Int) > (0 : Int)) || (!(Qk x3.2.2)))))] [] [(16, [.h x3.2.1, .o 1193 x3.2.2])] [16] (!x3.1) (fun h4 => ?_) (fun h4 => ?_) ?_
 ·
  have h4n : (x3.1) = false := Vp h4
  refine H8 (Wg [576] rfl) ?_
  refine opn [(true, 16, 1, true, 448006, 7)] ?_
  refine rn Qa [2, 3, 6, 35] [16] (po 1 (.give none (.b false) [.h x3.2.1, .o 41 x3.2.2]) (px (Bb (gb h4n (hx3 ▸ Lz (List.length (((Xd s_)).1) + 1) (((Xd s_)).1) ([] : (List Qw)) (by omega) (by omega) (by simp; omega)))) (pe 2 (show .b (!false) = .b true from rfl) p0))) ?_
  exact ⟨rfl, Qd (by rw [h4] <;> kernel_rfl)⟩
 ·
  have h4n : (x3.1) = true := Z4 h4
  refine Xo (decide ((x3.2.1.length : Int) > (0 : Int))) (fun h5 => ?_) (fun h5 => ?_)
  ·
   have h5d := of_decide_eq_true h5
   refine H8 (Wg [576] rfl) ?_
   refine opn [(true, 16, 1, true, 448007, 7)] ?_
   refine rn Qa [2, 3, 6, 35] [16] (po 1 (.give none (.b true) [.h x3.2.1, .o 41 x3.2.2]) (px (Bb (gb h4n (hx3 ▸ Lz (List.length (((Xd s_)).1) + 1) (((Xd s_)).1) ([] : (List Qw)) (by omega) (by omega) (by simp; omega)))) (pe 2 (show .b (!true) = .b false from rfl) (pl 8 x3.2.1 (pt 9 h5 p0))))) ?_
   exact ⟨rfl, Qd (by rw [h4, h5] <;> kernel_rfl)⟩
  have h5d := of_decide_eq_false h5
  refine H8 (Wg [576] rfl) ?_
  refine opn [(true, 16, 1, true, 448008, 7)] ?_
  refine rn Qa [2, 3, 6, 35] [16] (po 1 (.give none (.b true) [.h x3.2.1, .o 41 x3.2.2]) (px (Bb (gb h4n (hx3 ▸ Lz (List.length (((Xd s_)).1) + 1) (((Xd s_)).1) ([] : (List Qw)) (by omega) (by omega) (by simp; omega)))) (pe 2 (show .b (!true) = .b false from rfl) (pl 8 x3.2.1 (pf 9 h5 (pc 16 (Kz x3.2.2) p0)))))) ?_
  exact ⟨rfl, Qd (by rw [h4, h5] <;> kernel_rfl)⟩
 refine ck ((!x3.1) || (decide ((x3.2.1.length : Int) > (0 : Int)) || (!(Qk x3.2.2)))) (fun h6 => ?_) (fun h6 => ?_)
 ·
  refine su Qa [] [35] [] [] (p0) ?_
  refine opn [(false, 2, 0, true, 384000, 7)] ?_
  refine Qe ?_
  exact pz [] (show Xr s_ = _ from Qj h2 (D4 hx3 (Xh h6 (rfl)))) (fun z => .tup [(false, [.o 0 z.1]), (false, [.b z.2])])
 refine Qf ?_
 refine sn Qa [2, 3] [] (p0) ?_
 refine Qe ?_
 exact pz [] (show Xr s_ = _ from Qj h2 (D4 hx3 (Qj h6 (rfl)))) (fun z => .tup [(false, [.o 0 z.1]), (false, [.b z.2])])
def X7 (s_ : ByteArray) : (List Qw) × Bool := (bif (!(((Qb s_)).2)) then ([], false) else (lt (Xt 12 (((Qb s_)).1) 0 ([] : (List Qw)) 0) (fun x3 => (bif ((x3.2 != ((((Qb s_)).1).length : Int)) || (((Xv x3.1).toList == (⟨#[]⟩ : ByteArray).toList) || (!((Xv x3.1).toList == (Jf (((Qb s_)).1)).toList)))) then ([], false) else (x3.1, true)))))
theorem Mu (s_ : ByteArray) : ACalls Tryz.prog 94 [.s s_] (.tup [(false, [.o 0 (((X7 s_)).1)]), (false, [.b (((X7 s_)).2)])]) := by
 refine en Qa Tryz.func94 fun w0 F0 hG => ?_
 refine sn Qa [0, 2, 3] [] (p0) ?_
 have hk1 := Cm s_
 refine tn Qa [2, 3, 4, 5] [] (pc 1 (Cj s_) p0) ?_
 refine Qc ?_
 refine tu Qa [(2, .e 0), (3, .b false), (4, .o 704 (((Qb s_)).1)), (15, .b (!(((Qb s_)).2)))] [0] [] [] (p0) ?_
 refine ck (!(((Qb s_)).2)) (fun h2 => ?_) (fun h2 => ?_)
 ·
  refine sn Qa [2, 3, 4] [] (p0) ?_
  refine Qe ?_
  exact pz [] (show X7 s_ = _ from Xh h2 (rfl)) (fun z => .tup [(false, [.o 0 z.1]), (false, [.b z.2])])
 refine Qf ?_
 obtain ⟨x3, hx3⟩ := nm ((Xt 12 (((Qb s_)).1) 0 ([] : (List Qw)) 0))
 have hrx3 := B2 12 (((Qb s_)).1) 0 ([] : (List Qw)) 0 (by omega) (by omega) (by omega) (by omega) (by omega)
 rw [hx3] at hrx3
 refine sn Qa [2, 3, 4, 6, 7] [] (po 2 (.giv [1216] (.tup [(false, [.o 0 x3.1]), (false, [.i x3.2])])) (px (WN (hx3 ▸ QG 12 (((Qb s_)).1) 0 ([] : (List Qw)) 0 (by omega) (by omega) (by omega) (by omega) (by omega) (by omega) (by omega))) p0)) ?_
 have hk4 := NY x3.1
 refine tn Qa [2, 3, 4, 6, 7, 8] [] (pc 1 (Cn x3.1) p0) ?_
 refine Qc ?_
 refine Qc ?_
 refine mz [(6, .o 1280 x3.1), (7, .i x3.2), (8, .s (Xv x3.1))] [15] [] [] ?_
 refine jn [(38, .b ((x3.2 != ((((Qb s_)).1).length : Int)) || (((Xv x3.1).toList == (⟨#[]⟩ : ByteArray).toList) || (!((Xv x3.1).toList == (Jf (((Qb s_)).1)).toList)))))] [4, 7, 8] [] [] (x3.2 != ((((Qb s_)).1).length : Int)) (fun h5 => ?_) (fun h5 => ?_) ?_
 ·
  refine rn Qa [2, 3, 6, 38] [] (pl 2 (((Qb s_)).1) (pt 3 h5 p0)) ?_
  exact ⟨rfl, Qd (by rw [h5] <;> kernel_rfl)⟩
 ·
  have h5d := Hb h5
  refine Xo ((Xv x3.1).toList == (⟨#[]⟩ : ByteArray).toList) (fun h6 => ?_) (fun h6 => ?_)
  ·
   refine rn Qa [2, 3, 6, 38] [] (pl 2 (((Qb s_)).1) (pf 3 h5 (pt 6 h6 p0))) ?_
   exact ⟨rfl, Qd (by rw [h5, h6] <;> kernel_rfl)⟩
  refine rn Qa [2, 3, 6, 38] [] (pl 2 (((Qb s_)).1) (pf 3 h5 (pf 6 h6 (pc 11 (Ii (((Qb s_)).1) (by first | exact (Cm _).1 | (simp only [List.length_drop]; have := (Cm line).1; omega)) (by first | exact (Cm _).2 | exact fun y hy => (Cm line).2 y (List.mem_of_mem_drop hy))) p0)))) ?_
  exact ⟨rfl, Qd (by rw [h5, h6] <;> kernel_rfl)⟩
 refine ck ((x3.2 != ((((Qb s_)).1).length : Int)) || (((Xv x3.1).toList == (⟨#[]⟩ : ByteArray).toList) || (!((Xv x3.1).toList == (Jf (((Qb s_)).1)).toList)))) (fun h7 => ?_) (fun h7 => ?_)
 ·
  refine sn Qa [2, 3, 6] [] (p0) ?_
  refine Qe ?_
  exact pz [] (show X7 s_ = _ from Qj h2 (D4 hx3 (Xh h7 (rfl)))) (fun z => .tup [(false, [.o 0 z.1]), (false, [.b z.2])])
 refine Qf ?_
 refine sn Qa [2, 3] [] (p0) ?_
 refine Qe ?_
 exact pz [] (show X7 s_ = _ from Qj h2 (D4 hx3 (Qj h7 (rfl)))) (fun z => .tup [(false, [.o 0 z.1]), (false, [.b z.2])])
open GoE (enc wide)
def Z3 (w : (List ByteArray)) (s0 : Bool × Int × (List Vc)) : Rd (Jk × Bool) (Bool × Int × (List Vc)) (Bool × (List Vc)) := (bif decide (s0.2.1 < (w.length : Int)) then (.next ((s0.1 && ((Qn (nth w (Int.toNat (IntKind.i64.wrap (s0.2.1 + 1)))))).2), IntKind.i64.wrap (s0.2.1 + 2), s0.2.2 ++ [((nth w (Int.toNat s0.2.1)), (((Qn (nth w (Int.toNat (IntKind.i64.wrap (s0.2.1 + 1)))))).1))])) else (.brk (s0.1, s0.2.2)))
def Yo (w : (List ByteArray)) : Jk × Bool := (bif (decide ((w.length : Int) < (4 : Int)) || (Int.tmod (w.length : Int) 2 != (0 : Int))) then ((0, 0, false, 0, []), false) else (Out.on (YC (Z3 w) (List.length w + 1) (((Qg (nth w 0)).2 && ((Qg (nth w 1)).2 && (Qg (nth w 3)).2)), 4, [])) (fun y0 => (((Qg (nth w 0)).1, (Qg (nth w 1)).1, ((nth w 2).toList == (⟨#[115]⟩ : ByteArray).toList), (Qg (nth w 3)).1, y0.2), y0.1))))
theorem LZ {w : List ByteArray} (hw : List.length w ≤ 1073741800) (b : Bool) : (whl (Z3 w) (List.length w + 1) (b, 4, [])).isSome = true :=
  DJ (fun s => s.2.1 / 2) ((w.length : Int) / 2 + 1) (fun s s' h0 h => by
    unfold Z3 at h
    by_cases hc : s.2.1 < (w.length : Int)
    · rw [decide_eq_true hc, cond_true] at h
      have h := Rd.next.inj h
      rw [← h]
      have e : IntKind.i64.wrap (s.2.1 + 2) = s.2.1 + 2 := IntWalk.i64_in _ (by omega)
      simp only [e]
      omega
    rw [decide_eq_false hc, cond_false] at h; cases h) _ _ (by show (0 : Int) ≤ 4 / 2; decide) (by show _ ≤ (4 : Int) / 2 + _; omega)
theorem ZG (w : (List ByteArray)) (hw : List.length w ≤ 1073741800) : ACalls Tryz.prog 135 [.h w] (.tup [(true, [.i ((((Yo w)).1).1), .i ((((Yo w)).1).2.1), .b ((((Yo w)).1).2.2.1), .i ((((Yo w)).1).2.2.2.1), .o 0 ((((Yo w)).1).2.2.2.2)]), (false, [.b (((Yo w)).2)])]) := by
 refine en Qa Tryz.func135 fun w0 F0 hG => ?_
 have hmt : Int.tmod (w.length : Int) 2 = (w.length : Int) % 2 := Int.tmod_eq_emod_of_nonneg (by omega)
 refine sn Qa [0, 2, 3] [2] (p0) ?_
 refine Qc ?_
 refine Qc ?_
 refine mz [(2, .p 2 0), (3, .b false)] [] [(2, [.i 0, .i 0, .b false, .i 0, .e 4])] [] ?_
 refine jn [(23, .b (decide ((w.length : Int) < (4 : Int)) || (Int.tmod (w.length : Int) 2 != (0 : Int))))] [] [] [] (decide ((w.length : Int) < (4 : Int))) (fun h1 => ?_) (fun h1 => ?_) ?_
 ·
  refine rn Qa [0, 2, 3, 23] [2] (pl 1 w (pt 2 h1 p0)) ?_
  exact ⟨rfl, Qd (by rw [h1] <;> kernel_rfl)⟩
 ·
  have h1d := of_decide_eq_false h1
  refine rn Qa [0, 2, 3, 23] [2] (pl 1 w (pf 2 h1 (pl 5 w (px (PQ (n := 2) (by omega)) (px (CQ (k := .i64) (n := Int.tmod (w.length : Int) 2) (by unfold InR; simp only [IntKind.min, IntKind.max, IntKind.bits, IntKind.signed]; omega)) p0))))) ?_
  exact ⟨rfl, Qd (by rw [h1] <;> kernel_rfl)⟩
 refine ck (decide ((w.length : Int) < (4 : Int)) || (Int.tmod (w.length : Int) 2 != (0 : Int))) (fun h2 => ?_) (fun h2 => ?_)
 ·
  refine su Qa [] [23] [] [] (p0) ?_
  refine opn [(true, 2, 4, true, 384000, 4)] ?_
  refine Qe ?_
  exact pz [] (show Yo w = _ from Xh h2 (rfl)) (fun z => .tup [(true, [.i z.1.1, .i z.1.2.1, .b z.1.2.2.1, .i z.1.2.2.2.1, .o 0 z.1.2.2.2.2]), (false, [.b z.2])])
 have h2l : (decide ((w.length : Int) < (4 : Int))) = false := KN h2
 have h2ld := of_decide_eq_false h2l
 have h2r : ((Int.tmod (w.length : Int) 2 != (0 : Int))) = false := KO h2
 have h2rd := Hb h2r
 refine Qf ?_
 refine wT 0 0 .sh w (fun hw4 hl5 => ?_)
 have hx3 := ng w 0
 refine sn Qa [0, 2, 3, 4, 5] [2] (pg 1 0 hx3 (pc 3 (Vm (nth w 0)) p0)) ?_
 have hx6 := ng w 1
 refine tn Qa [0, 2, 3, 4, 5, 6, 7] [2] (pg 1 1 hx6 (pc 3 (Vm (nth w 1)) p0)) ?_
 have hx7 := ng w 3
 refine tu Qa [(4, .i ((Qg (nth w 0)).1)), (5, .b ((Qg (nth w 0)).2)), (6, .i ((Qg (nth w 1)).1)), (7, .b ((Qg (nth w 1)).2)), (8, .i ((Qg (nth w 3)).1)), (9, .b ((Qg (nth w 3)).2))] [23] [] [] (pg 1 3 hx7 (pc 3 (Vm (nth w 3)) p0)) ?_
 have hx8 := ng w 2
 refine sn Qa [0, 2, 3, 5, 7, 9, 10] [2, 10] (pg 3 2 hx8 p0) ?_
 refine Qc ?_
 refine mz [(10, .p 10 0)] [4, 6, 8] [(10, [.i ((Qg (nth w 0)).1), .i ((Qg (nth w 1)).1), .b ((nth w 2).toList == (⟨#[115]⟩ : ByteArray).toList), .i ((Qg (nth w 3)).1), .e 4])] [] ?_
 refine jn [(11, .b ((Qg (nth w 0)).2 && ((Qg (nth w 1)).2 && (Qg (nth w 3)).2)))] [5, 7, 9] [] [] ((Qg (nth w 0)).2) (fun h9 => ?_) (fun h9 => ?_) ?_
 ·
  refine Xo ((Qg (nth w 1)).2) (fun h10 => ?_) (fun h10 => ?_)
  ·
   refine rn Qa [0, 2, 3, 10, 11] [2, 10] (pt 0 h9 (pt 2 h10 p0)) ?_
   exact ⟨rfl, Qd (by rw [h9, h10] <;> kernel_rfl)⟩
  refine rn Qa [0, 2, 3, 10, 11] [2, 10] (pt 0 h9 (pf 2 h10 p0)) ?_
  exact ⟨rfl, Qd (by rw [h9, h10] <;> kernel_rfl)⟩
 ·
  refine rn Qa [0, 2, 3, 10, 11] [2, 10] (pf 0 h9 p0) ?_
  exact ⟨rfl, Qd (by rw [h9] <;> kernel_rfl)⟩
 refine Qc ?_
 refine su Qa [(12, .i 4)] [] [] [] (p0) ?_
 refine blw (fun (s0 : Bool × Int × (List Vc)) => [(11, .b s0.1), (12, .i s0.2.1)]) [11, 12] (fun s0 => [(10, [.i ((Qg (nth w 0)).1), .i ((Qg (nth w 1)).1), .b ((nth w 2).toList == (⟨#[115]⟩ : ByteArray).toList), .i ((Qg (nth w 3)).1), .o 147215 s0.2.2])]) [10] (fun (y0 : Bool × (List Vc)) => [(11, .b y0.1)]) [0, 11, 12] (fun y0 => [(10, [.i ((Qg (nth w 0)).1), .i ((Qg (nth w 1)).1), .b ((nth w 2).toList == (⟨#[115]⟩ : ByteArray).toList), .i ((Qg (nth w 3)).1), .o 147365 y0.2])]) [10] (fun (k0 : Nat) (s0 : Bool × Int × (List Vc)) => whl (Z3 w) k0 s0 = some (YC (Z3 w) (List.length w + 1) (((Qg (nth w 0)).2 && ((Qg (nth w 1)).2 && (Qg (nth w 3)).2)), 4, [])) ∧ 4 ≤ s0.2.1 ∧ s0.2.1 ≤ (List.length w : Int) ∧ s0.2.1 % 2 = 0 ∧ 2 * (List.length s0.2.2 : Int) + 4 = s0.2.1) (fun (y0 : Bool × (List Vc)) => (YC (Z3 w) (List.length w + 1) (((Qg (nth w 0)).2 && ((Qg (nth w 1)).2 && (Qg (nth w 3)).2)), 4, [])) = .brk y0) (List.length w + 1) (((Qg (nth w 0)).2 && ((Qg (nth w 1)).2 && (Qg (nth w 3)).2)), 4, []) (Ov [(true, 10, 4, true, 320008, 4)] [] [] [(320008, 147215)] (by kernel_rfl)) ⟨M8 (LZ hw _), (by first | omega | rfl | (simp; omega) | (simp; done)), (by first | omega | rfl | (simp; omega) | (simp; done)), (by first | omega | rfl | (simp; omega) | (simp; done)), (by first | omega | rfl | (simp; omega) | (simp; done))⟩ (fun _ h => Ts h.1) (fun k0 s0 hI0 => ?_) (fun y0 hD0 => ?_)
 ·
  have hA0_0 := hI0.2.1
  have hA0_1 := hI0.2.2.1
  have hA0_2 := hI0.2.2.2.1
  have hA0_3 := hI0.2.2.2.2
  have e1 : IntKind.i64.wrap (s0.2.1 + 1) = s0.2.1 + 1 := IntWalk.i64_in _ (by omega)
  have e2 : IntKind.i64.wrap (s0.2.1 + 2) = s0.2.1 + 2 := IntWalk.i64_in _ (by omega)
  refine Qc ?_
  refine sn Qa [0, 2, 3, 10, 11, 12, 64] [2, 10] (pl 2 w p0) ?_
  refine ck (decide (s0.2.1 < (w.length : Int))) (fun h11 => ?_) (fun h11 => ?_)
  ·
   have h11d := of_decide_eq_true h11
   refine Qf ?_
   refine Qc ?_
   refine Qz ?_
   have hx12 := ng w (Int.toNat (IntKind.i64.wrap (s0.2.1 + 1)))
   refine tn Qa [0, 2, 3, 10, 11, 12, 13, 14] [2, 10, 13] (pg 3 (IntKind.i64.wrap (s0.2.1 + 1)) hx12 (pc 5 (Dg (nth w (Int.toNat (IntKind.i64.wrap (s0.2.1 + 1))))) p0)) ?_
   have hx13 := ng w (Int.toNat s0.2.1)
   refine wB 10 4 (.own true 147215) s0.2.2 (fun hw14 hl15 => ?_)
   refine tU Qa Yz [(14, .b (((Qn (nth w (Int.toNat (IntKind.i64.wrap (s0.2.1 + 1)))))).2))] [] [(10, [.i ((Qg (nth w 0)).1), .i ((Qg (nth w 1)).1), .b ((nth w 2).toList == (⟨#[115]⟩ : ByteArray).toList), .i ((Qg (nth w 3)).1), .slc (.own true 5440) 4 ((eL s0.2.2) ++ [[.s (nth w (Int.toNat s0.2.1)), .i ((((Qn (nth w (Int.toNat (IntKind.i64.wrap (s0.2.1 + 1)))))).1).1), .i ((((Qn (nth w (Int.toNat (IntKind.i64.wrap (s0.2.1 + 1)))))).1).2.1), .s ((((Qn (nth w (Int.toNat (IntKind.i64.wrap (s0.2.1 + 1)))))).1).2.2)]])])] [10] (pg 4 s0.2.1 hx13 (pa s0.2.2 [((nth w (Int.toNat s0.2.1)), (((Qn (nth w (Int.toNat (IntKind.i64.wrap (s0.2.1 + 1)))))).1))] p0)) ?_
   refine eqn [] [] [(10, [.i ((Qg (nth w 0)).1), .i ((Qg (nth w 1)).1), .b ((nth w 2).toList == (⟨#[115]⟩ : ByteArray).toList), .i ((Qg (nth w 3)).1), .o 5440 (s0.2.2 ++ [((nth w (Int.toNat s0.2.1)), (((Qn (nth w (Int.toNat (IntKind.i64.wrap (s0.2.1 + 1)))))).1))])])] [10] (by rw [show ((eL s0.2.2) ++ [[.s (nth w (Int.toNat s0.2.1)), .i ((((Qn (nth w (Int.toNat (IntKind.i64.wrap (s0.2.1 + 1)))))).1).1), .i ((((Qn (nth w (Int.toNat (IntKind.i64.wrap (s0.2.1 + 1)))))).1).2.1), .s ((((Qn (nth w (Int.toNat (IntKind.i64.wrap (s0.2.1 + 1)))))).1).2.2)]]) = (eL (s0.2.2 ++ [((nth w (Int.toNat s0.2.1)), (((Qn (nth w (Int.toNat (IntKind.i64.wrap (s0.2.1 + 1)))))).1))])) from Jo (rfl) (rfl)]; first | done | kernel_rfl) ?_
   refine jn [(11, .b (s0.1 && ((Qn (nth w (Int.toNat (IntKind.i64.wrap (s0.2.1 + 1)))))).2))] [11, 14] [] [] s0.1 (fun h16 => ?_) (fun h16 => ?_) ?_
   ·
    refine rn Qa [0, 2, 3, 10, 11, 12] [2, 10] (pt 0 h16 p0) ?_
    exact ⟨rfl, Qd (by rw [h16] <;> kernel_rfl)⟩
   ·
    refine rn Qa [0, 2, 3, 10, 11, 12] [2, 10] (pf 0 h16 p0) ?_
    exact ⟨rfl, Qd (by rw [h16] <;> kernel_rfl)⟩
   refine rn Qa [0, 2, 3, 10, 11, 12] [2, 10] (p0) ?_
   exact Exists.intro ((s0.1 && ((Qn (nth w (Int.toNat (IntKind.i64.wrap (s0.2.1 + 1)))))).2), IntKind.i64.wrap (s0.2.1 + 2), s0.2.2 ++ [((nth w (Int.toNat s0.2.1)), (((Qn (nth w (Int.toNat (IntKind.i64.wrap (s0.2.1 + 1)))))).1))]) (And.intro (Zg [(5440, 147215)] (by kernel_rfl)) ⟨wn hI0.1 (Xh h11 (rfl)), (by first | omega | (simp; omega)), (by first | omega | (simp; omega)), (by first | omega | (simp; omega)), (by first | omega | (simp; omega))⟩)
  refine Xu ?_
  exact Exists.intro _ (And.intro (Zg [(147215, 147365)] (by kernel_rfl)) (wb hI0.1 (Qj h11 (rfl))))
 refine sn Qa [2, 3] [2] (p0) ?_
 refine Qe ?_
 exact pz [] (show Yo w = _ from Qj h2 (V4 hD0 (rfl))) (fun z => .tup [(true, [.i z.1.1, .i z.1.2.1, .b z.1.2.2.1, .i z.1.2.2.2.1, .o 0 z.1.2.2.2.2]), (false, [.b z.2])])
def Yx (b1 : (List X9)) (b2 : (List Jk)) (b3 : Int) (b4 : (List Z9)) (line : ByteArray) : Bool × (List X9) × (List Jk) × Int × (List Z9) := (bif (((nth (Qm 32 line) 0).toList == (⟨#[102, 105, 101, 108, 100]⟩ : ByteArray).toList) && (((Qm 32 line).length : Int) == (3 : Int))) then (bif ((nth (Qm 32 line) 2).toList == (⟨#[115, 116, 114, 105, 110, 103]⟩ : ByteArray).toList) then (true, b1 ++ [(((nth (Qm 32 line) 1), 2) : X9)], b2, b3, b4) else (true, b1 ++ [(((nth (Qm 32 line) 1), 1) : X9)], b2, b3, b4)) else (bif (((nth (Qm 32 line) 0).toList == (⟨#[110, 101, 120, 116]⟩ : ByteArray).toList) && (((Qm 32 line).length : Int) == (2 : Int))) then ((Qg (nth (Qm 32 line) 1)).2, b1, b2, (Qg (nth (Qm 32 line) 1)).1, b4) else (bif ((nth (Qm 32 line) 0).toList == (⟨#[102, 105, 108, 101]⟩ : ByteArray).toList) then (((Yo (List.drop 1 (Qm 32 line)))).2, b1, b2 ++ [(((Yo (List.drop 1 (Qm 32 line)))).1)], b3, b4) else (bif (((nth (Qm 32 line) 0).toList == (⟨#[100, 105, 114]⟩ : ByteArray).toList) && decide (((Qm 32 line).length : Int) > (2 : Int))) then (((Xr (Q6 ⟨#[32]⟩ (List.drop 2 (Qm 32 line))))).2, b1, b2, b3, b4 ++ [((nth (Qm 32 line) 1), ((Xr (Q6 ⟨#[32]⟩ (List.drop 2 (Qm 32 line))))).1)]) else (false, b1, b2, b3, b4)))))
theorem FG (b1 : List X9) (b2 : List Jk) (b3 : Int) (b4 : List Z9) (line : ByteArray) : (Yx b1 b2 b3 b4 line).2.1.length ≤ b1.length + 1 ∧ (Yx b1 b2 b3 b4 line).2.2.1.length ≤ b2.length + 1 ∧ (Yx b1 b2 b3 b4 line).2.2.2.2.length ≤ b4.length + 1 := by
 unfold Yx
 simp only [Bool.cond_eq_ite]
 repeat' split
 all_goals (simp only [List.length_append, List.length_cons, List.length_nil]; omega)
theorem AQ (b1 : (List X9)) (b2 : (List Jk)) (b3 : Int) (b4 : (List Z9)) (line : ByteArray) (hl : ByteArray.size line ≤ 1073741000) (h1 : List.length b1 < 1073741824) (h2 : List.length b2 < 1073741824) (h4 : List.length b4 < 1073741824) : AGive Tryz.prog 109 [.o 40 b1, .o 41 b2, .i b3, .o 43 b4] [.s line] (.b (((Yx b1 b2 b3 b4 line)).1)) [.o 40 (((Yx b1 b2 b3 b4 line)).2.1), .o 41 (((Yx b1 b2 b3 b4 line)).2.2.1), .i (((Yx b1 b2 b3 b4 line)).2.2.2.1), .o 43 (((Yx b1 b2 b3 b4 line)).2.2.2.2)] := by
 refine Tu (tt := tt) Qa Tryz.func109 (fn := Tryz.f109) rfl (by unfold Br; kernel_rfl) (Nat.le_of_ble_eq_true rfl) (Nat.le_of_ble_eq_true rfl) rfl rfl fun w0 F0 hG => ?_
 have hjd := ES 32 line 2
 have hsc := Lu 32 line
 refine sn Qa [0, 1, 4] [60000] (p0) ?_
 refine stT 1 0 line (fun hs1 => ?_)
 refine tn Qa [0, 4, 5] [60000] (pc 1 (Fg line 32 (by omega)) p0) ?_
 refine Qc ?_
 refine Qz ?_
 refine Qc ?_
 refine mz [(4, .b false), (5, .o 896 (Qm 32 line))] [1] [] [] ?_
 refine jn [(15, .b (((nth (Qm 32 line) 0).toList == (⟨#[102, 105, 101, 108, 100]⟩ : ByteArray).toList) && (((Qm 32 line).length : Int) == (3 : Int))))] [] [] [] ((nth (Qm 32 line) 0).toList == (⟨#[102, 105, 101, 108, 100]⟩ : ByteArray).toList) (fun h2 => ?_) (fun h2 => ?_) ?_
 ·
  refine wT 5 0 (.own true 896) (Qm 32 line) (fun hw4 hl5 => ?_)
  have hx3 := ng (Qm 32 line) 0
  refine rn Qa [0, 4, 5, 15] [60000] (pG 1 0 hx3 (pt 3 h2 (pl 6 (Qm 32 line) p0))) ?_
  exact ⟨rfl, Qd (by rw [h2] <;> kernel_rfl)⟩
 ·
  refine wT 5 0 (.own true 896) (Qm 32 line) (fun hw7 hl8 => ?_)
  have hx6 := ng (Qm 32 line) 0
  refine rn Qa [0, 4, 5, 15] [60000] (pG 1 0 hx6 (pf 3 h2 p0)) ?_
  exact ⟨rfl, Qd (by rw [h2] <;> kernel_rfl)⟩
 refine ck (((nth (Qm 32 line) 0).toList == (⟨#[102, 105, 101, 108, 100]⟩ : ByteArray).toList) && (((Qm 32 line).length : Int) == (3 : Int))) (fun h9 => ?_) (fun h9 => ?_)
 ·
  have h9l : (((nth (Qm 32 line) 0).toList == (⟨#[102, 105, 101, 108, 100]⟩ : ByteArray).toList)) = true := Ou h9
  have h9r : ((((Qm 32 line).length : Int) == (3 : Int))) = true := Mp h9
  have h9rd := eq_of_beq h9r
  refine sn Qa [0, 4, 5, 6] [60000] (p0) ?_
  refine Qc ?_
  refine wT 5 0 (.own true 896) (Qm 32 line) (fun hw11 hl12 => ?_)
  have hx10 := ng (Qm 32 line) 2
  refine tn Qa [0, 4, 5, 6, 28] [60000] (pG 1 2 hx10 p0) ?_
  refine ck ((nth (Qm 32 line) 2).toList == (⟨#[115, 116, 114, 105, 110, 103]⟩ : ByteArray).toList) (fun h13 => ?_) (fun h13 => ?_)
  ·
   refine qu Qa [(6, .i 2)] [15] [] [] (p0) ?_
   have hx14 := ng (Qm 32 line) 1
   refine wB 60000 0 (.own true 40) b1 (fun hw15 hl16 => ?_)
   refine sU Qa Yz [] [5, 6] [(60000, [.slc (.own true 2624) 2 ((eL b1) ++ [[.s (nth (Qm 32 line) 1), .i 2]]), .o 41 b2, .i b3, .o 43 b4])] [60000] (pG 7 1 hx14 (pa b1 [(((nth (Qm 32 line) 1), 2) : X9)] p0)) ?_
   refine eqn [] [] [(60000, [.o 2624 (b1 ++ [(((nth (Qm 32 line) 1), 2) : X9)]), .o 41 b2, .i b3, .o 43 b4])] [60000] (by rw [show ((eL b1) ++ [[.s (nth (Qm 32 line) 1), .i 2]]) = (eL (b1 ++ [(((nth (Qm 32 line) 1), 2) : X9)])) from Jo (rfl) (rfl)]; first | done | kernel_rfl) ?_
   refine sn Qa [0, 4] [60000] (p0) ?_
   refine Qe ?_
   have hE17 : Yx b1 b2 b3 b4 line = (true, b1 ++ [(((nth (Qm 32 line) 1), 2) : X9)], b2, b3, b4) := Xh h9 (Xh h13 (rfl))
   exact WW [] (congrArg (fun z => (.b z.1 : AV)) hE17.symm) (congrArg (fun z => ([.o 40 z.2.1, .o 41 z.2.2.1, .i z.2.2.2.1, .o 43 z.2.2.2.2] : List C)) hE17.symm)
  refine Qf ?_
  have hx18 := ng (Qm 32 line) 1
  refine wB 60000 0 (.own true 40) b1 (fun hw19 hl20 => ?_)
  refine tU Qa Yz [] [5, 15] [(60000, [.slc (.own true 2624) 2 ((eL b1) ++ [[.s (nth (Qm 32 line) 1), .i 1]]), .o 41 b2, .i b3, .o 43 b4])] [60000] (pG 7 1 hx18 (pa b1 [(((nth (Qm 32 line) 1), 1) : X9)] p0)) ?_
  refine eqn [] [] [(60000, [.o 2624 (b1 ++ [(((nth (Qm 32 line) 1), 1) : X9)]), .o 41 b2, .i b3, .o 43 b4])] [60000] (by rw [show ((eL b1) ++ [[.s (nth (Qm 32 line) 1), .i 1]]) = (eL (b1 ++ [(((nth (Qm 32 line) 1), 1) : X9)])) from Jo (rfl) (rfl)]; first | done | kernel_rfl) ?_
  refine sn Qa [0, 4] [60000] (p0) ?_
  refine Qe ?_
  have hE21 : Yx b1 b2 b3 b4 line = (true, b1 ++ [(((nth (Qm 32 line) 1), 1) : X9)], b2, b3, b4) := Xh h9 (Qj h13 (rfl))
  exact WW [] (congrArg (fun z => (.b z.1 : AV)) hE21.symm) (congrArg (fun z => ([.o 40 z.2.1, .o 41 z.2.2.1, .i z.2.2.2.1, .o 43 z.2.2.2.2] : List C)) hE21.symm)
 refine Qc ?_
 refine jn [(45, .b (((nth (Qm 32 line) 0).toList == (⟨#[110, 101, 120, 116]⟩ : ByteArray).toList) && (((Qm 32 line).length : Int) == (2 : Int))))] [15] [] [] ((nth (Qm 32 line) 0).toList == (⟨#[110, 101, 120, 116]⟩ : ByteArray).toList) (fun h22 => ?_) (fun h22 => ?_) ?_
 ·
  refine wT 5 0 (.own true 896) (Qm 32 line) (fun hw24 hl25 => ?_)
  have hx23 := ng (Qm 32 line) 0
  refine rn Qa [0, 4, 5, 45] [60000] (pG 1 0 hx23 (pt 3 h22 (pl 6 (Qm 32 line) p0))) ?_
  exact ⟨rfl, Qd (by rw [h22] <;> kernel_rfl)⟩
 ·
  refine wT 5 0 (.own true 896) (Qm 32 line) (fun hw27 hl28 => ?_)
  have hx26 := ng (Qm 32 line) 0
  refine rn Qa [0, 4, 5, 45] [60000] (pG 1 0 hx26 (pf 3 h22 p0)) ?_
  exact ⟨rfl, Qd (by rw [h22] <;> kernel_rfl)⟩
 refine ck (((nth (Qm 32 line) 0).toList == (⟨#[110, 101, 120, 116]⟩ : ByteArray).toList) && (((Qm 32 line).length : Int) == (2 : Int))) (fun h29 => ?_) (fun h29 => ?_)
 ·
  have h29l : (((nth (Qm 32 line) 0).toList == (⟨#[110, 101, 120, 116]⟩ : ByteArray).toList)) = true := Ou h29
  have h29r : ((((Qm 32 line).length : Int) == (2 : Int))) = true := Mp h29
  have h29rd := eq_of_beq h29r
  refine wT 5 0 (.own true 896) (Qm 32 line) (fun hw31 hl32 => ?_)
  have hx30 := ng (Qm 32 line) 1
  refine sn Qa [0, 4, 7, 8] [60000] (pG 1 1 hx30 (pc 3 (Vm (nth (Qm 32 line) 1)) p0)) ?_
  refine tn Qa [0, 4, 8] [60000] (p0) ?_
  refine tu Qa [(4, .b ((Qg (nth (Qm 32 line) 1)).2))] [4, 5, 45] [(60000, [.o 40 b1, .o 41 b2, .i ((Qg (nth (Qm 32 line) 1)).1), .o 43 b4])] [60000] (p0) ?_
  refine Qe ?_
  have hE33 : Yx b1 b2 b3 b4 line = ((Qg (nth (Qm 32 line) 1)).2, b1, b2, (Qg (nth (Qm 32 line) 1)).1, b4) := Qj h9 (Xh h29 (rfl))
  exact WW [] (congrArg (fun z => (.b z.1 : AV)) hE33.symm) (congrArg (fun z => ([.o 40 z.2.1, .o 41 z.2.2.1, .i z.2.2.2.1, .o 43 z.2.2.2.2] : List C)) hE33.symm)
 refine wT 5 0 (.own true 896) (Qm 32 line) (fun hw35 hl36 => ?_)
 have hx34 := ng (Qm 32 line) 0
 refine sn Qa [0, 4, 5, 68] [60000] (pG 1 0 hx34 p0) ?_
 refine ck ((nth (Qm 32 line) 0).toList == (⟨#[102, 105, 108, 101]⟩ : ByteArray).toList) (fun h37 => ?_) (fun h37 => ?_)
 ·
  refine tn Qa [0, 4, 9, 10] [9, 60000] (pe 1 (Lc (.vw 896) 1 1 1 (Qm 32 line) rfl) (px (Af (lo := 1) (hi := (((eL (Qm 32 line)) : List (List PV)).length : Int)) (n := (List.length (eL (Qm 32 line)))) (Ld (by omega) (by omega))) (pc 2 (ZG (List.drop 1 (Qm 32 line)) (by have := (Ex 32 line).1; simp only [List.length_drop]; omega)) p0))) ?_
  refine wB 60000 1 (.own true 41) b2 (fun hw38 hl39 => ?_)
  refine tU Qa Yz [(10, .b (((Yo (List.drop 1 (Qm 32 line)))).2))] [5, 45] [(60000, [.o 40 b1, .slc (.own true 5568) 5 ((eL b2) ++ [[.i ((((Yo (List.drop 1 (Qm 32 line)))).1).1), .i ((((Yo (List.drop 1 (Qm 32 line)))).1).2.1), .b ((((Yo (List.drop 1 (Qm 32 line)))).1).2.2.1), .i ((((Yo (List.drop 1 (Qm 32 line)))).1).2.2.2.1), .h ((((Yo (List.drop 1 (Qm 32 line)))).1).2.2.2.2)]]), .i b3, .o 43 b4])] [60000] (pa b2 [(((Yo (List.drop 1 (Qm 32 line)))).1)] p0) ?_
  refine eqn [] [] [(60000, [.o 40 b1, .o 5568 (b2 ++ [(((Yo (List.drop 1 (Qm 32 line)))).1)]), .i b3, .o 43 b4])] [60000] (by rw [show ((eL b2) ++ [[.i ((((Yo (List.drop 1 (Qm 32 line)))).1).1), .i ((((Yo (List.drop 1 (Qm 32 line)))).1).2.1), .b ((((Yo (List.drop 1 (Qm 32 line)))).1).2.2.1), .i ((((Yo (List.drop 1 (Qm 32 line)))).1).2.2.2.1), .h ((((Yo (List.drop 1 (Qm 32 line)))).1).2.2.2.2)]]) = (eL (b2 ++ [(((Yo (List.drop 1 (Qm 32 line)))).1)])) from Jo (rfl) (rfl)]; first | done | kernel_rfl) ?_
  refine sn Qa [0, 4] [60000] (p0) ?_
  refine Qe ?_
  have hE40 : Yx b1 b2 b3 b4 line = (((Yo (List.drop 1 (Qm 32 line)))).2, b1, b2 ++ [(((Yo (List.drop 1 (Qm 32 line)))).1)], b3, b4) := Qj h9 (Qj h29 (Xh h37 (rfl)))
  exact WW [] (congrArg (fun z => (.b z.1 : AV)) hE40.symm) (congrArg (fun z => ([.o 40 z.2.1, .o 41 z.2.2.1, .i z.2.2.2.1, .o 43 z.2.2.2.2] : List C)) hE40.symm)
 refine Qc ?_
 refine mz [(68, .b ((nth (Qm 32 line) 0).toList == (⟨#[102, 105, 108, 101]⟩ : ByteArray).toList))] [45] [] [] ?_
 refine jn [(92, .b (((nth (Qm 32 line) 0).toList == (⟨#[100, 105, 114]⟩ : ByteArray).toList) && decide (((Qm 32 line).length : Int) > (2 : Int))))] [68] [] [] ((nth (Qm 32 line) 0).toList == (⟨#[100, 105, 114]⟩ : ByteArray).toList) (fun h41 => ?_) (fun h41 => ?_) ?_
 ·
  refine rn Qa [0, 4, 5, 92] [60000] (pG 1 0 hx34 (pt 3 h41 (pl 6 (Qm 32 line) p0))) ?_
  exact ⟨rfl, Qd (by rw [h41] <;> kernel_rfl)⟩
 ·
  refine rn Qa [0, 4, 5, 92] [60000] (pG 1 0 hx34 (pf 3 h41 p0)) ?_
  exact ⟨rfl, Qd (by rw [h41] <;> kernel_rfl)⟩
 refine ck (((nth (Qm 32 line) 0).toList == (⟨#[100, 105, 114]⟩ : ByteArray).toList) && decide (((Qm 32 line).length : Int) > (2 : Int))) (fun h42 => ?_) (fun h42 => ?_)
 ·
  have h42l : (((nth (Qm 32 line) 0).toList == (⟨#[100, 105, 114]⟩ : ByteArray).toList)) = true := Ou h42
  have h42r : (decide (((Qm 32 line).length : Int) > (2 : Int))) = true := Mp h42
  have h42rd := of_decide_eq_true h42r
  refine sn Qa [0, 4, 5, 11, 12] [60000] (pe 1 (Lc (.vw 896) 1 2 2 (Qm 32 line) rfl) (px (Af (lo := 2) (hi := (((eL (Qm 32 line)) : List (List PV)).length : Int)) (n := (List.length (eL (Qm 32 line)))) (Ld (by omega) (by omega))) (pc 2 (Kd (List.drop 2 (Qm 32 line)) ⟨#[32]⟩ (by first | omega | exact Nat.le_trans (J0 (m := 10) (n := 20) rfl (by assumption) (by omega)) (by decide) | (simp only [Zd, Zy, Zq, ByteArray.size_append]; omega))) (pc 3 (Mt (Q6 ⟨#[32]⟩ (List.drop 2 (Qm 32 line)))) p0)))) ?_
  have hx43 := ng (Qm 32 line) 1
  refine wB 60000 3 (.own true 43) b4 (fun hw44 hl45 => ?_)
  refine tU Qa Yz [(12, .b (((Xr (Q6 ⟨#[32]⟩ (List.drop 2 (Qm 32 line))))).2))] [5, 92] [(60000, [.o 40 b1, .o 41 b2, .i b3, .slc (.own true 7680) 2 ((eL b4) ++ [[.s (nth (Qm 32 line) 1), .h (((Xr (Q6 ⟨#[32]⟩ (List.drop 2 (Qm 32 line))))).1)]])])] [60000] (pG 6 1 hx43 (pa b4 [((nth (Qm 32 line) 1), ((Xr (Q6 ⟨#[32]⟩ (List.drop 2 (Qm 32 line))))).1)] p0)) ?_
  refine eqn [] [] [(60000, [.o 40 b1, .o 41 b2, .i b3, .o 7680 (b4 ++ [((nth (Qm 32 line) 1), ((Xr (Q6 ⟨#[32]⟩ (List.drop 2 (Qm 32 line))))).1)])])] [60000] (by rw [show ((eL b4) ++ [[.s (nth (Qm 32 line) 1), .h (((Xr (Q6 ⟨#[32]⟩ (List.drop 2 (Qm 32 line))))).1)]]) = (eL (b4 ++ [((nth (Qm 32 line) 1), ((Xr (Q6 ⟨#[32]⟩ (List.drop 2 (Qm 32 line))))).1)])) from Jo (rfl) (rfl)]; first | done | kernel_rfl) ?_
  refine sn Qa [0, 4] [60000] (p0) ?_
  refine Qe ?_
  have hE46 : Yx b1 b2 b3 b4 line = (((Xr (Q6 ⟨#[32]⟩ (List.drop 2 (Qm 32 line))))).2, b1, b2, b3, b4 ++ [((nth (Qm 32 line) 1), ((Xr (Q6 ⟨#[32]⟩ (List.drop 2 (Qm 32 line))))).1)]) := Qj h9 (Qj h29 (Qj h37 (Xh h42 (rfl))))
  exact WW [] (congrArg (fun z => (.b z.1 : AV)) hE46.symm) (congrArg (fun z => ([.o 40 z.2.1, .o 41 z.2.2.1, .i z.2.2.2.1, .o 43 z.2.2.2.2] : List C)) hE46.symm)
 refine Qf ?_
 refine sn Qa [0, 4] [60000] (p0) ?_
 refine Qe ?_
 have hE47 : Yx b1 b2 b3 b4 line = (false, b1, b2, b3, b4) := Qj h9 (Qj h29 (Qj h37 (Qj h42 (rfl))))
 exact WW [] (congrArg (fun z => (.b z.1 : AV)) hE47.symm) (congrArg (fun z => ([.o 40 z.2.1, .o 41 z.2.2.1, .i z.2.2.2.1, .o 43 z.2.2.2.2] : List C)) hE47.symm)
def Ze (line : ByteArray) (s0 : Int × (List Vc)) : Rd (Qp) (Int × (List Vc)) ((List Vc)) := (bif decide (s0.1 < ((((Qb line)).1).length : Int)) then (.next (IntKind.i64.wrap (s0.1 + 2), s0.2 ++ [((nth (((Qb line)).1) (Int.toNat s0.1)), (((Q8 (Qh (((Qb line)).1) (IntKind.i64.wrap (s0.1 + 1))))).1))])) else (.brk s0.2))
def Yj (x : Qp) (line : ByteArray) : Qp := (bif ((Qh (((Qb line)).1) 0).toList == (⟨#[102, 105, 101, 108, 100]⟩ : ByteArray).toList) then (bif ((Qh (((Qb line)).1) 2).toList == (⟨#[105, 110, 116]⟩ : ByteArray).toList) then ((x.1.1 ++ [(((Qh (((Qb line)).1) 1), 1) : X9)], x.1.2.1, x.1.2.2), x.2) else ((x.1.1 ++ [(((Qh (((Qb line)).1) 1), 2) : X9)], x.1.2.1, x.1.2.2), x.2)) else (bif ((Qh (((Qb line)).1) 0).toList == (⟨#[110, 101, 120, 116]⟩ : ByteArray).toList) then ((x.1.1, x.1.2.1, (X5 (((Qb line)).1) 1)), x.2) else (bif ((Qh (((Qb line)).1) 0).toList == (⟨#[102, 105, 108, 101]⟩ : ByteArray).toList) then (Out.on (YC (Ze line) (List.length (Qb line).1 + 1) (5, [])) (fun y0 => ((x.1.1, x.1.2.1 ++ [((X5 (((Qb line)).1) 1), (X5 (((Qb line)).1) 2), ((Qh (((Qb line)).1) 3).toList == (⟨#[115]⟩ : ByteArray).toList), (X5 (((Qb line)).1) 4), y0)], x.1.2.2), x.2))) else (bif ((Qh (((Qb line)).1) 0).toList == (⟨#[100, 105, 114]⟩ : ByteArray).toList) then (bif decide (((((Qb line)).1).length : Int) > (2 : Int)) then (x.1, x.2 ++ [((Qh (((Qb line)).1) 1), ((X7 (Jf (List.drop 2 (((Qb line)).1))))).1)]) else (x.1, x.2 ++ [(((Qh (((Qb line)).1) 1), []) : Z9)])) else x))))
theorem Qal (line : ByteArray) : (whl (Ze line) (List.length (Qb line).1 + 1) (5, [])).isSome = true :=
  DJ (fun s => s.1 / 2) (((Qb line).1.length : Int) / 2 + 1) (fun s s' h0 h => by
    have hw := (Cm line).1
    unfold Ze at h
    by_cases hc : s.1 < ((Qb line).1.length : Int)
    · rw [decide_eq_true hc, cond_true] at h
      have h := Rd.next.inj h
      rw [← h]
      have e : IntKind.i64.wrap (s.1 + 2) = s.1 + 2 := IntWalk.i64_in _ (by omega)
      simp only [e]
      omega
    rw [decide_eq_false hc, cond_false] at h; cases h) _ _ (by show (0 : Int) ≤ 5 / 2; decide) (by show _ ≤ (5 : Int) / 2 + _; omega)
theorem SA (line : ByteArray) : ∃ t, YC (Ze line) (List.length (Qb line).1 + 1) (5, []) = .brk t :=
 UU (fun s r h => by
  unfold Ze at h
  cases hc : decide (s.1 < ((Qb line).1.length : Int)) <;> rw [hc] at h <;> simp at h) _ _ _ (M8 (Qal line))
theorem FH (x : Qp) (line : ByteArray) : (Yj x line).1.1.length ≤ x.1.1.length + 1 ∧ (Yj x line).1.2.1.length ≤ x.1.2.1.length + 1 ∧ (Yj x line).2.length ≤ x.2.length + 1 := by
 obtain ⟨t, ht⟩ := SA line
 unfold Yj
 rw [ht]
 simp only [Bool.cond_eq_ite, Out.on]
 repeat' split
 all_goals (first | omega | (simp only [List.length_append, List.length_cons, List.length_nil]; omega))
theorem QH (x : Qp) (line : ByteArray) (h1 : List.length x.1.1 < 1073741824) (h2 : List.length x.1.2.1 < 1073741824) (h4 : List.length x.2 < 1073741824) : AVal Tryz.prog 66 [.a [.o 40 x.1.1, .o 41 x.1.2.1, .i x.1.2.2, .o 42 x.2], .s line] (.a [.o 0 ((Yj x line).1.1), .o 1 ((Yj x line).1.2.1), .i ((Yj x line).1.2.2), .o 2 ((Yj x line).2)]) := by
 refine DM (tt := tt) Qa Tryz.func66 (fn := Tryz.f66) rfl (by unfold Br; kernel_rfl) (Nat.le_of_ble_eq_true rfl) rfl fun w0 F0 hG => ?_
 refine sn Qa [1, 2, 4] [2, 4] (p0) ?_
 have hk1 := Cm line
 refine tn Qa [2, 4, 5] [2, 4] (pc 1 (Cj line) p0) ?_
 refine Qc ?_
 refine tu Qa [(2, .p 2 0), (4, .p 4 0), (5, .o 960 (((Qb line)).1)), (19, .s (Qh (((Qb line)).1) 0))] [0, 1] [(2, [.o 40 x.1.1, .o 41 x.1.2.1, .i x.1.2.2, .o 42 x.2]), (4, [.e 2, .e 5, .i 0, .e 2])] [] (pc 1 (Je (((Qb line)).1) 0 (by omega)) p0) ?_
 refine Qz ?_
 refine sn Qa [2, 4, 5, 19, 20] [2, 4] (p0) ?_
 refine ck ((Qh (((Qb line)).1) 0).toList == (⟨#[102, 105, 101, 108, 100]⟩ : ByteArray).toList) (fun h2 => ?_) (fun h2 => ?_)
 ·
  refine tn Qa [2, 4, 5, 7] [2, 4, 7] (pc 1 (Je (((Qb line)).1) 1 (by omega)) p0) ?_
  refine Qc ?_
  refine tu Qa [(7, .p 7 0), (27, .b ((Qh (((Qb line)).1) 2).toList == (⟨#[105, 110, 116]⟩ : ByteArray).toList))] [5, 19] [(7, [.s (Qh (((Qb line)).1) 1), .i 2])] [] (pc 1 (Je (((Qb line)).1) 2 (by omega)) p0) ?_
  refine ck ((Qh (((Qb line)).1) 2).toList == (⟨#[105, 110, 116]⟩ : ByteArray).toList) (fun h3 => ?_) (fun h3 => ?_)
  ·
   refine rn Qa [2, 4, 7] [2, 4, 7] (p0) ?_
   refine wB 2 0 (.own true 40) x.1.1 (fun hw4 hl5 => ?_)
   refine qu Qa [] [7, 27] [(2, [.slc (.own true 2176) 2 ((eL x.1.1) ++ [[.s (Qh (((Qb line)).1) 1), .i 1]]), .o 41 x.1.2.1, .i x.1.2.2, .o 42 x.2])] [2, 7] (pa x.1.1 [(((Qh (((Qb line)).1) 1), 1) : X9)] p0) ?_
   refine eqn [] [] [(2, [.o 2176 (x.1.1 ++ [(((Qh (((Qb line)).1) 1), 1) : X9)]), .o 41 x.1.2.1, .i x.1.2.2, .o 42 x.2])] [2] (by rw [show ((eL x.1.1) ++ [[.s (Qh (((Qb line)).1) 1), .i 1]]) = (eL (x.1.1 ++ [(((Qh (((Qb line)).1) 1), 1) : X9)])) from Jo (rfl) (rfl)]; first | done | kernel_rfl) ?_
   refine sn Qa [4] [4] (p0) ?_
   refine Qe ?_
   exact pz [] (show Yj x line = _ from Xh h2 (Xh h3 (rfl))) (fun z => .a [.o 0 z.1.1, .o 1 z.1.2.1, .i z.1.2.2, .o 2 z.2])
  refine Qf ?_
  refine wB 2 0 (.own true 40) x.1.1 (fun hw6 hl7 => ?_)
  refine ru Qa [] [7, 27] [(2, [.slc (.own true 2176) 2 ((eL x.1.1) ++ [[.s (Qh (((Qb line)).1) 1), .i 2]]), .o 41 x.1.2.1, .i x.1.2.2, .o 42 x.2])] [2, 7] (pa x.1.1 [(((Qh (((Qb line)).1) 1), 2) : X9)] p0) ?_
  refine eqn [] [] [(2, [.o 2176 (x.1.1 ++ [(((Qh (((Qb line)).1) 1), 2) : X9)]), .o 41 x.1.2.1, .i x.1.2.2, .o 42 x.2])] [2] (by rw [show ((eL x.1.1) ++ [[.s (Qh (((Qb line)).1) 1), .i 2]]) = (eL (x.1.1 ++ [(((Qh (((Qb line)).1) 1), 2) : X9)])) from Jo (rfl) (rfl)]; first | done | kernel_rfl) ?_
  refine sn Qa [4] [4] (p0) ?_
  refine Qe ?_
  exact pz [] (show Yj x line = _ from Xh h2 (Qj h3 (rfl))) (fun z => .a [.o 0 z.1.1, .o 1 z.1.2.1, .i z.1.2.2, .o 2 z.2])
 refine tn Qa [2, 4, 5, 19, 37] [2, 4] (p0) ?_
 refine ck ((Qh (((Qb line)).1) 0).toList == (⟨#[110, 101, 120, 116]⟩ : ByteArray).toList) (fun h8 => ?_) (fun h8 => ?_)
 ·
  refine qu Qa [] [5, 19] [(2, [.o 40 x.1.1, .o 41 x.1.2.1, .i (X5 (((Qb line)).1) 1), .o 42 x.2])] [2] (pc 1 (B0 (((Qb line)).1) 1 (by omega)) p0) ?_
  refine sn Qa [4] [4] (p0) ?_
  refine Qe ?_
  exact pz [] (show Yj x line = _ from Qj h2 (Xh h8 (rfl))) (fun z => .a [.o 0 z.1.1, .o 1 z.1.2.1, .i z.1.2.2, .o 2 z.2])
 refine tu Qa [(43, .b ((Qh (((Qb line)).1) 0).toList == (⟨#[102, 105, 108, 101]⟩ : ByteArray).toList))] [] [] [] (p0) ?_
 refine ck ((Qh (((Qb line)).1) 0).toList == (⟨#[102, 105, 108, 101]⟩ : ByteArray).toList) (fun h9 => ?_) (fun h9 => ?_)
 ·
  refine sn Qa [2, 4, 5, 8] [2, 4, 8] (pc 1 (B0 (((Qb line)).1) 1 (by omega)) (pc 3 (B0 (((Qb line)).1) 2 (by omega)) (pc 5 (Je (((Qb line)).1) 3 (by omega)) (pc 8 (B0 (((Qb line)).1) 4 (by omega)) p0)))) ?_
  refine Qc ?_
  refine tn Qa [2, 4, 5, 8, 9] [2, 4, 8] (p0) ?_
  refine mz [(8, .p 8 0), (9, .i 5)] [19, 43] [(8, [.i (X5 (((Qb line)).1) 1), .i (X5 (((Qb line)).1) 2), .b ((Qh (((Qb line)).1) 3).toList == (⟨#[115]⟩ : ByteArray).toList), .i (X5 (((Qb line)).1) 4), .e 4])] [] ?_
  refine blw (fun (s0 : Int × (List Vc)) => [(9, .i s0.1)]) [9] (fun s0 => [(8, [.i (X5 (((Qb line)).1) 1), .i (X5 (((Qb line)).1) 2), .b ((Qh (((Qb line)).1) 3).toList == (⟨#[115]⟩ : ByteArray).toList), .i (X5 (((Qb line)).1) 4), .o 147217 s0.2])]) [8] (fun (y0 : (List Vc)) => []) [5, 9] (fun y0 => [(8, [.i (X5 (((Qb line)).1) 1), .i (X5 (((Qb line)).1) 2), .b ((Qh (((Qb line)).1) 3).toList == (⟨#[115]⟩ : ByteArray).toList), .i (X5 (((Qb line)).1) 4), .o 147367 y0])]) [8] (fun (k0 : Nat) (s0 : Int × (List Vc)) => whl (Ze line) k0 s0 = some (YC (Ze line) (List.length (Qb line).1 + 1) (5, [])) ∧ 5 ≤ s0.1 ∧ s0.1 ≤ (List.length (Qb line).1 : Int) + 5 ∧ 2 * (List.length s0.2 : Int) + 5 = s0.1) (fun (y0 : (List Vc)) => (YC (Ze line) (List.length (Qb line).1 + 1) (5, [])) = .brk y0) (List.length (Qb line).1 + 1) (5, []) (Ov [(true, 8, 4, true, 320008, 4)] [] [] [(320008, 147217)] (by kernel_rfl)) ⟨M8 (Qal line), (by first | omega | rfl | (simp; omega) | (simp; done)), (by first | omega | rfl | (simp; omega) | (simp; done)), (by first | omega | rfl | (simp; omega) | (simp; done))⟩ (fun _ h => Ts h.1) (fun k0 s0 hI0 => ?_) (fun y0 hD0 => ?_)
  ·
   have hA0_0 := hI0.2.1
   have hA0_1 := hI0.2.2.1
   have hA0_2 := hI0.2.2.2
   have e1 : IntKind.i64.wrap (s0.1 + 1) = s0.1 + 1 := IntWalk.i64_in _ (by have := (Cm line).1; omega)
   have e2 : IntKind.i64.wrap (s0.1 + 2) = s0.1 + 2 := IntWalk.i64_in _ (by have := (Cm line).1; omega)
   refine Qc ?_
   refine sn Qa [2, 4, 5, 8, 9, 58] [2, 4, 8] (pl 2 (((Qb line)).1) p0) ?_
   refine ck (decide (s0.1 < ((((Qb line)).1).length : Int))) (fun h10 => ?_) (fun h10 => ?_)
   ·
    have h10d := of_decide_eq_true h10
    refine Qf ?_
    refine Qc ?_
    refine Qz ?_
    refine tn Qa [2, 4, 5, 8, 9, 10] [2, 4, 8, 10] (pc 3 (Je (((Qb line)).1) (IntKind.i64.wrap (s0.1 + 1)) (by omega)) (pc 4 (Dh (Qh (((Qb line)).1) (IntKind.i64.wrap (s0.1 + 1)))) p0)) ?_
    refine wT 5 0 (.own true 960) (((Qb line)).1) (fun hw12 hl13 => ?_)
    have hx11 := ng (((Qb line)).1) (Int.toNat s0.1)
    refine wB 8 4 (.own true 147217) s0.2 (fun hw14 hl15 => ?_)
    refine qU Qa Yz [] [] [(8, [.i (X5 (((Qb line)).1) 1), .i (X5 (((Qb line)).1) 2), .b ((Qh (((Qb line)).1) 3).toList == (⟨#[115]⟩ : ByteArray).toList), .i (X5 (((Qb line)).1) 4), .slc (.own true 4992) 4 ((eL s0.2) ++ [[.s (nth (((Qb line)).1) (Int.toNat s0.1)), .i ((((Q8 (Qh (((Qb line)).1) (IntKind.i64.wrap (s0.1 + 1))))).1).1), .i ((((Q8 (Qh (((Qb line)).1) (IntKind.i64.wrap (s0.1 + 1))))).1).2.1), .s ((((Q8 (Qh (((Qb line)).1) (IntKind.i64.wrap (s0.1 + 1))))).1).2.2)]])])] [8] (pG 4 s0.1 hx11 (pa s0.2 [((nth (((Qb line)).1) (Int.toNat s0.1)), (((Q8 (Qh (((Qb line)).1) (IntKind.i64.wrap (s0.1 + 1))))).1))] p0)) ?_
    refine eqn [] [] [(8, [.i (X5 (((Qb line)).1) 1), .i (X5 (((Qb line)).1) 2), .b ((Qh (((Qb line)).1) 3).toList == (⟨#[115]⟩ : ByteArray).toList), .i (X5 (((Qb line)).1) 4), .o 4992 (s0.2 ++ [((nth (((Qb line)).1) (Int.toNat s0.1)), (((Q8 (Qh (((Qb line)).1) (IntKind.i64.wrap (s0.1 + 1))))).1))])])] [8] (by rw [show ((eL s0.2) ++ [[.s (nth (((Qb line)).1) (Int.toNat s0.1)), .i ((((Q8 (Qh (((Qb line)).1) (IntKind.i64.wrap (s0.1 + 1))))).1).1), .i ((((Q8 (Qh (((Qb line)).1) (IntKind.i64.wrap (s0.1 + 1))))).1).2.1), .s ((((Q8 (Qh (((Qb line)).1) (IntKind.i64.wrap (s0.1 + 1))))).1).2.2)]]) = (eL (s0.2 ++ [((nth (((Qb line)).1) (Int.toNat s0.1)), (((Q8 (Qh (((Qb line)).1) (IntKind.i64.wrap (s0.1 + 1))))).1))])) from Jo (rfl) (rfl)]; first | done | kernel_rfl) ?_
    refine rn Qa [2, 4, 5, 8, 9] [2, 4, 8] (p0) ?_
    exact Exists.intro (IntKind.i64.wrap (s0.1 + 2), s0.2 ++ [((nth (((Qb line)).1) (Int.toNat s0.1)), (((Q8 (Qh (((Qb line)).1) (IntKind.i64.wrap (s0.1 + 1))))).1))]) (And.intro (Zg [(4992, 147217)] (by kernel_rfl)) ⟨wn hI0.1 (Xh h10 (rfl)), (by first | omega | (simp; omega)), (by first | omega | (simp; omega)), (by first | omega | (simp; omega))⟩)
   refine Xu ?_
   exact Exists.intro _ (And.intro (Zg [(147217, 147367)] (by kernel_rfl)) (wb hI0.1 (Qj h10 (rfl))))
  refine wB 2 1 (.own true 41) x.1.2.1 (fun hw16 hl17 => ?_)
  refine ru Qa [] [8] [(2, [.o 40 x.1.1, .slc (.own true 5440) 5 ((eL x.1.2.1) ++ [[.i (X5 (((Qb line)).1) 1), .i (X5 (((Qb line)).1) 2), .b ((Qh (((Qb line)).1) 3).toList == (⟨#[115]⟩ : ByteArray).toList), .i (X5 (((Qb line)).1) 4), .h y0]]), .i x.1.2.2, .o 42 x.2])] [2, 8] (pa x.1.2.1 [((X5 (((Qb line)).1) 1), (X5 (((Qb line)).1) 2), ((Qh (((Qb line)).1) 3).toList == (⟨#[115]⟩ : ByteArray).toList), (X5 (((Qb line)).1) 4), y0)] p0) ?_
  refine eqn [] [] [(2, [.o 40 x.1.1, .o 5440 (x.1.2.1 ++ [((X5 (((Qb line)).1) 1), (X5 (((Qb line)).1) 2), ((Qh (((Qb line)).1) 3).toList == (⟨#[115]⟩ : ByteArray).toList), (X5 (((Qb line)).1) 4), y0)]), .i x.1.2.2, .o 42 x.2])] [2] (by rw [show ((eL x.1.2.1) ++ [[.i (X5 (((Qb line)).1) 1), .i (X5 (((Qb line)).1) 2), .b ((Qh (((Qb line)).1) 3).toList == (⟨#[115]⟩ : ByteArray).toList), .i (X5 (((Qb line)).1) 4), .h y0]]) = (eL (x.1.2.1 ++ [((X5 (((Qb line)).1) 1), (X5 (((Qb line)).1) 2), ((Qh (((Qb line)).1) 3).toList == (⟨#[115]⟩ : ByteArray).toList), (X5 (((Qb line)).1) 4), y0)])) from Jo (rfl) (rfl)]; first | done | kernel_rfl) ?_
  refine sn Qa [4] [4] (p0) ?_
  refine Qe ?_
  exact pz [] (show Yj x line = _ from Qj h2 (Qj h8 (Xh h9 (V4 hD0 (rfl))))) (fun z => .a [.o 0 z.1.1, .o 1 z.1.2.1, .i z.1.2.2, .o 2 z.2])
 refine sn Qa [2, 4, 5, 88] [2, 4] (p0) ?_
 refine ck ((Qh (((Qb line)).1) 0).toList == (⟨#[100, 105, 114]⟩ : ByteArray).toList) (fun h18 => ?_) (fun h18 => ?_)
 ·
  refine tn Qa [2, 4, 5, 12] [2, 4, 12] (pc 1 (Je (((Qb line)).1) 1 (by omega)) p0) ?_
  refine Qc ?_
  refine tu Qa [(12, .p 12 0), (95, .b (decide (((((Qb line)).1).length : Int) > (2 : Int))))] [19, 43] [(12, [.s (Qh (((Qb line)).1) 1), .e 7])] [] (pl 1 (((Qb line)).1) p0) ?_
  refine ck (decide (((((Qb line)).1).length : Int) > (2 : Int))) (fun h19 => ?_) (fun h19 => ?_)
  ·
   have h19d := of_decide_eq_true h19
   refine wT 5 0 (.own true 960) (((Qb line)).1) (fun hw20 hl21 => ?_)
   refine rn Qa [2, 4, 12] [2, 4, 12] (pe 1 (Lc (.vw 960) 1 2 2 (((Qb line)).1) rfl) (px (Af (lo := 2) (hi := (((eL (((Qb line)).1)) : List (List PV)).length : Int)) (n := (List.length (eL (((Qb line)).1)))) (Ld (by omega) (by omega))) (pc 2 (Ii (List.drop 2 (((Qb line)).1)) (by first | exact (Cm _).1 | (simp only [List.length_drop]; have := (Cm line).1; omega)) (by first | exact (Cm _).2 | exact fun y hy => (Cm line).2 y (List.mem_of_mem_drop hy))) (pc 3 (Mu (Jf (List.drop 2 (((Qb line)).1)))) p0)))) ?_
   refine wB 2 3 (.own true 42) x.2 (fun hw22 hl23 => ?_)
   refine qu Qa [] [5, 12, 95] [(2, [.o 40 x.1.1, .o 41 x.1.2.1, .i x.1.2.2, .slc (.own true 6912) 2 ((eL x.2) ++ [[.s (Qh (((Qb line)).1) 1), .h (((X7 (Jf (List.drop 2 (((Qb line)).1))))).1)]])])] [2, 12] (pa x.2 [((Qh (((Qb line)).1) 1), ((X7 (Jf (List.drop 2 (((Qb line)).1))))).1)] p0) ?_
   refine eqn [] [] [(2, [.o 40 x.1.1, .o 41 x.1.2.1, .i x.1.2.2, .o 6912 (x.2 ++ [((Qh (((Qb line)).1) 1), ((X7 (Jf (List.drop 2 (((Qb line)).1))))).1)])])] [2] (by rw [show ((eL x.2) ++ [[.s (Qh (((Qb line)).1) 1), .h (((X7 (Jf (List.drop 2 (((Qb line)).1))))).1)]]) = (eL (x.2 ++ [((Qh (((Qb line)).1) 1), ((X7 (Jf (List.drop 2 (((Qb line)).1))))).1)])) from Jo (rfl) (rfl)]; first | done | kernel_rfl) ?_
   refine sn Qa [4] [4] (p0) ?_
   refine Qe ?_
   exact pz [] (show Yj x line = _ from Qj h2 (Qj h8 (Qj h9 (Xh h18 (Xh h19 (rfl)))))) (fun z => .a [.o 0 z.1.1, .o 1 z.1.2.1, .i z.1.2.2, .o 2 z.2])
  have h19d := of_decide_eq_false h19
  refine Qf ?_
  refine wB 2 3 (.own true 42) x.2 (fun hw24 hl25 => ?_)
  refine ru Qa [] [5, 12, 95] [(2, [.o 40 x.1.1, .o 41 x.1.2.1, .i x.1.2.2, .slc (.own true 6912) 2 ((eL x.2) ++ [[.s (Qh (((Qb line)).1) 1), .slc 7 []]])])] [2, 12] (pa x.2 [(((Qh (((Qb line)).1) 1), []) : Z9)] p0) ?_
  refine eqn [] [] [(2, [.o 40 x.1.1, .o 41 x.1.2.1, .i x.1.2.2, .o 6912 (x.2 ++ [(((Qh (((Qb line)).1) 1), []) : Z9)])])] [2] (by rw [show ((eL x.2) ++ [[.s (Qh (((Qb line)).1) 1), .slc 7 []]]) = (eL (x.2 ++ [(((Qh (((Qb line)).1) 1), []) : Z9)])) from Jo (rfl) (rfl)]; first | done | kernel_rfl) ?_
  refine sn Qa [4] [4] (p0) ?_
  refine Qe ?_
  exact pz [] (show Yj x line = _ from Qj h2 (Qj h8 (Qj h9 (Xh h18 (Qj h19 (rfl)))))) (fun z => .a [.o 0 z.1.1, .o 1 z.1.2.1, .i z.1.2.2, .o 2 z.2])
 refine Qf ?_
 refine tn Qa [4] [4] (p0) ?_
 refine Qe ?_
 exact pz [] (show Yj x line = _ from Qj h2 (Qj h8 (Qj h9 (Qj h18 (rfl))))) (fun z => .a [.o 0 z.1.1, .o 1 z.1.2.1, .i z.1.2.2, .o 2 z.2])
def Wy (s2_ : (List ByteArray)) (k0 : Nat) (a0 : ByteArray) (_ : Unit) : Rd (Bool) (Unit) (Unit) := (bif (!(a0.toList == (nth s2_ k0).toList)) then (.ret false) else (.next ()))
def Wz (_ : Nat) (_ : Unit) : Unit := ()
def J3 (s1_ : (List ByteArray)) (s2_ : (List ByteArray)) : Bool := (bif ((s1_.length : Int) != (s2_.length : Int)) then false else (Out.on (Yr (Wy s2_) Wz s1_ 0 ()) (fun _ => true)))
theorem E0 (s1_ : (List ByteArray)) (s2_ : (List ByteArray)) : ACalls Tryz.prog 110 [.h s1_, .h s2_] (.b (J3 s1_ s2_)) := by
 refine en Qa Tryz.func110 fun w0 F0 hG => ?_
 refine sn Qa [0, 1, 4] [] (p0) ?_
 refine Qc ?_
 refine tn Qa [0, 1, 4, 10] [] (pl 1 s1_ (pl 3 s2_ p0)) ?_
 refine ck ((s1_.length : Int) != (s2_.length : Int)) (fun h1 => ?_) (fun h1 => ?_)
 ·
  refine tu Qa [(4, .b false)] [] [] [] (p0) ?_
  refine Qe ?_
  exact pb [] (Xh h1 (rfl))
 have h1d := Hb h1
 refine Qf ?_
 refine Qc ?_
 refine tu Qa [(4, .b false), (12, .i (s1_.length : Int)), (13, .i 0)] [] [] [] (pl 1 s1_ p0) ?_
 refine wT 0 0 .sh s1_ (fun hw2 hl3 => ?_)
 refine Rb (Wy s2_) Wz s1_ () (fun k0 _ => [(13, .i ((k0 : Nat) : Int))]) [13] (fun _ => []) [0, 1, 12, 13] wf0 (fun k0 s0 hk0 hI0 => ?_) (fun k0 s0 hk0 hI0 => ?_) (fun y0 hD0 => ?_)
 ·
  obtain ⟨a0, hx0⟩ := Yp (l := s1_) (i := k0) hk0
  refine su Qa [(14, .b true)] [] [] [] (pe 0 (Q1 (decide_eq_true (p := ((k0 : Nat) : Int) < (s1_.length : Int)) (by omega))) p0) ?_
  refine Qc ?_
  refine ckT ?_
  refine Qf ?_
  refine Qc ?_
  refine Qz ?_
  refine sn Qa [0, 1, 4, 5, 12, 13] [] (p0) ?_
  refine wT 1 0 .sh s2_ (fun hw5 hl6 => ?_)
  have hx4 := ng s2_ k0
  refine tN Qa Yz [0, 1, 4, 12, 13, 24] [] (pn 2 hx0 (pn 6 hx4 p0)) ?_
  refine ck (!(a0.toList == (nth s2_ k0).toList)) (fun h7 => ?_) (fun h7 => ?_)
  ·
   refine tu Qa [] [14] [] [] (p0) ?_
   refine Qe ?_
   have hr8 : (Yr (Wy s2_) Wz s1_ 0 ()) = .ret false := Kb hx0 (Xh h7 (rfl)) hI0
   exact pb [] (Qj h1 (Mo hr8))
  refine Qf ?_
  refine qu Qa [(13, .i ((k0 + 1 : Nat) : Int))] [13, 14] [] [] (pe 0 (Jq (Q4 k0 (by omega))) p0) ?_
  exact xw _ (Xp hx0 (Qj h7 (rfl)) hI0)
 ·
  refine sn Qa [0, 1, 4, 12, 13, 14] [] (pe 0 (Q1 (decide_eq_false (p := ((k0 : Nat) : Int) < (s1_.length : Int)) (by omega))) p0) ?_
  refine Qc ?_
  refine ckF ?_
  refine Xu ?_
  exact xw _ (Yq hk0 (rfl) hI0)
 refine sn Qa [4] [] (p0) ?_
 refine Qe ?_
 exact pb [] (Qj h1 (V4 hD0 (rfl)))
def Jx (_ : Nat) (a0 : ByteArray) (s0 : Qp) : Rd (Qp × Bool) (Qp) (Qp) := (lt (Yx s0.1.1 s0.1.2.1 s0.1.2.2 s0.2 a0) (fun x3 => (bif (!x3.1) then (.ret ((([], [], 0), []), false)) else (.next ((x3.2.1, x3.2.2.1, x3.2.2.2.1), x3.2.2.2.2)))))
def K7 (_ : Nat) (s0 : Qp) : Qp := s0
def Q5 (lines : (List ByteArray)) : Qp × Bool := (Out.on (Yr Jx K7 lines 0 (([], [], 0), [])) (fun y0 => (bif ((!(Qi y0)) || (!(J3 (Qx y0) lines))) then ((([], [], 0), []), false) else (y0, true))))
theorem E3 (lines : (List ByteArray)) (hl : ∀ y, y ∈ lines → ByteArray.size y ≤ 1073741000) : ACalls Tryz.prog 79 [.h lines] (.tup [(true, [.o 0 ((((Q5 lines)).1).1.1), .o 1 ((((Q5 lines)).1).1.2.1), .i ((((Q5 lines)).1).1.2.2), .o 2 ((((Q5 lines)).1).2)]), (false, [.b (((Q5 lines)).2)])]) := by
 refine en Qa Tryz.func79 fun w0 F0 hG => ?_
 refine sn Qa [0, 2, 3] [2] (p0) ?_
 refine tn Qa [0, 2, 3, 4] [2, 4] (p0) ?_
 refine Qc ?_
 refine tu Qa [(2, .p 2 0), (3, .b false), (4, .p 4 0), (8, .h lines), (9, .i (lines.length : Int)), (10, .i 0)] [] [(2, [.e 2, .e 5, .i 0, .e 2]), (4, [.e 2, .e 5, .i 0, .e 2])] [] (pl 1 lines p0) ?_
 refine wT 0 0 .sh lines (fun hw1 hl2 => ?_)
 refine LB Jx K7 lines (([], [], 0), []) (fun k0 _ => [(10, .i ((k0 : Nat) : Int))]) [10] (fun _ s0 => [(4, [.o 147211 s0.1.1, .o 147212 s0.1.2.1, .i s0.1.2.2, .o 147214 s0.2])]) [4] (fun _ => []) [8, 9, 10] (fun y0 => [(4, [.o 147361 y0.1.1, .o 147362 y0.1.2.1, .i y0.1.2.2, .o 147364 y0.2])]) [4] (fun k0 s0 => List.length s0.1.1 ≤ k0 ∧ List.length s0.1.2.1 ≤ k0 ∧ List.length s0.2 ≤ k0) (Ov [(true, 4, 0, true, 320008, 2), (true, 4, 1, true, 320009, 5), (true, 4, 3, true, 320010, 2)] [] [] [(320008, 147211), (320009, 147212), (320010, 147214)] (by kernel_rfl)) ⟨(by exact Nat.zero_le _), (by exact Nat.zero_le _), (by exact Nat.zero_le _)⟩ (fun k0 s0 hk0 hI0 => ?_) (fun k0 s0 hk0 hI0 => ?_) (fun y0 hD0 => ?_)
 ·
  have hA0_0 := hI0.2.1
  have hA0_1 := hI0.2.2.1
  have hA0_2 := hI0.2.2.2
  obtain ⟨a0, hx0⟩ := Yp (l := lines) (i := k0) hk0
  refine su Qa [(11, .b true)] [] [] [] (pe 0 (Q1 (decide_eq_true (p := ((k0 : Nat) : Int) < (lines.length : Int)) (by omega))) p0) ?_
  refine Qc ?_
  refine ckT ?_
  refine Qf ?_
  refine Qc ?_
  refine Qz ?_
  refine su Qa [(6, .s a0)] [11] [] [] (pn 0 hx0 p0) ?_
  obtain ⟨x3, hx3⟩ := nm (Yx s0.1.1 s0.1.2.1 s0.1.2.2 s0.2 a0)
  have hqx3 := FG s0.1.1 s0.1.2.1 s0.1.2.2 s0.2 a0
  rw [hx3] at hqx3
  refine sn Qa [0, 2, 3, 4, 8, 9, 10, 16] [2, 4] (po 1 (.give none (.b x3.1) [.o 40 x3.2.1, .o 41 x3.2.2.1, .i x3.2.2.2.1, .o 43 x3.2.2.2.2]) (px (Bb (hx3 ▸ AQ s0.1.1 s0.1.2.1 s0.1.2.2 s0.2 a0 (hl _ (List.mem_of_getElem? hx0)) (by omega) (by omega) (by omega))) p0)) ?_
  refine ck (!x3.1) (fun h4 => ?_) (fun h4 => ?_)
  ·
   refine tn Qa [0, 2, 3, 4, 8, 9, 10] [2, 4] (p0) ?_
   refine opn [(true, 2, 0, true, 384000, 2), (true, 2, 1, true, 384001, 5), (true, 2, 3, true, 384002, 2)] ?_
   refine Qe ?_
   have hr5 : (Yr Jx K7 lines 0 (([], [], 0), [])) = .ret ((([], [], 0), []), false) := Kb hx0 (by exact D4 hx3 (Xh h4 (rfl))) hI0.1
   exact pz [] (show Q5 lines = _ from Mo hr5) (fun z => .tup [(true, [.o 0 z.1.1.1, .o 1 z.1.1.2.1, .i z.1.1.2.2, .o 2 z.1.2]), (false, [.b z.2])])
  refine Qf ?_
  refine qn Qa [0, 2, 3, 4, 8, 9, 10] [2, 4] (pe 0 (Jq (Q4 k0 (by omega))) p0) ?_
  exact Exists.intro ((x3.2.1, x3.2.2.1, x3.2.2.2.1), x3.2.2.2.2) (And.intro (Zg [(1000, 147211), (1001, 147212), (1003, 147214)] (by kernel_rfl)) ⟨Xp hx0 (D4 hx3 (Qj h4 (rfl))) hI0.1, (by first | omega | (dsimp only; omega)), (by first | omega | (dsimp only; omega)), (by first | omega | (dsimp only; omega))⟩)
 ·
  have hA0_0 := hI0.2.1
  have hA0_1 := hI0.2.2.1
  have hA0_2 := hI0.2.2.2
  refine su Qa [(11, .b false)] [] [] [] (pe 0 (Q1 (decide_eq_false (p := ((k0 : Nat) : Int) < (lines.length : Int)) (by omega))) p0) ?_
  refine Qc ?_
  refine ckF ?_
  refine Xu ?_
  exact Exists.intro _ (And.intro (Zg [(147211, 147361), (147212, 147362), (147214, 147364)] (by kernel_rfl)) (Yq hk0 (rfl) hI0.1))
 refine Qc ?_
 refine Qc ?_
 refine jn [(28, .b ((!(Qi y0)) || (!(J3 (Qx y0) lines))))] [0] [] [] (!(Qi y0)) (fun h6 => ?_) (fun h6 => ?_) ?_
 ·
  have h6n : (Qi y0) = false := Vp h6
  refine rn Qa [2, 3, 4, 28] [2, 4] (pc 1 (cb h6n (Ju y0)) (pe 2 (show .b (!false) = .b true from rfl) p0)) ?_
  exact ⟨rfl, Qd (by rw [h6] <;> kernel_rfl)⟩
 ·
  have h6n : (Qi y0) = true := Z4 h6
  refine rn Qa [2, 3, 4, 28] [2, 4] (pc 1 (cb h6n (Ju y0)) (pe 2 (show .b (!true) = .b false from rfl) (pc 5 (Aq y0) (pc 7 (E0 (Qx y0) lines) p0)))) ?_
  exact ⟨rfl, Qd (by rw [h6] <;> kernel_rfl)⟩
 refine ck ((!(Qi y0)) || (!(J3 (Qx y0) lines))) (fun h7 => ?_) (fun h7 => ?_)
 ·
  refine su Qa [] [28] [] [] (p0) ?_
  refine opn [(true, 2, 0, true, 384000, 2), (true, 2, 1, true, 384001, 5), (true, 2, 3, true, 384002, 2)] ?_
  refine Qe ?_
  exact pz [] (show Q5 lines = _ from V4 hD0 (Xh h7 (rfl))) (fun z => .tup [(true, [.o 0 z.1.1.1, .o 1 z.1.1.2.1, .i z.1.1.2.2, .o 2 z.1.2]), (false, [.b z.2])])
 refine Qf ?_
 refine sn Qa [2, 3] [2] (p0) ?_
 refine Qe ?_
 exact pz [] (show Q5 lines = _ from V4 hD0 (Qj h7 (rfl))) (fun z => .tup [(true, [.o 0 z.1.1.1, .o 1 z.1.1.2.1, .i z.1.1.2.2, .o 2 z.1.2]), (false, [.b z.2])])
def K8 (_ : Nat) (a0 : ByteArray) (s0 : Qp) : Rd (Qp × Bool) (Qp) (Qp) := (lt (Yj s0 a0) (fun x3 => (.next x3)))
def W0 (_ : Nat) (s0 : Qp) : Qp := s0
def Xa (lines : (List ByteArray)) : Qp × Bool := (Out.on (Yr K8 W0 lines 0 (([], [], 0), [])) (fun y0 => (bif ((!(Q3 y0)) || (!(U1 (Xz y0) lines))) then ((([], [], 0), []), false) else (y0, true))))
theorem E4 (lines : (List ByteArray)) (hl : ∀ y, y ∈ lines → ByteArray.size y ≤ 1073741000) : ACalls Tryz.prog 45 [.h lines] (.tup [(true, [.o 0 ((((Xa lines)).1).1.1), .o 1 ((((Xa lines)).1).1.2.1), .i ((((Xa lines)).1).1.2.2), .o 2 ((((Xa lines)).1).2)]), (false, [.b (((Xa lines)).2)])]) := by
 refine en Qa Tryz.func45 fun w0 F0 hG => ?_
 refine sn Qa [0, 2, 3] [2] (p0) ?_
 refine tn Qa [0, 2, 3, 4] [2, 4] (p0) ?_
 refine Qc ?_
 refine tu Qa [(2, .p 2 0), (3, .b false), (4, .p 4 0), (5, .i 0)] [] [(2, [.e 2, .e 5, .i 0, .e 2]), (4, [.e 2, .e 5, .i 0, .e 2])] [] (p0) ?_
 refine wT 0 0 .sh lines (fun hw1 hl2 => ?_)
 refine LB K8 W0 lines (([], [], 0), []) (fun k0 _ => [(5, .i ((k0 : Nat) : Int))]) [5] (fun _ s0 => [(2, [.slc (.own true 147205) 2 [], .e 5, .i 0, .e 2]), (4, [.o 147209 s0.1.1, .o 147210 s0.1.2.1, .i s0.1.2.2, .o 147212 s0.2])]) [2, 4] (fun _ => []) [5] (fun y0 => [(2, [.slc (.own true 147355) 2 [], .e 5, .i 0, .e 2]), (4, [.o 147359 y0.1.1, .o 147360 y0.1.2.1, .i y0.1.2.2, .o 147362 y0.2])]) [2, 4] (fun k0 s0 => List.length s0.1.1 ≤ k0 ∧ List.length s0.1.2.1 ≤ k0 ∧ List.length s0.2 ≤ k0) (Ov [(true, 2, 0, true, 320008, 2), (true, 4, 0, true, 320009, 2), (true, 4, 1, true, 320010, 5), (true, 4, 3, true, 320011, 2)] [] [] [(320008, 147205), (320009, 147209), (320010, 147210), (320011, 147212)] (by kernel_rfl)) ⟨(by exact Nat.zero_le _), (by exact Nat.zero_le _), (by exact Nat.zero_le _)⟩ (fun k0 s0 hk0 hI0 => ?_) (fun k0 s0 hk0 hI0 => ?_) (fun y0 hD0 => ?_)
 ·
  have hA0_0 := hI0.2.1
  have hA0_1 := hI0.2.2.1
  have hA0_2 := hI0.2.2.2
  obtain ⟨a0, hx0⟩ := Yp (l := lines) (i := k0) hk0
  refine Qc ?_
  refine su Qa [(10, .b true)] [] [] [] (pl 2 lines (pe 3 (Q1 (decide_eq_true (p := ((k0 : Nat) : Int) < (lines.length : Int)) (by omega))) p0)) ?_
  refine ckT ?_
  refine Qf ?_
  refine Qc ?_
  refine Qz ?_
  obtain ⟨x3, hx3⟩ := nm ((Yj s0 a0))
  have hqx3 := FH s0 a0
  rw [hx3] at hqx3
  refine rN Qa Yz [0, 2, 3, 4, 5] [2, 4] (pn 3 hx0 (po 5 (.giv [147209, 147210, 147212] (.a [.o 0 x3.1.1, .o 1 x3.1.2.1, .i x3.1.2.2, .o 2 x3.2])) (px (WN (hx3 ▸ QH s0 a0 (by omega) (by omega) (by omega))) p0))) ?_
  refine qn Qa [0, 2, 3, 4, 5] [2, 4] (pe 1 (Jq (Q4 k0 (by omega))) p0) ?_
  exact Exists.intro x3 (And.intro (Zg [(1152, 147209), (1153, 147210), (1154, 147212)] (by kernel_rfl)) ⟨Xp hx0 (D4 hx3 (rfl)) hI0.1, (by first | omega | (dsimp only; omega)), (by first | omega | (dsimp only; omega)), (by first | omega | (dsimp only; omega))⟩)
 ·
  have hA0_0 := hI0.2.1
  have hA0_1 := hI0.2.2.1
  have hA0_2 := hI0.2.2.2
  refine Qc ?_
  refine su Qa [(10, .b false)] [] [] [] (pl 2 lines (pe 3 (Q1 (decide_eq_false (p := ((k0 : Nat) : Int) < (lines.length : Int)) (by omega))) p0)) ?_
  refine ckF ?_
  refine Xu ?_
  exact Exists.intro _ (And.intro (Zg [(147205, 147355), (147209, 147359), (147210, 147360), (147212, 147362)] (by kernel_rfl)) (Yq hk0 (rfl) hI0.1))
 refine Qc ?_
 refine Qc ?_
 refine jn [(28, .b ((!(Q3 y0)) || (!(U1 (Xz y0) lines))))] [0] [] [] (!(Q3 y0)) (fun h4 => ?_) (fun h4 => ?_) ?_
 ·
  have h4n : (Q3 y0) = false := Vp h4
  refine rn Qa [2, 3, 4, 28] [2, 4] (pc 1 (cb h4n (Jv y0)) (pe 2 (show .b (!false) = .b true from rfl) p0)) ?_
  exact ⟨rfl, Qd (by rw [h4] <;> kernel_rfl)⟩
 ·
  have h4n : (Q3 y0) = true := Z4 h4
  refine rn Qa [2, 3, 4, 28] [2, 4] (pc 1 (cb h4n (Jv y0)) (pe 2 (show .b (!true) = .b false from rfl) (pc 5 (Ar y0) (pc 7 (Rk (Xz y0) lines) p0)))) ?_
  exact ⟨rfl, Qd (by rw [h4] <;> kernel_rfl)⟩
 refine ck ((!(Q3 y0)) || (!(U1 (Xz y0) lines))) (fun h5 => ?_) (fun h5 => ?_)
 ·
  refine sn Qa [2, 3, 4] [2, 4] (p0) ?_
  refine opn [(true, 2, 0, true, 384000, 2), (true, 2, 1, true, 384001, 5), (true, 2, 3, true, 384002, 2)] ?_
  refine Qe ?_
  exact pz [] (show Xa lines = _ from V4 hD0 (Xh h5 (rfl))) (fun z => .tup [(true, [.o 0 z.1.1.1, .o 1 z.1.1.2.1, .i z.1.1.2.2, .o 2 z.1.2]), (false, [.b z.2])])
 refine Qf ?_
 refine sn Qa [2, 3] [2] (p0) ?_
 refine Qe ?_
 exact pz [] (show Xa lines = _ from V4 hD0 (Qj h5 (rfl))) (fun z => .tup [(true, [.o 0 z.1.1.1, .o 1 z.1.1.2.1, .i z.1.1.2.2, .o 2 z.1.2]), (false, [.b z.2])])
theorem QI (s : ByteArray) : ∀ (rest : List UInt8) (k b : Nat) (o : List ByteArray) (cur : List UInt8), s.data.toList.drop k = rest → b ≤ k → k ≤ s.size → cur = (s.data.toList.drop b).take (k - b) → 10 ∉ cur →
    Jg (Hn s) A3 rest.length k (o, (b : Int)) = .brk (o ++ ((Pk 10 (cur ++ rest)).map Wk).dropLast)
  | [], k, b, o, cur, _, _, _, _, hc => by
    rw [List.append_nil, VJ hc]
    simp [Jg, A3]
  | c :: rest, k, b, o, cur, hr, hb, hk, hcur, hc => by
    obtain ⟨hx, hd, hlt⟩ := Bp hr
    rw [Uw] at hlt
    have hl : cur.length = k - b := by rw [hcur, List.length_take, List.length_drop, Uw]; omega
    rw [List.length_cons]
    have hf : Hn s k (o, (b : Int)) = (bif ((c.toNat : Int) == (10 : Int)) then (.next (o ++ [Wk cur], ((k + 1 : Nat) : Int))) else (.next (o, (b : Int)))) := by
      unfold Hn
      rw [Cl hx]
      simp only [Int.toNat_natCast]
      rw [Eg, ← hcur]
    by_cases h10 : c = 10
    · subst h10
      rw [show (((10 : UInt8).toNat : Int) == (10 : Int)) = true from rfl, cond_true] at hf
      rw [C6 hf, QI s rest (k + 1) (k + 1) _ [] hd (Nat.le_refl _) (by omega) (by rw [Nat.sub_self]; rfl) (by simp), QD rest hc, List.append_assoc, List.nil_append]
      obtain ⟨q, qs, hq⟩ := Pm 10 rest
      rw [hq]
      rfl
    have h1 : ((c.toNat : Int) == (10 : Int)) = false := by
      cases hz : ((c.toNat : Int) == (10 : Int)) with
      | false => rfl
      | true => exact absurd (UInt8.toNat_inj.1 (show c.toNat = (10 : UInt8).toNat by have := eq_of_beq hz; have e : (10 : UInt8).toNat = 10 := rfl; omega)) h10
    rw [h1, cond_false] at hf
    rw [C6 hf, QI s rest (k + 1) b o (cur ++ [c]) hd (by omega) (by omega) ?_ ?_, List.append_assoc, List.singleton_append]
    · have : (s.data.toList.drop b)[k - b]? = some c := by rw [List.getElem?_drop, show b + (k - b) = k by omega]; exact hx
      rw [show k + 1 - b = (k - b) + 1 by omega, List.take_add_one, this, ← hcur]
      rfl
    exact fun hm => (List.mem_append.1 hm).elim hc fun h => h10 (List.mem_singleton.1 h).symm
theorem UV (s : ByteArray) : X3 s = (Qm 10 s).dropLast := by
  unfold X3
  have h := QI s s.data.toList 0 0 [] [] rfl (Nat.le_refl _) (Nat.zero_le _) rfl (by simp)
  rw [Uw] at h
  rw [show Int.toNat (ByteArray.size s : Int) = s.size by omega, show (([] : List ByteArray), (0 : Int)) = ([], ((0 : Nat) : Int)) from rfl, h]
  rfl
theorem MA {s : ByteArray} {n : Nat} (h : s.size ≤ n) : ∀ y, y ∈ X3 s → y.size ≤ n := fun y hy => by
  rw [UV] at hy
  have := (Ex 10 s).2 y ((List.dropLast_sublist _).subset hy)
  omega
open GoE (enc wide)
def Qr (s_ : ByteArray) : Int × Qp × Bool := (bif decide (((Qm 10 s_).length : Int) < (2 : Int)) then (0, (([], [], 0), []), false) else (bif ((!((Qg (nth (Qm 10 s_) 0)).2)) || ((!(((Q5 (List.drop 1 (List.take (Int.toNat (((Qm 10 s_).length : Int) - 1)) (Qm 10 s_))))).2)) || (!((Zv ((Qg (nth (Qm 10 s_) 0)).1) (((Q5 (List.drop 1 (List.take (Int.toNat (((Qm 10 s_).length : Int) - 1)) (Qm 10 s_))))).1)).toList == s_.toList)))) then (0, (([], [], 0), []), false) else ((Qg (nth (Qm 10 s_) 0)).1, (((Q5 (List.drop 1 (List.take (Int.toNat (((Qm 10 s_).length : Int) - 1)) (Qm 10 s_))))).1), true)))
theorem Dk (s_ : ByteArray) (hs : ByteArray.size s_ ≤ 1073741000) : ACalls Tryz.prog 55 [.s s_] (.tup [(false, [.i (((Qr s_)).1)]), (true, [.o 0 ((((Qr s_)).2.1).1.1), .o 1 ((((Qr s_)).2.1).1.2.1), .i ((((Qr s_)).2.1).1.2.2), .o 2 ((((Qr s_)).2.1).2)]), (false, [.b (((Qr s_)).2.2)])]) := by
 refine en Qa Tryz.func55 fun w0 F0 hG => ?_
 have hsc := Lu 10 s_
 refine sn Qa [0, 2, 3, 4] [3] (p0) ?_
 refine stT 0 0 s_ (fun hs1 => ?_)
 refine tn Qa [0, 2, 3, 4, 5] [3] (pc 1 (Fg s_ 10 (by omega)) p0) ?_
 refine Qc ?_
 refine tu Qa [(2, .i 0), (3, .p 3 0), (4, .b false), (5, .o 704 (Qm 10 s_)), (14, .b (decide (((Qm 10 s_).length : Int) < (2 : Int))))] [] [(3, [.e 2, .e 5, .i 0, .e 2])] [] (pl 1 (Qm 10 s_) p0) ?_
 refine ck (decide (((Qm 10 s_).length : Int) < (2 : Int))) (fun h2 => ?_) (fun h2 => ?_)
 ·
  refine su Qa [] [14] [] [] (p0) ?_
  refine opn [(true, 3, 0, true, 384000, 2), (true, 3, 1, true, 384001, 5), (true, 3, 3, true, 384002, 2)] ?_
  refine Qe ?_
  exact pz [] (show Qr s_ = _ from Xh h2 (rfl)) (fun z => .tup [(false, [.i z.1]), (true, [.o 0 z.2.1.1.1, .o 1 z.2.1.1.2.1, .i z.2.1.1.2.2, .o 2 z.2.1.2]), (false, [.b z.2.2])])
 have h2d := of_decide_eq_false h2
 refine Qf ?_
 refine wT 5 0 (.own true 704) (Qm 10 s_) (fun hw4 hl5 => ?_)
 have hx3 := ng (Qm 10 s_) 0
 refine sn Qa [0, 2, 3, 4, 5, 6, 7] [3] (pG 1 0 hx3 (pc 3 (Vm (nth (Qm 10 s_) 0)) p0)) ?_
 refine tn Qa [0, 2, 3, 4, 6, 7, 8, 9] [3, 8] (pl 2 (Qm 10 s_) (pe 3 (Jq (IntWalk.i64_in (((Qm 10 s_).length : Int) - 1) (by omega))) (pe 4 (TU (.vw 704) 1 1 (Int.toNat (((Qm 10 s_).length : Int) - 1)) 1 (((Qm 10 s_).length : Int) - 1) (Qm 10 s_) rfl rfl) (px (Af (lo := 1) (hi := (((Qm 10 s_).length : Int) - 1)) (n := (List.length (eL (Qm 10 s_)))) (NO (by omega) (by omega) (by omega))) (pc 5 (E3 (List.drop 1 (List.take (Int.toNat (((Qm 10 s_).length : Int) - 1)) (Qm 10 s_))) (fun y hy => Nat.le_trans ((Ex 10 s_).2 y (List.mem_of_mem_take (List.mem_of_mem_drop hy))) hs)) p0))))) ?_
 refine Qc ?_
 refine Qc ?_
 refine mz [(6, .i ((Qg (nth (Qm 10 s_) 0)).1)), (7, .b ((Qg (nth (Qm 10 s_) 0)).2)), (8, .p 8 0), (9, .b (((Q5 (List.drop 1 (List.take (Int.toNat (((Qm 10 s_).length : Int) - 1)) (Qm 10 s_))))).2))] [5, 14] [(8, [.o 1856 ((((Q5 (List.drop 1 (List.take (Int.toNat (((Qm 10 s_).length : Int) - 1)) (Qm 10 s_))))).1).1.1), .o 1857 ((((Q5 (List.drop 1 (List.take (Int.toNat (((Qm 10 s_).length : Int) - 1)) (Qm 10 s_))))).1).1.2.1), .i ((((Q5 (List.drop 1 (List.take (Int.toNat (((Qm 10 s_).length : Int) - 1)) (Qm 10 s_))))).1).1.2.2), .o 1858 ((((Q5 (List.drop 1 (List.take (Int.toNat (((Qm 10 s_).length : Int) - 1)) (Qm 10 s_))))).1).2)])] [] ?_
 refine jn [(44, .b ((!((Qg (nth (Qm 10 s_) 0)).2)) || ((!(((Q5 (List.drop 1 (List.take (Int.toNat (((Qm 10 s_).length : Int) - 1)) (Qm 10 s_))))).2)) || (!((Zv ((Qg (nth (Qm 10 s_) 0)).1) (((Q5 (List.drop 1 (List.take (Int.toNat (((Qm 10 s_).length : Int) - 1)) (Qm 10 s_))))).1)).toList == s_.toList)))))] [0, 7, 9] [] [] (!((Qg (nth (Qm 10 s_) 0)).2)) (fun h6 => ?_) (fun h6 => ?_) ?_
 ·
  have h6n : ((Qg (nth (Qm 10 s_) 0)).2) = false := Vp h6
  refine rn Qa [2, 3, 4, 6, 8, 44] [3, 8] (pf 0 h6n (pe 1 (show .b (!false) = .b true from rfl) p0)) ?_
  exact ⟨rfl, Qd (by rw [h6] <;> kernel_rfl)⟩
 ·
  have h6n : ((Qg (nth (Qm 10 s_) 0)).2) = true := Z4 h6
  refine Xo (!(((Q5 (List.drop 1 (List.take (Int.toNat (((Qm 10 s_).length : Int) - 1)) (Qm 10 s_))))).2)) (fun h7 => ?_) (fun h7 => ?_)
  ·
   have h7n : (((Q5 (List.drop 1 (List.take (Int.toNat (((Qm 10 s_).length : Int) - 1)) (Qm 10 s_))))).2) = false := Vp h7
   refine rn Qa [2, 3, 4, 6, 8, 44] [3, 8] (pt 0 h6n (pe 1 (show .b (!true) = .b false from rfl) (pf 3 h7n (pe 4 (show .b (!false) = .b true from rfl) p0)))) ?_
   exact ⟨rfl, Qd (by rw [h6, h7] <;> kernel_rfl)⟩
  have h7n : (((Q5 (List.drop 1 (List.take (Int.toNat (((Qm 10 s_).length : Int) - 1)) (Qm 10 s_))))).2) = true := Z4 h7
  refine rn Qa [2, 3, 4, 6, 8, 44] [3, 8] (pt 0 h6n (pe 1 (show .b (!true) = .b false from rfl) (pt 3 h7n (pe 4 (show .b (!true) = .b false from rfl) (pc 9 (Di ((Qg (nth (Qm 10 s_) 0)).1) (((Q5 (List.drop 1 (List.take (Int.toNat (((Qm 10 s_).length : Int) - 1)) (Qm 10 s_))))).1)) p0))))) ?_
  exact ⟨rfl, Qd (by rw [h6, h7] <;> kernel_rfl)⟩
 refine ck ((!((Qg (nth (Qm 10 s_) 0)).2)) || ((!(((Q5 (List.drop 1 (List.take (Int.toNat (((Qm 10 s_).length : Int) - 1)) (Qm 10 s_))))).2)) || (!((Zv ((Qg (nth (Qm 10 s_) 0)).1) (((Q5 (List.drop 1 (List.take (Int.toNat (((Qm 10 s_).length : Int) - 1)) (Qm 10 s_))))).1)).toList == s_.toList)))) (fun h8 => ?_) (fun h8 => ?_)
 ·
  refine su Qa [] [44] [] [] (p0) ?_
  refine opn [(true, 3, 0, true, 384000, 2), (true, 3, 1, true, 384001, 5), (true, 3, 3, true, 384002, 2)] ?_
  refine Qe ?_
  exact pz [] (show Qr s_ = _ from Qj h2 (Xh h8 (rfl))) (fun z => .tup [(false, [.i z.1]), (true, [.o 0 z.2.1.1.1, .o 1 z.2.1.1.2.1, .i z.2.1.1.2.2, .o 2 z.2.1.2]), (false, [.b z.2.2])])
 refine Qf ?_
 refine sN Qa Yz [2, 3, 4] [3] (p0) ?_
 refine Qe ?_
 exact pz [] (show Qr s_ = _ from Qj h2 (Qj h8 (rfl))) (fun z => .tup [(false, [.i z.1]), (true, [.o 0 z.2.1.1.1, .o 1 z.2.1.1.2.1, .i z.2.1.1.2.2, .o 2 z.2.1.2]), (false, [.b z.2.2])])
def Qu (s_ : ByteArray) : Int × Qp × Bool := (bif (((X3 s_).length : Int) == (0 : Int)) then (0, (([], [], 0), []), false) else (bif ((!(((Xa (List.drop 1 (X3 s_)))).2)) || (!((Xw (((Q2 (nth (X3 s_) 0))).1) (((Xa (List.drop 1 (X3 s_)))).1)).toList == s_.toList))) then (0, (([], [], 0), []), false) else (((Q2 (nth (X3 s_) 0))).1, (((Xa (List.drop 1 (X3 s_)))).1), true)))
theorem Dl (s_ : ByteArray) (hs : ByteArray.size s_ ≤ 1073741000) : ACalls Tryz.prog 26 [.s s_] (.tup [(false, [.i (((Qu s_)).1)]), (true, [.o 0 ((((Qu s_)).2.1).1.1), .o 1 ((((Qu s_)).2.1).1.2.1), .i ((((Qu s_)).2.1).1.2.2), .o 2 ((((Qu s_)).2.1).2)]), (false, [.b (((Qu s_)).2.2)])]) := by
 refine en Qa Tryz.func26 fun w0 F0 hG => ?_
 refine sn Qa [0, 2, 3, 4] [3] (p0) ?_
 refine tn Qa [0, 2, 3, 4, 5] [3] (pc 1 (YZ s_ (by omega)) p0) ?_
 refine Qc ?_
 refine tu Qa [(2, .i 0), (3, .p 3 0), (4, .b false), (5, .o 704 (X3 s_)), (14, .b (((X3 s_).length : Int) == (0 : Int)))] [] [(3, [.e 2, .e 5, .i 0, .e 2])] [] (pl 1 (X3 s_) p0) ?_
 refine ck (((X3 s_).length : Int) == (0 : Int)) (fun h1 => ?_) (fun h1 => ?_)
 ·
  refine su Qa [] [14] [] [] (p0) ?_
  refine opn [(true, 3, 0, true, 384000, 2), (true, 3, 1, true, 384001, 5), (true, 3, 3, true, 384002, 2)] ?_
  refine Qe ?_
  exact pz [] (show Qu s_ = _ from Xh h1 (rfl)) (fun z => .tup [(false, [.i z.1]), (true, [.o 0 z.2.1.1.1, .o 1 z.2.1.1.2.1, .i z.2.1.1.2.2, .o 2 z.2.1.2]), (false, [.b z.2.2])])
 have h1d := Yg h1
 refine Qf ?_
 refine wT 5 0 (.own true 704) (X3 s_) (fun hw3 hl4 => ?_)
 have hx2 := ng (X3 s_) 0
 refine sn Qa [0, 2, 3, 4, 5, 6] [3] (pG 1 0 hx2 (pc 3 (Bm (nth (X3 s_) 0)) p0)) ?_
 refine tn Qa [0, 2, 3, 4, 6, 8, 9] [3, 8] (pe 1 (Lc (.vw 704) 1 1 1 (X3 s_) rfl) (px (Af (lo := 1) (hi := (((eL (X3 s_)) : List (List PV)).length : Int)) (n := (List.length (eL (X3 s_)))) (Ld (by omega) (by omega))) (pc 2 (E4 (List.drop 1 (X3 s_)) (fun y hy => MA hs y (List.mem_of_mem_drop hy))) p0))) ?_
 refine Qc ?_
 refine Qc ?_
 refine mz [(6, .i (((Q2 (nth (X3 s_) 0))).1)), (8, .p 8 0), (9, .b (((Xa (List.drop 1 (X3 s_)))).2))] [5, 14] [(8, [.o 1664 ((((Xa (List.drop 1 (X3 s_)))).1).1.1), .o 1665 ((((Xa (List.drop 1 (X3 s_)))).1).1.2.1), .i ((((Xa (List.drop 1 (X3 s_)))).1).1.2.2), .o 1666 ((((Xa (List.drop 1 (X3 s_)))).1).2)])] [] ?_
 refine jn [(37, .b ((!(((Xa (List.drop 1 (X3 s_)))).2)) || (!((Xw (((Q2 (nth (X3 s_) 0))).1) (((Xa (List.drop 1 (X3 s_)))).1)).toList == s_.toList))))] [0, 9] [] [] (!(((Xa (List.drop 1 (X3 s_)))).2)) (fun h5 => ?_) (fun h5 => ?_) ?_
 ·
  have h5n : (((Xa (List.drop 1 (X3 s_)))).2) = false := Vp h5
  refine rn Qa [2, 3, 4, 6, 8, 37] [3, 8] (pf 0 h5n (pe 1 (show .b (!false) = .b true from rfl) p0)) ?_
  exact ⟨rfl, Qd (by rw [h5] <;> kernel_rfl)⟩
 ·
  have h5n : (((Xa (List.drop 1 (X3 s_)))).2) = true := Z4 h5
  refine rn Qa [2, 3, 4, 6, 8, 37] [3, 8] (pt 0 h5n (pe 1 (show .b (!true) = .b false from rfl) (pc 5 (Dj (((Q2 (nth (X3 s_) 0))).1) (((Xa (List.drop 1 (X3 s_)))).1)) p0))) ?_
  exact ⟨rfl, Qd (by rw [h5] <;> kernel_rfl)⟩
 refine ck ((!(((Xa (List.drop 1 (X3 s_)))).2)) || (!((Xw (((Q2 (nth (X3 s_) 0))).1) (((Xa (List.drop 1 (X3 s_)))).1)).toList == s_.toList))) (fun h6 => ?_) (fun h6 => ?_)
 ·
  refine su Qa [] [37] [] [] (p0) ?_
  refine opn [(true, 3, 0, true, 384000, 2), (true, 3, 1, true, 384001, 5), (true, 3, 3, true, 384002, 2)] ?_
  refine Qe ?_
  exact pz [] (show Qu s_ = _ from Qj h1 (Xh h6 (rfl))) (fun z => .tup [(false, [.i z.1]), (true, [.o 0 z.2.1.1.1, .o 1 z.2.1.1.2.1, .i z.2.1.1.2.2, .o 2 z.2.1.2]), (false, [.b z.2.2])])
 refine Qf ?_
 refine sN Qa Yz [2, 3, 4] [3] (p0) ?_
 refine Qe ?_
 exact pz [] (show Qu s_ = _ from Qj h1 (Qj h6 (rfl))) (fun z => .tup [(false, [.i z.1]), (true, [.o 0 z.2.1.1.1, .o 1 z.2.1.1.2.1, .i z.2.1.1.2.2, .o 2 z.2.1.2]), (false, [.b z.2.2])])
def Yl (d : U4) : Int × Qp × Bool × Bool := (bif (((Qr d.2)).2.2 && ((!(((Qr d.1)).2.2)) || decide (((Qr d.2)).1 > ((Qr d.1)).1))) then (((Qr d.2)).1, (((Qr d.2)).2.1), true, false) else (((Qr d.1)).1, (((Qr d.1)).2.1), ((Qr d.1)).2.2, ((Qr d.1)).2.2))
theorem Mv (d : U4) (ha : ByteArray.size d.1 ≤ 1073741000) (hb : ByteArray.size d.2 ≤ 1073741000) : ACalls Tryz.prog 35 [.a [.s d.1, .s d.2]] (.tup [(false, [.i (((Yl d)).1)]), (true, [.o 0 ((((Yl d)).2.1).1.1), .o 1 ((((Yl d)).2.1).1.2.1), .i ((((Yl d)).2.1).1.2.2), .o 2 ((((Yl d)).2.1).2)]), (false, [.b (((Yl d)).2.2.1)]), (false, [.b (((Yl d)).2.2.2)])]) := by
 refine en Qa Tryz.func35 fun w0 F0 hG => ?_
 refine sn Qa [1, 2, 3, 4, 5] [1, 3] (p0) ?_
 refine tn Qa [1, 2, 3, 4, 5, 6, 7, 8] [1, 3, 7] (pc 2 (Dk d.1 (by assumption)) p0) ?_
 refine tu Qa [(2, .i 0), (3, .p 3 0), (4, .b false), (5, .b false), (6, .i (((Qr d.1)).1)), (7, .p 7 0), (8, .b (((Qr d.1)).2.2)), (9, .i (((Qr d.2)).1)), (10, .p 10 0), (11, .b (((Qr d.2)).2.2))] [0] [(3, [.e 2, .e 5, .i 0, .e 2]), (7, [.o 960 ((((Qr d.1)).2.1).1.1), .o 961 ((((Qr d.1)).2.1).1.2.1), .i ((((Qr d.1)).2.1).1.2.2), .o 962 ((((Qr d.1)).2.1).2)]), (10, [.o 1408 ((((Qr d.2)).2.1).1.1), .o 1409 ((((Qr d.2)).2.1).1.2.1), .i ((((Qr d.2)).2.1).1.2.2), .o 1410 ((((Qr d.2)).2.1).2)])] [] (pc 2 (Dk d.2 (by assumption)) p0) ?_
 refine Qc ?_
 refine Qc ?_
 refine jn [(35, .b (((Qr d.2)).2.2 && ((!(((Qr d.1)).2.2)) || decide (((Qr d.2)).1 > ((Qr d.1)).1))))] [11] [] [] (((Qr d.2)).2.2) (fun h1 => ?_) (fun h1 => ?_) ?_
 ·
  refine Xo (!(((Qr d.1)).2.2)) (fun h2 => ?_) (fun h2 => ?_)
  ·
   have h2n : (((Qr d.1)).2.2) = false := Vp h2
   refine ru Qa [(35, .b true)] [11] [] [] (pt 0 h1 (pf 2 h2n (pe 3 (show .b (!false) = .b true from rfl) p0))) ?_
   exact ⟨rfl, Qd (by rw [h1, h2] <;> kernel_rfl)⟩
  have h2n : (((Qr d.1)).2.2) = true := Z4 h2
  refine rn Qa [2, 3, 4, 5, 6, 7, 8, 9, 10, 35] [3, 7, 10] (pt 0 h1 (pt 2 h2n (pe 3 (show .b (!true) = .b false from rfl) p0))) ?_
  exact ⟨rfl, Qd (by rw [h1, h2] <;> kernel_rfl)⟩
 ·
  refine ru Qa [(35, .b false)] [11] [] [] (pf 0 h1 p0) ?_
  exact ⟨rfl, Qd (by rw [h1] <;> kernel_rfl)⟩
 refine ck (((Qr d.2)).2.2 && ((!(((Qr d.1)).2.2)) || decide (((Qr d.2)).1 > ((Qr d.1)).1))) (fun h3 => ?_) (fun h3 => ?_)
 ·
  have h3l : (((Qr d.2)).2.2) = true := Ou h3
  have h3r : (((!(((Qr d.1)).2.2)) || decide (((Qr d.2)).1 > ((Qr d.1)).1))) = true := Mp h3
  refine sN Qa Yz [2, 3, 4, 5, 6, 7, 8] [3, 7] (p0) ?_
  refine Qe ?_
  exact pz [] (show Yl d = _ from Xh h3 (rfl)) (fun z => .tup [(false, [.i z.1]), (true, [.o 0 z.2.1.1.1, .o 1 z.2.1.1.2.1, .i z.2.1.1.2.2, .o 2 z.2.1.2]), (false, [.b z.2.2.1]), (false, [.b z.2.2.2])])
 refine Qf ?_
 refine sN Qa Yz [2, 3, 4, 5] [3] (p0) ?_
 refine Qe ?_
 exact pz [] (show Yl d = _ from Qj h3 (rfl)) (fun z => .tup [(false, [.i z.1]), (true, [.o 0 z.2.1.1.1, .o 1 z.2.1.1.2.1, .i z.2.1.1.2.2, .o 2 z.2.1.2]), (false, [.b z.2.2.1]), (false, [.b z.2.2.2])])
def Xi (d : U4) : Int × Qp × Bool × Bool := (bif (((Qu d.1)).2.2 && ((!(((Qu d.2)).2.2)) || decide (((Qu d.1)).1 ≥ ((Qu d.2)).1))) then (((Qu d.1)).1, (((Qu d.1)).2.1), true, true) else (((Qu d.2)).1, (((Qu d.2)).2.1), ((Qu d.2)).2.2, false))
theorem Py (d : U4) (ha : ByteArray.size d.1 ≤ 1073741000) (hb : ByteArray.size d.2 ≤ 1073741000) : ACalls Tryz.prog 14 [.a [.s d.1, .s d.2]] (.tup [(false, [.i (((Xi d)).1)]), (true, [.o 0 ((((Xi d)).2.1).1.1), .o 1 ((((Xi d)).2.1).1.2.1), .i ((((Xi d)).2.1).1.2.2), .o 2 ((((Xi d)).2.1).2)]), (false, [.b (((Xi d)).2.2.1)]), (false, [.b (((Xi d)).2.2.2)])]) := by
 refine en Qa Tryz.func14 fun w0 F0 hG => ?_
 refine sn Qa [1, 2, 3, 4, 5] [1, 3] (p0) ?_
 refine tn Qa [1, 2, 3, 4, 5, 6, 7, 8] [1, 3, 7] (pc 2 (Dl d.1 (by assumption)) p0) ?_
 refine tu Qa [(2, .i 0), (3, .p 3 0), (4, .b false), (5, .b false), (6, .i (((Qu d.1)).1)), (7, .p 7 0), (8, .b (((Qu d.1)).2.2)), (9, .i (((Qu d.2)).1)), (10, .p 10 0), (11, .b (((Qu d.2)).2.2))] [0] [(3, [.e 2, .e 5, .i 0, .e 2]), (7, [.o 960 ((((Qu d.1)).2.1).1.1), .o 961 ((((Qu d.1)).2.1).1.2.1), .i ((((Qu d.1)).2.1).1.2.2), .o 962 ((((Qu d.1)).2.1).2)]), (10, [.o 1408 ((((Qu d.2)).2.1).1.1), .o 1409 ((((Qu d.2)).2.1).1.2.1), .i ((((Qu d.2)).2.1).1.2.2), .o 1410 ((((Qu d.2)).2.1).2)])] [] (pc 2 (Dl d.2 (by assumption)) p0) ?_
 refine Qc ?_
 refine Qc ?_
 refine jn [(35, .b (((Qu d.1)).2.2 && ((!(((Qu d.2)).2.2)) || decide (((Qu d.1)).1 ≥ ((Qu d.2)).1))))] [8] [] [] (((Qu d.1)).2.2) (fun h1 => ?_) (fun h1 => ?_) ?_
 ·
  refine Xo (!(((Qu d.2)).2.2)) (fun h2 => ?_) (fun h2 => ?_)
  ·
   have h2n : (((Qu d.2)).2.2) = false := Vp h2
   refine ru Qa [(35, .b true)] [8] [] [] (pt 0 h1 (pf 2 h2n (pe 3 (show .b (!false) = .b true from rfl) p0))) ?_
   exact ⟨rfl, Qd (by rw [h1, h2] <;> kernel_rfl)⟩
  have h2n : (((Qu d.2)).2.2) = true := Z4 h2
  refine rn Qa [2, 3, 4, 5, 6, 7, 9, 10, 11, 35] [3, 7, 10] (pt 0 h1 (pt 2 h2n (pe 3 (show .b (!true) = .b false from rfl) p0))) ?_
  exact ⟨rfl, Qd (by rw [h1, h2] <;> kernel_rfl)⟩
 ·
  refine ru Qa [(35, .b false)] [8] [] [] (pf 0 h1 p0) ?_
  exact ⟨rfl, Qd (by rw [h1] <;> kernel_rfl)⟩
 refine ck (((Qu d.1)).2.2 && ((!(((Qu d.2)).2.2)) || decide (((Qu d.1)).1 ≥ ((Qu d.2)).1))) (fun h3 => ?_) (fun h3 => ?_)
 ·
  have h3l : (((Qu d.1)).2.2) = true := Ou h3
  have h3r : (((!(((Qu d.2)).2.2)) || decide (((Qu d.1)).1 ≥ ((Qu d.2)).1))) = true := Mp h3
  refine sN Qa Yz [2, 3, 4, 5, 9, 10, 11] [3, 10] (p0) ?_
  refine Qe ?_
  exact pz [] (show Xi d = _ from Xh h3 (rfl)) (fun z => .tup [(false, [.i z.1]), (true, [.o 0 z.2.1.1.1, .o 1 z.2.1.1.2.1, .i z.2.1.1.2.2, .o 2 z.2.1.2]), (false, [.b z.2.2.1]), (false, [.b z.2.2.2])])
 refine Qf ?_
 refine sN Qa Yz [2, 3, 4, 5] [3] (p0) ?_
 refine Qe ?_
 exact pz [] (show Xi d = _ from Qj h3 (rfl)) (fun z => .tup [(false, [.i z.1]), (true, [.o 0 z.2.1.1.1, .o 1 z.2.1.1.2.1, .i z.2.1.1.2.2, .o 2 z.2.1.2]), (false, [.b z.2.2.1]), (false, [.b z.2.2.2])])
def Xs (d : U4) (x : Qp) : ByteArray × Bool := ((Zv (IntKind.i64.wrap (((Yl d)).1 + 1)) x), (!(((Yl d)).2.2.2)))
theorem Rl (d : U4) (x : Qp) (ha : ByteArray.size d.1 ≤ 1073741000) (hb : ByteArray.size d.2 ≤ 1073741000) : ACalls Tryz.prog 19 [.a [.s d.1, .s d.2], .a [.h x.1.1, .h x.1.2.1, .i x.1.2.2, .h x.2]] (.tup [(false, [.s (((Xs d x)).1)]), (false, [.b (((Xs d x)).2)])]) := by
 refine en Qa Tryz.func19 fun w0 F0 hG => ?_
 refine sn Qa [2, 3, 4, 5] [2, 3] (p0) ?_
 refine tn Qa [3, 4, 5, 6, 9] [3] (pc 1 (Mv d (by assumption) (by assumption)) p0) ?_
 refine tu Qa [(4, .s (Zv (IntKind.i64.wrap (((Yl d)).1 + 1)) x)), (5, .b (!(((Yl d)).2.2.2)))] [0, 1] [] [] (pc 3 (Di (IntKind.i64.wrap (((Yl d)).1 + 1)) x) p0) ?_
 refine Qe ?_
 exact pz [] (show Xs d x = ((Zv (IntKind.i64.wrap (((Yl d)).1 + 1)) x), (!(((Yl d)).2.2.2))) from rfl) (fun z => .tup [(false, [.s z.1]), (false, [.b z.2])])
def Yy (d : U4) (x : Qp) (keep : Int) : U4 × Bool := (bif ((((Xs d x)).1).toList == (⟨#[]⟩ : ByteArray).toList) then (d, false) else (bif ((Xs d x)).2 then (((ByteArray.extract (((Xs d x)).1) (Int.toNat 0) (Int.toNat (Ka keep 0 (ByteArray.size (((Xs d x)).1) : Int)))), d.2), ((ByteArray.extract (((Xs d x)).1) (Int.toNat 0) (Int.toNat (Ka keep 0 (ByteArray.size (((Xs d x)).1) : Int)))).toList == (((Xs d x)).1).toList)) else ((d.1, (ByteArray.extract (((Xs d x)).1) (Int.toNat 0) (Int.toNat (Ka keep 0 (ByteArray.size (((Xs d x)).1) : Int))))), ((ByteArray.extract (((Xs d x)).1) (Int.toNat 0) (Int.toNat (Ka keep 0 (ByteArray.size (((Xs d x)).1) : Int)))).toList == (((Xs d x)).1).toList))))
theorem Pz (d : U4) (x : Qp) (keep : Int) (ha : ByteArray.size d.1 ≤ 1073741000) (hb : ByteArray.size d.2 ≤ 1073741000) : ACalls Tryz.prog 9 [.a [.s d.1, .s d.2], .a [.h x.1.1, .h x.1.2.1, .i x.1.2.2, .h x.2], .i keep] (.tup [(true, [.s ((((Yy d x keep)).1).1), .s ((((Yy d x keep)).1).2)]), (false, [.b (((Yy d x keep)).2)])]) := by
 refine en Qa Tryz.func9 fun w0 F0 hG => ?_
 refine sn Qa [2, 3, 4, 6, 7] [3, 4, 6] (p0) ?_
 refine tn Qa [2, 3, 6, 7, 8, 9] [3, 6] (pc 2 (Rl d x (by assumption) (by assumption)) p0) ?_
 refine Qc ?_
 refine tu Qa [(3, .p 3 0), (6, .p 6 0), (7, .b false), (8, .s (((Xs d x)).1)), (9, .b (((Xs d x)).2)), (18, .b ((((Xs d x)).1).toList == (⟨#[]⟩ : ByteArray).toList))] [0, 1] [(3, [.s d.1, .s d.2]), (6, [.s ⟨#[]⟩, .s ⟨#[]⟩])] [] (p0) ?_
 refine ck ((((Xs d x)).1).toList == (⟨#[]⟩ : ByteArray).toList) (fun h1 => ?_) (fun h1 => ?_)
 ·
  refine sn Qa [2, 3, 6, 7, 8, 9] [3, 6] (p0) ?_
  refine Qe ?_
  exact pz [] (show Yy d x keep = _ from Xh h1 (rfl)) (fun z => .tup [(true, [.s z.1.1, .s z.1.2]), (false, [.b z.2])])
 refine Qf ?_
 have hk2 := QB keep (ByteArray.size (((Xs d x)).1) : Int) (by omega)
 refine stT 8 0 (((Xs d x)).1) (fun hs3 => ?_)
 refine sn Qa [3, 6, 7, 8, 9, 10] [3, 6] (pc 4 (VF keep 0 (ByteArray.size (((Xs d x)).1) : Int)) (px (Af (lo := 0) (hi := (Ka keep 0 (ByteArray.size (((Xs d x)).1) : Int))) (n := (ByteArray.size (((Xs d x)).1))) (⟨by omega, by omega, by omega⟩)) p0)) ?_
 refine Qc ?_
 refine tn Qa [3, 6, 7, 8, 10, 26] [3, 6] (p0) ?_
 refine ck (((Xs d x)).2) (fun h4 => ?_) (fun h4 => ?_)
 ·
  refine qu Qa [(10, .s (ByteArray.extract (((Xs d x)).1) (Int.toNat 0) (Int.toNat (Ka keep 0 (ByteArray.size (((Xs d x)).1) : Int)))))] [2, 9, 18] [(3, [.s (ByteArray.extract (((Xs d x)).1) (Int.toNat 0) (Int.toNat (Ka keep 0 (ByteArray.size (((Xs d x)).1) : Int)))), .s d.2])] [3] (p0) ?_
  refine sn Qa [6, 7] [6] (p0) ?_
  refine Qe ?_
  exact pz [] (show Yy d x keep = _ from Qj h1 (Xh h4 (rfl))) (fun z => .tup [(true, [.s z.1.1, .s z.1.2]), (false, [.b z.2])])
 refine qu Qa [(10, .s (ByteArray.extract (((Xs d x)).1) (Int.toNat 0) (Int.toNat (Ka keep 0 (ByteArray.size (((Xs d x)).1) : Int)))))] [2, 9, 18] [(3, [.s d.1, .s (ByteArray.extract (((Xs d x)).1) (Int.toNat 0) (Int.toNat (Ka keep 0 (ByteArray.size (((Xs d x)).1) : Int))))])] [3] (p0) ?_
 refine sn Qa [6, 7] [6] (p0) ?_
 refine Qe ?_
 exact pz [] (show Yy d x keep = _ from Qj h1 (Qj h4 (rfl))) (fun z => .tup [(true, [.s z.1.1, .s z.1.2]), (false, [.b z.2])])
def K9 (d : U4) (x : Qp) (keep : Int) : U4 × Bool := (bif ((Xw (IntKind.i64.wrap (((Xi d)).1 + 1)) x).toList == (⟨#[]⟩ : ByteArray).toList) then (d, false) else (bif ((Xi d)).2.2.2 then ((d.1, (ByteArray.extract (Xw (IntKind.i64.wrap (((Xi d)).1 + 1)) x) (Int.toNat 0) (Int.toNat (V1 keep 0 (ByteArray.size (Xw (IntKind.i64.wrap (((Xi d)).1 + 1)) x) : Int))))), ((V1 keep 0 (ByteArray.size (Xw (IntKind.i64.wrap (((Xi d)).1 + 1)) x) : Int)) == (ByteArray.size (Xw (IntKind.i64.wrap (((Xi d)).1 + 1)) x) : Int))) else (((ByteArray.extract (Xw (IntKind.i64.wrap (((Xi d)).1 + 1)) x) (Int.toNat 0) (Int.toNat (V1 keep 0 (ByteArray.size (Xw (IntKind.i64.wrap (((Xi d)).1 + 1)) x) : Int)))), d.2), ((V1 keep 0 (ByteArray.size (Xw (IntKind.i64.wrap (((Xi d)).1 + 1)) x) : Int)) == (ByteArray.size (Xw (IntKind.i64.wrap (((Xi d)).1 + 1)) x) : Int)))))
theorem P0 (d : U4) (x : Qp) (keep : Int) (ha : ByteArray.size d.1 ≤ 1073741000) (hb : ByteArray.size d.2 ≤ 1073741000) : ACalls Tryz.prog 6 [.a [.s d.1, .s d.2], .a [.h x.1.1, .h x.1.2.1, .i x.1.2.2, .h x.2], .i keep] (.tup [(true, [.s ((((K9 d x keep)).1).1), .s ((((K9 d x keep)).1).2)]), (false, [.b (((K9 d x keep)).2)])]) := by
 refine en Qa Tryz.func6 fun w0 F0 hG => ?_
 refine sn Qa [2, 3, 4, 6, 7] [3, 4, 6] (p0) ?_
 refine tn Qa [2, 3, 4, 6, 7, 8, 11] [3, 4, 6] (pc 1 (Py d (by assumption) (by assumption)) p0) ?_
 refine tu Qa [(3, .p 3 0), (6, .p 6 0), (7, .b false), (11, .b (((Xi d)).2.2.2)), (12, .s (Xw (IntKind.i64.wrap (((Xi d)).1 + 1)) x))] [0, 1] [(3, [.s d.1, .s d.2]), (6, [.s ⟨#[]⟩, .s ⟨#[]⟩])] [] (pc 3 (Dj (IntKind.i64.wrap (((Xi d)).1 + 1)) x) p0) ?_
 refine Qc ?_
 refine sn Qa [2, 3, 6, 7, 11, 12, 26] [3, 6] (p0) ?_
 refine ck ((Xw (IntKind.i64.wrap (((Xi d)).1 + 1)) x).toList == (⟨#[]⟩ : ByteArray).toList) (fun h1 => ?_) (fun h1 => ?_)
 ·
  refine tn Qa [2, 3, 6, 7, 11, 12] [3, 6] (p0) ?_
  refine Qe ?_
  exact pz [] (show K9 d x keep = _ from Xh h1 (rfl)) (fun z => .tup [(true, [.s z.1.1, .s z.1.2]), (false, [.b z.2])])
 refine Qf ?_
 have hk2 := EQ keep (ByteArray.size (Xw (IntKind.i64.wrap (((Xi d)).1 + 1)) x) : Int) (by omega)
 refine tn Qa [3, 6, 7, 11, 12, 13] [3, 6] (pc 3 (VG keep 0 (ByteArray.size (Xw (IntKind.i64.wrap (((Xi d)).1 + 1)) x) : Int)) p0) ?_
 refine Qc ?_
 refine tu Qa [(13, .i (V1 keep 0 (ByteArray.size (Xw (IntKind.i64.wrap (((Xi d)).1 + 1)) x) : Int))), (32, .b (((Xi d)).2.2.2))] [2, 11] [] [] (p0) ?_
 refine ck (((Xi d)).2.2.2) (fun h3 => ?_) (fun h3 => ?_)
 ·
  refine stT 12 0 (Xw (IntKind.i64.wrap (((Xi d)).1 + 1)) x) (fun hs4 => ?_)
  refine rn Qa [3, 6, 7, 12, 13] [3, 6] (px (Af (lo := 0) (hi := (V1 keep 0 (ByteArray.size (Xw (IntKind.i64.wrap (((Xi d)).1 + 1)) x) : Int))) (n := (ByteArray.size (Xw (IntKind.i64.wrap (((Xi d)).1 + 1)) x))) (⟨by omega, by omega, by omega⟩)) p0) ?_
  refine tn Qa [6, 7] [6] (p0) ?_
  refine Qe ?_
  exact pz [] (show K9 d x keep = _ from Qj h1 (Xh h3 (rfl))) (fun z => .tup [(true, [.s z.1.1, .s z.1.2]), (false, [.b z.2])])
 refine stT 12 0 (Xw (IntKind.i64.wrap (((Xi d)).1 + 1)) x) (fun hs5 => ?_)
 refine rn Qa [3, 6, 7, 12, 13] [3, 6] (px (Af (lo := 0) (hi := (V1 keep 0 (ByteArray.size (Xw (IntKind.i64.wrap (((Xi d)).1 + 1)) x) : Int))) (n := (ByteArray.size (Xw (IntKind.i64.wrap (((Xi d)).1 + 1)) x))) (⟨by omega, by omega, by omega⟩)) p0) ?_
 refine tn Qa [6, 7] [6] (p0) ?_
 refine Qe ?_
 exact pz [] (show K9 d x keep = _ from Qj h1 (Qj h3 (rfl))) (fun z => .tup [(true, [.s z.1.1, .s z.1.2]), (false, [.b z.2])])
/-! ### numbers -/
theorem OB (t : ByteArray) : ∀ (n k : Nat) (s : Int), 0 ≤ s → s < 10 ^ k → k + n ≤ 10 → Jg (Zk t) Kv n k s = .ret (0, false) ∨ ∃ y, Jg (Zk t) Kv n k s = .brk y ∧ 0 ≤ y
  | 0, k, s, h0, _, _ => .inr ⟨s, rfl, h0⟩
  | n + 1, k, s, h0, h1, hk => by
    cases hc : (decide (Yt t ((k : Nat) : Int) < (48 : Int)) || decide (Yt t ((k : Nat) : Int) > (57 : Int))) with
    | true =>
      refine .inl (ZC ?_)
      unfold Zk
      rw [hc, cond_true]
    | false =>
      obtain ⟨c1, c2⟩ := bo hc
      have c1 := of_decide_eq_false c1
      have c2 := of_decide_eq_false c2
      have hp := VD (c := Yt t ((k : Nat) : Int)) h0 h1 (by omega) (by omega) (by omega)
      have hf : Zk t k s = .next (10 * s + (Yt t ((k : Nat) : Int) - 48)) := by
        unfold Zk
        rw [hc, cond_false, hp.1]
      rw [C6 hf]
      exact OB t n (k + 1) _ hp.2.1 hp.2.2 (by omega)
theorem ZH (t : ByteArray) : ∀ (rest : List UInt8) (k acc m : Nat), t.data.toList.drop k = rest → (acc : Int) < 10 ^ k → k + rest.length ≤ 10 → Lib.decFrom acc rest = some m → Jg (Zk t) Kv rest.length k (acc : Int) = .brk (m : Int)
  | [], k, acc, m, _, _, _, h => by
    obtain rfl : acc = m := by simpa [Lib.decFrom] using h
    rfl
  | b :: rest, k, acc, m, hr, hlt, hk, h => by
    obtain ⟨hx, hd, _⟩ := Bp hr
    rw [List.length_cons] at hk ⊢
    simp only [Lib.decFrom] at h
    cases hv : Lib.digitVal b with
    | none => rw [hv] at h; cases h
    | some d =>
      rw [hv] at h
      have hb : (48 ≤ b.toNat ∧ b.toNat ≤ 57) ∧ b.toNat - 48 = d := by
        unfold Lib.digitVal at hv
        split at hv
        · rename_i hb; exact ⟨hb, Option.some.inj hv⟩
        cases hv
      have hs := Cl hx
      have hp := VD (s := (acc : Int)) (c := Yt t ((k : Nat) : Int)) (by omega) hlt (by omega) (by omega) (by omega)
      have hf : Zk t k (acc : Int) = .next (((acc * 10 + d : Nat)) : Int) := by
        unfold Zk
        rw [decide_eq_false (show ¬ Yt t ((k : Nat) : Int) < 48 by omega), decide_eq_false (show ¬ Yt t ((k : Nat) : Int) > 57 by omega), Bool.or_false, cond_false, hp.1]
        congr 1
        omega
      rw [C6 hf]
      exact ZH t rest (k + 1) _ m hd (by have := hp.2.2; omega) (by omega) h
theorem U2 (t : ByteArray) : Q2 t = Qg t := by
  unfold Q2 Qg
  cases hp : Ah t with
  | some n =>
    obtain ⟨h1, rfl⟩ := Ih hp
    have h2 := Zf (n := (n : Int)) (by omega)
    have hr := ZH (Qq (n : Int)) (Qq (n : Int)).data.toList 0 0 n rfl (by decide) (by rw [Uw]; omega) (by rw [Wl]; exact Fi n)
    rw [Uw] at hr
    rw [decide_eq_false (show ¬ (ByteArray.size (Qq (n : Int)) : Int) > 10 by omega), cond_false, show Int.toNat (ByteArray.size (Qq (n : Int)) : Int) = (Qq (n : Int)).size by omega, show (0 : Int) = ((0 : Nat) : Int) from rfl, hr]
    simp only [Out.on]
    rw [decide_eq_false (show ¬ (n : Int) > 1000000000 by omega), beq_self_eq_true]
    rfl
  | none =>
    cases hc : decide ((ByteArray.size t : Int) > (10 : Int)) with
    | true => rfl
    | false =>
      have hc := of_decide_eq_false hc
      rcases OB t (Int.toNat (ByteArray.size t : Int)) 0 0 (by decide) (by decide) (by omega) with h | ⟨y, h, h0⟩
      · rw [h]; rfl
      rw [h]
      simp only [cond_false, Out.on]
      cases hy : (decide (y > (1000000000 : Int)) || (!((Qq y).toList == t.toList))) with
      | true => rfl
      | false =>
        obtain ⟨y1, y2⟩ := bo hy
        have y1 := of_decide_eq_false y1
        obtain ⟨m, rfl⟩ := Int.eq_ofNat_of_zero_le h0
        rw [Lq (n := m) (by omega) (Up (bn y2))] at hp
        cases hp
theorem Il {n : Int} (h : 0 ≤ n ∧ n ≤ 1000000000) : Qg (Qq n) = (n, true) := by
  obtain ⟨m, rfl⟩ := Int.eq_ofNat_of_zero_le h.1
  unfold Qg
  rw [Lq (n := m) (by omega) rfl]
/-! ### values -/
theorem SB : Qn ⟨#[45]⟩ = ((0, 0, ⟨#[]⟩), true) := by kernel_rfl
theorem VN : Qn ⟨#[]⟩ = ((0, 0, ⟨#[]⟩), false) := by kernel_rfl
theorem Im (s : ByteArray) : Q8 s = Qn s := by
  cases hd : (s.toList == (⟨#[45]⟩ : ByteArray).toList) with
  | true =>
    rw [Up hd, SB]
    unfold Q8
    rw [beq_self_eq_true]
    rfl
  | false =>
    unfold Q8 Qn
    rw [hd, U2]
    simp only [cond_false, Bool.not_false, cond_true]
    cases hu : (Qg s).2 with
    | true =>
      simp only [cond_true]
      have e : Xg (Ys (Qg s).1) = Qt (Zo (Qg s).1) := rfl
      rw [e]
      cases hv : Qt (Zo (Qg s).1) with
      | false => rfl
      | true =>
        have hf : Yc (Ys (Qg s).1) = s := by
          unfold Yc
          rw [e, hv]
          have hn : Qq (Qg s).1 = s := by
            unfold Qg at hu ⊢
            cases hp : Ah s with
            | none => rw [hp] at hu; cases hu
            | some n => exact (Ih hp).2
          exact hn
        rw [hf, beq_self_eq_true]
        rfl
    | false =>
      simp only [cond_false]
      have e : Xg (X2 s) = Qt (Yw s) := rfl
      rw [e]
      cases hv : Qt (Yw s) with
      | false => rfl
      | true =>
        have hf : Yc (X2 s) = s := by
          unfold Yc
          rw [e, hv]
          rfl
        rw [hf, beq_self_eq_true]
        rfl
theorem ZI {v : Z7} (h : Qt v = true) (h0 : v.1 ≠ 0) : (v.1 = 1 ∧ (0 ≤ v.2.1 ∧ v.2.1 ≤ 999) ∧ v.2.2 = ⟨#[]⟩) ∨ (v.1 = 2 ∧ v.2.1 = 0 ∧ Qy v.2.2 = true) := by
  cases h1 : (v.1 == (1 : Int)) with
  | true =>
    refine .inl ⟨eq_of_beq h1, QC h h1, ?_⟩
    unfold Qt at h
    rw [eq_of_beq h1] at h
    simp only [show ((1 : Int) == 0) = false from rfl, show ((1 : Int) == 1) = true from rfl, cond_true, cond_false, Bool.and_eq_true] at h
    exact Up h.2
  | false =>
    cases h2 : (v.1 == (2 : Int)) with
    | true => have := ER h h2; exact .inr ⟨eq_of_beq h2, this.2, this.1⟩
    | false =>
      exfalso
      unfold Qt at h
      have e0 : (v.1 == (0 : Int)) = false := by simpa using h0
      rw [e0, h1, h2] at h
      cases h
/-! ### words -/
theorem Io {n : Int} (h : 0 ≤ n) : Word (Qq n) := by
  obtain ⟨m, rfl⟩ := Int.eq_ofNat_of_zero_le h
  refine ⟨?_, fun b hb => ?_⟩
  · have h1 := Pq m
    rw [← Wl] at h1
    have h2 := Uw (Qq (m : Int))
    have h3 := List.length_pos_iff.2 h1
    show 1 ≤ (Qq (m : Int)).size
    omega
  have hb : b ∈ (Qq (m : Int)).data.toList := hb
  rw [Wl] at hb
  have := Lp m b hb
  omega
theorem Sw {s : ByteArray} (h0 : 1 ≤ s.size) (h : ∀ k : Nat, k < s.size → 97 ≤ Yt s (k : Int) ∧ Yt s (k : Int) ≤ 122) : Word s := by
  refine ⟨h0, fun b hb => ?_⟩
  obtain ⟨i, hi⟩ := List.getElem?_of_mem hb
  have hlt := (List.getElem?_eq_some_iff.1 hi).1
  rw [Uw] at hlt
  have h1 := h i hlt
  rw [Cl hi] at h1
  omega
theorem QK {s : ByteArray} (h : Qy s = true) : Word s := by
  have hs := Bz h
  refine Sw hs.1 fun k hk => ?_
  unfold Qy at h
  have key : ∀ (n j : Nat), Jg (Xm s) Zn n j () = .brk () → ∀ i, j ≤ i → i < j + n → 97 ≤ Yt s (i : Int) ∧ Yt s (i : Int) ≤ 122 := by
    intro n
    induction n with
    | zero => intro j _ i h1 h2; omega
    | succ n ih =>
      intro j hj i h1 h2
      cases hc : (decide (Yt s ((j : Nat) : Int) < (97 : Int)) || decide (Yt s ((j : Nat) : Int) > (122 : Int))) with
      | true =>
        have hf : Xm s j () = .ret false := by unfold Xm; rw [hc, cond_true]
        rw [ZC hf] at hj; cases hj
      | false =>
        have hf : Xm s j () = .next () := by unfold Xm; rw [hc, cond_false]
        rw [C6 hf] at hj
        obtain ⟨c1, c2⟩ := bo hc
        have c1 := of_decide_eq_false c1
        have c2 := of_decide_eq_false c2
        by_cases e : i = j
        · subst e; omega
        exact ih (j + 1) hj i (by omega) (by omega)
  cases hf : Jg (Xm s) Zn (Int.toNat (s.size : Int)) 0 () with
  | brk t => exact key _ _ hf k (Nat.zero_le _) (by omega)
  | ret r =>
    exfalso
    rw [hf] at h
    obtain rfl : r = true := h
    have nr : ∀ n j, Jg (Xm s) Zn n j () ≠ .ret true := by
      intro n
      induction n with
      | zero => intro j h; simp [Jg] at h
      | succ n ih =>
        intro j h
        cases hc : (decide (Yt s ((j : Nat) : Int) < (97 : Int)) || decide (Yt s ((j : Nat) : Int) > (122 : Int))) with
        | true =>
          have hf : Xm s j () = .ret false := by unfold Xm; rw [hc, cond_true]
          rw [ZC hf] at h; simp at h
        | false =>
          have hf : Xm s j () = .next () := by unfold Xm; rw [hc, cond_false]
          rw [C6 hf] at h
          exact ih _ h
    exact nr _ _ hf
theorem P1 {s : ByteArray} (h : Qs s = true) : Word s := by
  have h1 := T7 h
  unfold Qs at h
  simp only [Bool.and_eq_true, decide_eq_true_eq] at h
  refine Sw (by omega) fun k hk => ?_
  obtain rfl : k = 0 := by omega
  exact ⟨h.2.1, h.2.2⟩
theorem UW {v : Z7} (h : Qt v = true) (h0 : v.1 ≠ 0) : Word (Xe v) := by
  unfold Xe
  rw [h]
  rcases ZI h h0 with ⟨h1, h2, _⟩ | ⟨h1, _, h2⟩
  · rw [h1]; exact Io h2.1
  rw [h1]; exact QK h2
theorem ZJ {v : Z7} (h : Qt v = true) (h0 : v.1 ≠ 0) : Qn (Xe v) = (v, true) := by
  obtain ⟨k, n, s⟩ := v
  rcases ZI h h0 with ⟨h1, h2, h3⟩ | ⟨h1, h2, h3⟩
  · obtain rfl : k = 1 := h1
    obtain rfl : s = ⟨#[]⟩ := h3
    have h2 : 0 ≤ n ∧ n ≤ 999 := h2
    have e : Xe (1, n, ⟨#[]⟩) = Qq n := by unfold Xe; rw [h]; rfl
    rw [e]
    unfold Qn
    rw [Il (by omega), show Zo n = ((1, n, ⟨#[]⟩) : Z7) from rfl, h]
    rfl
  obtain rfl : k = 2 := h1
  obtain rfl : n = 0 := h2
  have h3 : Qy s = true := h3
  have e : Xe (2, 0, s) = s := by unfold Xe; rw [h]; rfl
  rw [e]
  unfold Qn
  have hu : (Qg s).2 = false := by
    unfold Qg
    cases hp : Ah s with
    | none => rfl
    | some m =>
      exfalso
      obtain ⟨_, rfl⟩ := Ih hp
      have hw := Lp m
      have hs := Bz h3
      have hn := Pq m
      cases hl : Lib.decDigits m with
      | nil => exact hn hl
      | cons b r =>
        have hb := hw b (by rw [hl]; exact List.mem_cons_self ..)
        have hbk : (Qq (m : Int)).data.toList[0]? = some b := by rw [Wl, hl]; rfl
        unfold Qy at h3
        obtain ⟨q, hq⟩ : ∃ q, Int.toNat (((Qq (m : Int)).size : Nat) : Int) = q + 1 := ⟨(Qq (m : Int)).size - 1, by omega⟩
        rw [hq] at h3
        have hf : Xm (Qq (m : Int)) 0 () = .ret false := by
          unfold Xm
          rw [Cl hbk, decide_eq_true (show (b.toNat : Int) < 97 by omega)]
          rfl
        rw [ZC hf] at h3
        cases h3
  have hd : (s.toList == (⟨#[45]⟩ : ByteArray).toList) = false := by
    cases hz : (s.toList == (⟨#[45]⟩ : ByteArray).toList) with
    | false => rfl
    | true =>
      exfalso
      rw [Up hz] at h3
      exact absurd h3 (by decide)
  rw [hu, hd, show Yw s = ((2, 0, s) : Z7) from rfl, h]
  rfl
abbrev NZ : Z7 := (0, 0, ⟨#[]⟩)
inductive Pr : List ByteArray → List Qw → List ByteArray → List Qw → Prop
  | all {w : ByteArray} {r : List ByteArray} {q : List Qw} : Fj w = 1 → Pr (w :: r) q r (q ++ [((1, 0, 0, ⟨#[]⟩, NZ) : Qw)])
  | nm {w x : ByteArray} {r : List ByteArray} {q : List Qw} {op : Int} : Fj w = op → op = 2 ∨ op = 8 ∨ op = 9 → Pr (w :: x :: r) q r (q ++ [((op, 0, 0, x, NZ) : Qw)])
  | vl {w x y : ByteArray} {r : List ByteArray} {q : List Qw} {op : Int} : Fj w = op → op = 3 ∨ op = 4 → (Qn y).2 = true → Pr (w :: x :: y :: r) q r (q ++ [((op, 0, 0, x, (Qn y).1) : Qw)])
  | nt {w : ByteArray} {r r1 : List ByteArray} {q q1 : List Qw} : Fj w = 5 → Pr r q r1 q1 → Pr (w :: r) q r1 (q1 ++ [((5, (q1.length : Int) - 1, 0, ⟨#[]⟩, NZ) : Qw)])
  | tw {w : ByteArray} {r r1 r2 : List ByteArray} {q q1 q2 : List Qw} {op : Int} : Fj w = op → op = 6 ∨ op = 7 → Pr r q r1 q1 → Pr r1 q1 r2 q2 → Pr (w :: r) q r2 (q2 ++ [((op, (q1.length : Int) - 1, (q2.length : Int) - 1, ⟨#[]⟩, NZ) : Qw)])
theorem Pr.len {r r' : List ByteArray} {q q' : List Qw} (h : Pr r q r' q') : q.length < q'.length ∧ r'.length < r.length ∧ r.length + 2 * q.length ≤ r'.length + 2 * q'.length + 1 := by
  induction h <;> simp only [List.length_append, List.length_cons, List.length_nil] <;> omega
theorem Pr.suf {r r' : List ByteArray} {q q' : List Qw} (h : Pr r q r' q') : r' = r.drop (r.length - r'.length) := by
  have key : ∃ u, r = u ++ r' := by
    induction h with
    | @all w r => exact ⟨[w], rfl⟩
    | @nm w x r => exact ⟨[w, x], rfl⟩
    | @vl w x y r => exact ⟨[w, x, y], rfl⟩
    | @nt w _ _ _ _ _ _ ih => obtain ⟨u, rfl⟩ := ih; exact ⟨w :: u, rfl⟩
    | @tw w _ _ _ _ _ _ _ _ _ _ _ ih1 ih2 =>
      obtain ⟨u, rfl⟩ := ih2
      obtain ⟨u1, rfl⟩ := ih1
      exact ⟨w :: (u1 ++ u), by simp⟩
  obtain ⟨u, rfl⟩ := key
  rw [List.length_append, Nat.add_sub_cancel, List.drop_left]
/-! ### the program's reader -/
def SC (n : Nat) (x1 : ByteArray × (List ByteArray) × (List Qw)) (y0 : Int) : Bool × (List ByteArray) × (List Qw) :=
  bif (bif (y0 == (2 : Int)) then (y0 == (2 : Int)) else (bif (y0 == (8 : Int)) then (y0 == (8 : Int)) else (y0 == (9 : Int)))) then
    ((y0 != (0 : Int)), (Yd x1.2.1 x1.2.2).2.1, (Yd x1.2.1 x1.2.2).2.2 ++ [((y0, 0, 0, (Yd x1.2.1 x1.2.2).1, NZ) : Qw)])
  else bif (bif (y0 == (3 : Int)) then (y0 == (3 : Int)) else (y0 == (4 : Int))) then
    lt (Yd x1.2.1 x1.2.2) fun x14 => lt (Yd x14.2.1 x14.2.2) fun x15 => ((Qn x15.1).2, x15.2.1, x15.2.2 ++ [((y0, 0, 0, x14.1, (Qn x15.1).1) : Qw)])
  else bif (y0 == (5 : Int)) then
    lt (Xc n x1.2.1 x1.2.2) fun x20 => (x20.1, x20.2.1, x20.2.2 ++ [((y0, ((x20.2.2.length : Int) - 1), 0, ⟨#[]⟩, NZ) : Qw)])
  else bif (bif (y0 == (6 : Int)) then (y0 == (6 : Int)) else (y0 == (7 : Int))) then
    lt (Xc n x1.2.1 x1.2.2) fun x27 => bif x27.1 then
      lt (Xc n x27.2.1 x27.2.2) fun x31 => (x31.1, x31.2.1, x31.2.2 ++ [((y0, ((x27.2.2.length : Int) - 1), ((x31.2.2.length : Int) - 1), ⟨#[]⟩, NZ) : Qw)])
    else (false, x27.2.1, x27.2.2 ++ [((y0, ((x27.2.2.length : Int) - 1), ((x27.2.2.length : Int) - 1), ⟨#[]⟩, NZ) : Qw)])
  else ((y0 != (0 : Int)), x1.2.1, x1.2.2 ++ [((y0, 0, 0, ⟨#[]⟩, NZ) : Qw)])
theorem Ga (n : Nat) (bf : List ByteArray) (bn : List Qw) : Xc (n + 1) bf bn = SC n (Yd bf bn) (Fj (Yd bf bn).1) := by
  unfold Xc lt
  dsimp only
  rw [Ei (f := C8 (Yd bf bn)) (e := C9) (p := fun k => (Qo ((k + 1 : Nat) : Int)).toList == (Yd bf bn).1.toList) (fun _ _ => rfl) (fun _ _ => rfl)]
  rfl
theorem Ho (w : ByteArray) (r : List ByteArray) (q : List Qw) : Yd (w :: r) q = (w, r, q) := rfl
theorem Ip (q : List Qw) : Yd [] q = (⟨#[]⟩, [], q) := rfl
theorem Qam (n : Nat) (w : ByteArray) (r : List ByteArray) (q : List Qw) : SC n (w, r, q) 5 = ((Xc n r q).1, (Xc n r q).2.1, (Xc n r q).2.2 ++ [((5, (((Xc n r q).2.2.length : Int) - 1), 0, ⟨#[]⟩, NZ) : Qw)]) := rfl
def Qan (n : Nat) (r : List ByteArray) (q : List Qw) (op : Int) : Bool × (List ByteArray) × (List Qw) := bif (Xc n r q).1 then ((Xc n (Xc n r q).2.1 (Xc n r q).2.2).1, (Xc n (Xc n r q).2.1 (Xc n r q).2.2).2.1, (Xc n (Xc n r q).2.1 (Xc n r q).2.2).2.2 ++ [((op, (((Xc n r q).2.2.length : Int) - 1), (((Xc n (Xc n r q).2.1 (Xc n r q).2.2).2.2.length : Int) - 1), ⟨#[]⟩, NZ) : Qw)]) else (false, (Xc n r q).2.1, (Xc n r q).2.2 ++ [((op, (((Xc n r q).2.2.length : Int) - 1), (((Xc n r q).2.2.length : Int) - 1), ⟨#[]⟩, NZ) : Qw)])
theorem Qao (n : Nat) (w : ByteArray) (r : List ByteArray) (q : List Qw) {op : Int} (h : op = 6 ∨ op = 7) : SC n (w, r, q) op = Qan n r q op := by rcases h with rfl | rfl <;> rfl
theorem SD {r r' : List ByteArray} {q q' : List Qw} (h : Pr r q r' q') : ∀ n, r.length < n → Xc n r q = (true, r', q') := by
  induction h with
  | all h =>
    intro n hn
    obtain ⟨m, rfl⟩ : ∃ m, n = m + 1 := ⟨n - 1, by omega⟩
    rw [Ga, Ho]
    dsimp only
    rw [h]
    rfl
  | nm h ho =>
    intro n hn
    obtain ⟨m, rfl⟩ : ∃ m, n = m + 1 := ⟨n - 1, by omega⟩
    rw [Ga, Ho]
    dsimp only
    rw [h]
    rcases ho with rfl | rfl | rfl <;> rfl
  | vl h ho hv =>
    intro n hn
    obtain ⟨m, rfl⟩ : ∃ m, n = m + 1 := ⟨n - 1, by omega⟩
    rw [Ga, Ho]
    dsimp only
    rw [h, ← hv]
    rcases ho with rfl | rfl <;> rfl
  | nt h h1 ih =>
    intro n hn
    obtain ⟨m, rfl⟩ : ∃ m, n = m + 1 := ⟨n - 1, by omega⟩
    simp only [List.length_cons] at hn
    rw [Ga, Ho]
    dsimp only
    rw [h]
    rw [Qam, ih m (by omega)]
  | tw h ho h1 h2 ih1 ih2 =>
    intro n hn
    obtain ⟨m, rfl⟩ : ∃ m, n = m + 1 := ⟨n - 1, by omega⟩
    simp only [List.length_cons] at hn
    have hl := h1.len
    have e1 := ih1 m (by omega)
    have e2 := ih2 m (by omega)
    rw [Ga, Ho]
    dsimp only
    rw [h, Qao _ _ _ _ ho]
    unfold Qan
    rw [e1]
    simp only [cond_true]
    rw [e2]
def Gd (q : List Qw) : Prop := ∀ x, x ∈ q → x.1 = 2 ∨ x.1 = 3 ∨ x.1 = 4 ∨ x.1 = 8 ∨ x.1 = 9 → 1 ≤ x.2.2.2.1.size
theorem Gd.left {q p : List Qw} (h : Gd (q ++ p)) : Gd q := fun x hx => h x (List.mem_append_left _ hx)
theorem Gd.last {q : List Qw} {x : Qw} (h : Gd (q ++ [x])) : x.1 = 2 ∨ x.1 = 3 ∨ x.1 = 4 ∨ x.1 = 8 ∨ x.1 = 9 → 1 ≤ x.2.2.2.1.size := h x (List.mem_append_right _ (List.mem_singleton.2 rfl))
theorem OD (w : ByteArray) : Fj w = 0 ∨ Fj w = 1 ∨ Fj w = 2 ∨ Fj w = 3 ∨ Fj w = 4 ∨ Fj w = 5 ∨ Fj w = 6 ∨ Fj w = 7 ∨ Fj w = 8 ∨ Fj w = 9 := by have := RZ w; omega
theorem VO {P : Prop} (h : 1 ≤ (⟨#[]⟩ : ByteArray).size) : P := absurd h (by decide)
theorem QM : ∀ (n : Nat) (r : List ByteArray) (q : List Qw) (r' : List ByteArray) (q' : List Qw), Xc n r q = (true, r', q') → Gd q' → Pr r q r' q'
  | 0, r, q, r', q', h, _ => by cases h
  | n + 1, [], q, r', q', h, _ => by
    rw [Ga, Ip] at h
    dsimp only at h
    rw [QF] at h
    cases h
  | n + 1, w :: r, q, r', q', h, hg => by
    rw [Ga, Ho] at h
    dsimp only at h
    have hnm : ∀ op : Int, Fj w = op → op = 2 ∨ op = 8 ∨ op = 9 → ((op != (0 : Int)), (Yd r q).2.1, (Yd r q).2.2 ++ [((op, 0, 0, (Yd r q).1, NZ) : Qw)]) = (true, r', q') → Pr (w :: r) q r' q' := fun op ho h9 h => by
      cases r with
      | nil =>
        rw [Ip] at h
        simp only [Prod.mk.injEq] at h
        obtain ⟨_, _, rfl⟩ := h
        exact VO (hg.last (by show op = 2 ∨ _; omega))
      | cons x r =>
        rw [Ho] at h
        simp only [Prod.mk.injEq] at h
        obtain ⟨_, rfl, rfl⟩ := h
        exact .nm ho h9
    have hvl : ∀ op : Int, Fj w = op → op = 3 ∨ op = 4 → ((Qn (Yd (Yd r q).2.1 (Yd r q).2.2).1).2, (Yd (Yd r q).2.1 (Yd r q).2.2).2.1, (Yd (Yd r q).2.1 (Yd r q).2.2).2.2 ++ [((op, 0, 0, (Yd r q).1, (Qn (Yd (Yd r q).2.1 (Yd r q).2.2).1).1) : Qw)]) = (true, r', q') → Pr (w :: r) q r' q' := fun op ho h9 h => by
      cases r with
      | nil =>
        rw [Ip] at h
        dsimp only at h
        rw [Ip, VN] at h
        cases h
      | cons x r =>
        rw [Ho] at h
        dsimp only at h
        cases r with
        | nil =>
          rw [Ip, VN] at h
          cases h
        | cons y r =>
          rw [Ho] at h
          simp only [Prod.mk.injEq] at h
          obtain ⟨hv, rfl, rfl⟩ := h
          exact .vl ho h9 hv
    have htw : ∀ op : Int, Fj w = op → op = 6 ∨ op = 7 → (bif (Xc n r q).1 then ((Xc n (Xc n r q).2.1 (Xc n r q).2.2).1, (Xc n (Xc n r q).2.1 (Xc n r q).2.2).2.1, (Xc n (Xc n r q).2.1 (Xc n r q).2.2).2.2 ++ [((op, (((Xc n r q).2.2.length : Int) - 1), (((Xc n (Xc n r q).2.1 (Xc n r q).2.2).2.2.length : Int) - 1), ⟨#[]⟩, NZ) : Qw)]) else (false, (Xc n r q).2.1, (Xc n r q).2.2 ++ [((op, (((Xc n r q).2.2.length : Int) - 1), (((Xc n r q).2.2.length : Int) - 1), ⟨#[]⟩, NZ) : Qw)])) = (true, r', q') → Pr (w :: r) q r' q' := fun op ho h9 h => by
      rcases h1 : Xc n r q with ⟨b1, r1, q1⟩
      rw [h1] at h
      dsimp only at h
      cases b1 with
      | false => cases h
      | true =>
        simp only [cond_true] at h
        rcases h2 : Xc n r1 q1 with ⟨b2, r2, q2⟩
        rw [h2] at h
        simp only [Prod.mk.injEq] at h
        obtain ⟨rfl, rfl, rfl⟩ := h
        have k2 := QM n r1 q1 r2 q2 h2 hg.left
        have hpre : Gd q1 := by
          obtain ⟨u, hu⟩ := pr_pre k2
          rw [hu] at hg
          exact hg.left.left
        exact .tw ho h9 (QM n r q r1 q1 h1 hpre) k2
    rcases OD w with e | e | e | e | e | e | e | e | e | e <;> rw [e] at h
    · cases h
    · obtain ⟨_, h⟩ := Prod.mk.inj h
      obtain ⟨rfl, rfl⟩ := Prod.mk.inj h
      exact .all e
    · exact hnm 2 e (by omega) h
    · exact hvl 3 e (by omega) h
    · exact hvl 4 e (by omega) h
    · rcases h1 : Xc n r q with ⟨b1, r1, q1⟩
      have h : ((Xc n r q).1, (Xc n r q).2.1, (Xc n r q).2.2 ++ [((5, (((Xc n r q).2.2.length : Int) - 1), 0, ⟨#[]⟩, NZ) : Qw)]) = (true, r', q') := h
      rw [h1] at h
      simp only [Prod.mk.injEq] at h
      obtain ⟨rfl, rfl, rfl⟩ := h
      exact .nt e (QM n r q r1 q1 h1 hg.left)
    · exact htw 6 e (by omega) h
    · exact htw 7 e (by omega) h
    · exact hnm 8 e (by omega) h
    exact hnm 9 e (by omega) h
where
  pr_pre {r r' : List ByteArray} {q q' : List Qw} (h : Pr r q r' q') : ∃ u, q' = q ++ u := by
    induction h with
    | all | nm | vl => exact ⟨_, rfl⟩
    | nt _ _ ih => obtain ⟨u, rfl⟩ := ih; exact ⟨_, List.append_assoc ..⟩
    | tw _ _ _ _ ih1 ih2 => obtain ⟨u, rfl⟩ := ih1; obtain ⟨u2, rfl⟩ := ih2; exact ⟨u ++ (u2 ++ _), by simp only [List.append_assoc]; rfl⟩
theorem Va {p r : List ByteArray} {w : ByteArray} {a : Nat} (h : p.drop a = w :: r) : Qh p (a : Int) = w ∧ p.drop (a + 1) = r ∧ a < p.length := by
  obtain ⟨h1, h2, h3⟩ := Bp h
  refine ⟨?_, h2, h3⟩
  unfold Qh
  rw [decide_eq_false (show ¬ (a : Int) ≥ (p.length : Int) by omega), cond_false, Int.toNat_natCast]
  unfold nth
  rw [List.getD_eq_getElem?_getD, h1]
  rfl
theorem Nm {p : List ByteArray} {a : Nat} (h : p.drop a = []) : Qh p (a : Int) = ⟨#[]⟩ := by
  have : p.length ≤ a := by
    have := congrArg List.length h
    rw [List.length_drop] at this
    simp only [List.length_nil] at this
    omega
  unfold Qh
  rw [decide_eq_true (show (a : Int) ≥ (p.length : Int) by omega), cond_true]
def Rm (n : Nat) (p : List ByteArray) (a : Int) (q : List Qw) (deep : Int) (y0 : Int) : (List Qw) × Int :=
  bif ((y0 == (0 : Int)) || (decide (deep > (9 : Int)) || decide ((q.length : Int) > (9 : Int)))) then (q, 0)
  else bif ((y0 == (2 : Int)) || ((y0 == (8 : Int)) || (y0 == (9 : Int)))) then (q ++ [((y0, 0, 0, (Qh p (a + 1)), NZ) : Qw)], 2)
  else bif ((y0 == (3 : Int)) || (y0 == (4 : Int))) then (q ++ [((y0, 0, 0, (Qh p (a + 1)), (Qn (Qh p (a + 2))).1) : Qw)], 3)
  else bif (Xf y0 5 7) then
    lt (Xt n p (a + 1) q (deep + 1)) fun x16 => bif (x16.2 == (0 : Int)) then (x16.1, 0) else bif (y0 != (5 : Int)) then
      lt (Xt n p (a + (1 + x16.2)) x16.1 (deep + 1)) fun x21 => bif (x21.2 == (0 : Int)) then (x21.1, 0) else (x21.1 ++ [((y0, ((x16.1.length : Int) - 1), ((x21.1.length : Int) - 1), ⟨#[]⟩, NZ) : Qw)], 1 + x16.2 + x21.2)
    else (x16.1 ++ [((y0, ((x16.1.length : Int) - 1), 0, ⟨#[]⟩, NZ) : Qw)], 1 + x16.2)
  else (q ++ [((y0, 0, 0, ⟨#[]⟩, NZ) : Qw)], 1)
theorem L3 (n : Nat) (p : List ByteArray) (a : Int) (q : List Qw) (deep : Int) (h0 : 0 ≤ a) (h1 : a ≤ 30) (hp : p.length ≤ 24) (hd : 0 ≤ deep) (hx : deep ≤ 10) : Xt (n + 1) p a q deep = Rm n p a q deep (Fj (Qh p a)) := by
  unfold Xt Rm lt
  rw [OA]
  simp only [Out.on]
  have hy := FF (p := p) (at_ := a)
  generalize Fj (Qh p a) = y0 at hy ⊢
  rw [IntWalk.i64_in (a + 1) (by omega), IntWalk.i64_in (a + 2) (by omega), IntWalk.i64_in (deep + 1) (by omega), Im]
  cases c0 : ((y0 == (0 : Int)) || (decide (deep > (9 : Int)) || decide ((q.length : Int) > (9 : Int)))) with
  | true => rfl
  | false =>
    obtain ⟨c1, c2⟩ := bo c0
    obtain ⟨c3, c4⟩ := bo c2
    have c3 := of_decide_eq_false c3
    have hlt := hy (ne_of_beq_false c1)
    have ih := B2 n p (a + 1) q (deep + 1) (by omega) (by omega) hp (by omega) (by omega)
    generalize Xt n p (a + 1) q (deep + 1) = x16 at ih ⊢
    have e1 : IntKind.i64.wrap (1 + x16.2) = 1 + x16.2 := IntWalk.i64_in _ (by omega)
    have e2 : IntKind.i64.wrap (a + (1 + x16.2)) = a + (1 + x16.2) := IntWalk.i64_in _ (by omega)
    rw [e1, e2]
    cases c5 : (x16.2 == (0 : Int)) with
    | true => rfl
    | false =>
      have c5 := ne_of_beq_false c5
      have ih2 := B2 n p (a + (1 + x16.2)) x16.1 (deep + 1) (by omega) (by omega) hp (by omega) (by omega)
      generalize Xt n p (a + (1 + x16.2)) x16.1 (deep + 1) = x21 at ih2 ⊢
      have e3 : IntKind.i64.wrap (1 + x16.2 + x21.2) = 1 + x16.2 + x21.2 := IntWalk.i64_in _ (by omega)
      rw [e3]
theorem SE {r r' : List ByteArray} {q q' : List Qw} (h : Pr r q r' q') : ∀ (n a : Nat) (p : List ByteArray) (deep : Nat), p.drop a = r → p.length ≤ 24 → q'.length + deep ≤ 9 → n + deep = 12 → Xt n p (a : Int) q (deep : Int) = (q', ((r.length - r'.length : Nat) : Int)) := by
  induction h with
  | @all w r q h =>
    intro n a p deep hr hp hq hn
    obtain ⟨m, rfl⟩ : ∃ m, n = m + 1 := ⟨n - 1, by omega⟩
    obtain ⟨e1, _, hlt⟩ := Va hr
    rw [List.length_append] at hq
    rw [L3 m p a q deep (by omega) (by omega) hp (by omega) (by omega), e1, h]
    unfold Rm
    rw [decide_eq_false (show ¬ (deep : Int) > 9 by omega), decide_eq_false (show ¬ (q.length : Int) > 9 by omega)]
    rw [show (w :: r).length - r.length = 1 by rw [List.length_cons]; omega]
    rfl
  | @nm w x r q op h ho =>
    intro n a p deep hr hp hq hn
    obtain ⟨m, rfl⟩ : ∃ m, n = m + 1 := ⟨n - 1, by omega⟩
    obtain ⟨e1, h2, hlt⟩ := Va hr
    obtain ⟨e2, _, _⟩ := Va h2
    rw [List.length_append] at hq
    rw [L3 m p a q deep (by omega) (by omega) hp (by omega) (by omega), e1, h]
    unfold Rm
    rw [decide_eq_false (show ¬ (deep : Int) > 9 by omega), decide_eq_false (show ¬ (q.length : Int) > 9 by omega)]
    rw [show (w :: x :: r).length - r.length = 2 by simp only [List.length_cons]; omega]
    rw [show ((a : Int) + 1) = ((a + 1 : Nat) : Int) from rfl, e2]
    rcases ho with rfl | rfl | rfl <;> rfl
  | @vl w x y r q op h ho hv =>
    intro n a p deep hr hp hq hn
    obtain ⟨m, rfl⟩ : ∃ m, n = m + 1 := ⟨n - 1, by omega⟩
    obtain ⟨e1, h2, hlt⟩ := Va hr
    obtain ⟨e2, h3, _⟩ := Va h2
    obtain ⟨e3, _, _⟩ := Va h3
    rw [List.length_append] at hq
    rw [L3 m p a q deep (by omega) (by omega) hp (by omega) (by omega), e1, h]
    unfold Rm
    rw [decide_eq_false (show ¬ (deep : Int) > 9 by omega), decide_eq_false (show ¬ (q.length : Int) > 9 by omega)]
    rw [show (w :: x :: y :: r).length - r.length = 3 by simp only [List.length_cons]; omega]
    rw [show ((a : Int) + 1) = ((a + 1 : Nat) : Int) from rfl, show ((a : Int) + 2) = ((a + 1 + 1 : Nat) : Int) from rfl, e2, e3]
    rcases ho with rfl | rfl <;> rfl
  | @nt w r r1 q q1 h h1 ih =>
    intro n a p deep hr hp hq hn
    obtain ⟨m, rfl⟩ : ∃ m, n = m + 1 := ⟨n - 1, by omega⟩
    obtain ⟨e1, h2, hlt⟩ := Va hr
    have hl := h1.len
    simp only [List.length_append, List.length_cons, List.length_nil] at hq
    have hi := ih m (a + 1) p (deep + 1) h2 hp (by omega) (by omega)
    rw [L3 m p a q deep (by omega) (by omega) hp (by omega) (by omega), e1, h]
    unfold Rm lt
    rw [decide_eq_false (show ¬ (deep : Int) > 9 by omega), decide_eq_false (show ¬ (q.length : Int) > 9 by omega)]
    rw [show ((a : Int) + 1) = ((a + 1 : Nat) : Int) from rfl, show ((deep : Int) + 1) = ((deep + 1 : Nat) : Int) from rfl, hi]
    have hk : (((r.length - r1.length : Nat) : Int) == (0 : Int)) = false := by
      cases hz : (((r.length - r1.length : Nat) : Int) == (0 : Int)) with
      | false => rfl
      | true => have := eq_of_beq hz; omega
    show (bif (((r.length - r1.length : Nat) : Int) == (0 : Int)) then _ else _) = _
    rw [hk, show (((w :: r).length - r1.length : Nat) : Int) = 1 + ((r.length - r1.length : Nat) : Int) by rw [List.length_cons]; omega]
    rfl
  | @tw w r r1 r2 q q1 q2 op h ho h1 h2 ih1 ih2 =>
    intro n a p deep hr hp hq hn
    obtain ⟨m, rfl⟩ : ∃ m, n = m + 1 := ⟨n - 1, by omega⟩
    obtain ⟨e1, hd, hlt⟩ := Va hr
    have hl1 := h1.len
    have hl2 := h2.len
    simp only [List.length_append, List.length_cons, List.length_nil] at hq
    have hi1 := ih1 m (a + 1) p (deep + 1) hd hp (by omega) (by omega)
    have hd1 : p.drop (a + (1 + (r.length - r1.length))) = r1 := by
      have e : p.drop (a + (1 + (r.length - r1.length))) = (p.drop (a + 1)).drop (r.length - r1.length) := by
        rw [List.drop_drop]
        congr 1
        omega
      rw [e, hd]
      exact h1.suf.symm
    have hi2 := ih2 m (a + (1 + (r.length - r1.length))) p (deep + 1) hd1 hp (by omega) (by omega)
    rw [L3 m p a q deep (by omega) (by omega) hp (by omega) (by omega), e1, h]
    have hk1 : (((r.length - r1.length : Nat) : Int) == (0 : Int)) = false := by
      cases hz : (((r.length - r1.length : Nat) : Int) == (0 : Int)) with
      | false => rfl
      | true => have := eq_of_beq hz; omega
    have hk2 : (((r1.length - r2.length : Nat) : Int) == (0 : Int)) = false := by
      cases hz : (((r1.length - r2.length : Nat) : Int) == (0 : Int)) with
      | false => rfl
      | true => have := eq_of_beq hz; omega
    have hK : Rm m p (a : Int) q (deep : Int) op = (bif (((r.length - r1.length : Nat) : Int) == (0 : Int)) then (q1, 0) else (bif (((r1.length - r2.length : Nat) : Int) == (0 : Int)) then (q2, 0) else (q2 ++ [((op, ((q1.length : Int) - 1), ((q2.length : Int) - 1), ⟨#[]⟩, NZ) : Qw)], 1 + ((r.length - r1.length : Nat) : Int) + ((r1.length - r2.length : Nat) : Int)))) := by
      unfold Rm lt
      rw [decide_eq_false (show ¬ (deep : Int) > 9 by omega), decide_eq_false (show ¬ (q.length : Int) > 9 by omega)]
      rw [show ((a : Int) + 1) = ((a + 1 : Nat) : Int) from rfl, show ((deep : Int) + 1) = ((deep + 1 : Nat) : Int) from rfl, hi1]
      dsimp only
      rw [show ((a : Int) + (1 + ((r.length - r1.length : Nat) : Int))) = ((a + (1 + (r.length - r1.length)) : Nat) : Int) by omega, hi2]
      rcases ho with rfl | rfl <;> rfl
    rw [hK, hk1, hk2, show (((w :: r).length - r2.length : Nat) : Int) = 1 + ((r.length - r1.length : Nat) : Int) + ((r1.length - r2.length : Nat) : Int) by rw [List.length_cons]; omega]
    rfl
def Gs (q : List Qw) : Prop := Gd q ∧ ∀ x, x ∈ q → x.1 = 3 ∨ x.1 = 4 → x.2.2.2.2.1 ≠ 0
theorem Gs.left {q p : List Qw} (h : Gs (q ++ p)) : Gs q := ⟨h.1.left, fun x hx => h.2 x (List.mem_append_left _ hx)⟩
theorem SF {s : ByteArray} (h : (Qn s).1.1 ≠ 0) : (Qn s).2 = true := by
  cases hb : (Qn s).2 with
  | true => rfl
  | false =>
    refine absurd ?_ h
    revert hb
    unfold Qn
    cases (Qg s).2 with
    | true =>
      simp only [cond_true]
      cases Qt (Zo (Qg s).1) with
      | false => intro _; rfl
      | true => intro h; cases h
    | false =>
      simp only [cond_false]
      cases (s.toList == (⟨#[45]⟩ : ByteArray).toList) with
      | false =>
        simp only [Bool.not_false, cond_true]
        cases Qt (Yw s) with
        | false => intro _; rfl
        | true => intro h; cases h
      | true =>
        simp only [Bool.not_true, cond_false]
        cases Qt (0, 0, ⟨#[]⟩) with
        | false => intro _; rfl
        | true => intro h; cases h
theorem MB {r r' : List ByteArray} {q q' : List Qw} (h : Pr r q r' q') : ∃ u, q' = q ++ u := by
  induction h with
  | all | nm | vl => exact ⟨_, rfl⟩
  | nt _ _ ih => obtain ⟨u, rfl⟩ := ih; exact ⟨_, List.append_assoc ..⟩
  | tw _ _ _ _ ih1 ih2 => obtain ⟨u, rfl⟩ := ih1; obtain ⟨u2, rfl⟩ := ih2; exact ⟨u ++ (u2 ++ _), by simp only [List.append_assoc]; rfl⟩
theorem QN : ∀ (n a : Nat) (p : List ByteArray) (q : List Qw) (deep : Nat) (q' : List Qw) (k : Int), Xt n p (a : Int) q (deep : Int) = (q', k) → k ≠ 0 → Gs q' → a ≤ 30 → p.length ≤ 24 → deep ≤ 10 → ∃ j : Nat, k = (j : Int) ∧ Pr (p.drop a) q (p.drop (a + j)) q' ∧ a + j ≤ p.length
  | 0, a, p, q, deep, q', k, h, hk, _, _, _, _ => by
    obtain ⟨_, rfl⟩ := Prod.mk.inj h
    exact absurd rfl hk
  | n + 1, a, p, q, deep, q', k, h, hk, hg, ha, hp, hd => by
    rw [L3 n p a q deep (by omega) (by omega) hp (by omega) (by omega)] at h
    cases hr : p.drop a with
    | nil =>
      rw [Nm hr, QF] at h
      obtain ⟨_, rfl⟩ := Prod.mk.inj (show (q, (0 : Int)) = (q', k) from h)
      exact absurd rfl hk
    | cons w r =>
    obtain ⟨e1, hr1, hlt⟩ := Va hr
    rw [e1] at h
    have hnz : ∀ {c : Bool} {X : (List Qw) × Int}, (bif c then (q, (0 : Int)) else X) = (q', k) → X = (q', k) := fun {c} {X} h => by
      cases c with
      | false => exact h
      | true => obtain ⟨_, rfl⟩ := Prod.mk.inj (show (q, (0 : Int)) = (q', k) from h); exact absurd rfl hk
    have hd9 : deep ≤ 9 := by
      refine Classical.byContradiction fun hc => ?_
      unfold Rm at h
      rw [decide_eq_true (show (deep : Int) > 9 by omega), Bool.true_or, Bool.or_true, cond_true] at h
      obtain ⟨_, rfl⟩ := Prod.mk.inj h
      exact hk rfl
    have hnm : ∀ op : Int, Fj w = op → op = 2 ∨ op = 8 ∨ op = 9 → (q ++ [((op, 0, 0, (Qh p ((a : Int) + 1)), NZ) : Qw)], (2 : Int)) = (q', k) → ∃ j : Nat, k = (j : Int) ∧ Pr (w :: r) q (p.drop (a + j)) q' ∧ a + j ≤ p.length := fun op ho h9 h => by
      obtain ⟨rfl, rfl⟩ := Prod.mk.inj h
      rw [show ((a : Int) + 1) = ((a + 1 : Nat) : Int) from rfl] at hg ⊢
      cases hr2 : p.drop (a + 1) with
      | nil =>
        rw [Nm hr2] at hg
        exact VO (hg.1.last (by show op = 2 ∨ _; omega))
      | cons x r2 =>
        obtain ⟨e2, hr3, hlt2⟩ := Va hr2
        rw [e2, ← hr1, hr2]
        refine ⟨2, rfl, ?_, by omega⟩
        rw [show a + 2 = a + 1 + 1 from rfl, hr3]
        exact .nm ho h9
    have hvl : ∀ op : Int, Fj w = op → op = 3 ∨ op = 4 → (q ++ [((op, 0, 0, (Qh p ((a : Int) + 1)), (Qn (Qh p ((a : Int) + 2))).1) : Qw)], (3 : Int)) = (q', k) → ∃ j : Nat, k = (j : Int) ∧ Pr (w :: r) q (p.drop (a + j)) q' ∧ a + j ≤ p.length := fun op ho h9 h => by
      obtain ⟨rfl, rfl⟩ := Prod.mk.inj h
      rw [show ((a : Int) + 1) = ((a + 1 : Nat) : Int) from rfl, show ((a : Int) + 2) = ((a + 1 + 1 : Nat) : Int) from rfl] at hg ⊢
      have hv := SF (hg.2 _ (List.mem_append_right _ (List.mem_singleton.2 rfl)) h9)
      cases hr2 : p.drop (a + 1) with
      | nil =>
        rw [Nm hr2] at hg
        exact VO (hg.1.last (by show op = 2 ∨ _; omega))
      | cons x r2 =>
        obtain ⟨e2, hr3, hlt2⟩ := Va hr2
        cases hr4 : p.drop (a + 1 + 1) with
        | nil =>
          rw [Nm hr4, VN] at hv
          cases hv
        | cons y r4 =>
          obtain ⟨e3, hr5, hlt3⟩ := Va hr4
          rw [e3] at hv
          rw [e2, e3, ← hr1, hr2, ← hr3, hr4]
          refine ⟨3, rfl, ?_, by omega⟩
          rw [show a + 3 = a + 1 + 1 + 1 from rfl, hr5]
          exact .vl ho h9 hv
    have hin : ∀ op : Int, Fj w = op → op = 5 ∨ op = 6 ∨ op = 7 → (lt (Xt n p ((a : Int) + 1) q ((deep : Int) + 1)) fun x16 => bif (x16.2 == (0 : Int)) then (x16.1, 0) else bif (op != (5 : Int)) then lt (Xt n p ((a : Int) + (1 + x16.2)) x16.1 ((deep : Int) + 1)) fun x21 => bif (x21.2 == (0 : Int)) then (x21.1, 0) else (x21.1 ++ [((op, ((x16.1.length : Int) - 1), ((x21.1.length : Int) - 1), ⟨#[]⟩, NZ) : Qw)], 1 + x16.2 + x21.2) else (x16.1 ++ [((op, ((x16.1.length : Int) - 1), 0, ⟨#[]⟩, NZ) : Qw)], 1 + x16.2)) = (q', k) → ∃ j : Nat, k = (j : Int) ∧ Pr (w :: r) q (p.drop (a + j)) q' ∧ a + j ≤ p.length := fun op ho h9 h => by
      rw [show ((a : Int) + 1) = ((a + 1 : Nat) : Int) from rfl, show ((deep : Int) + 1) = ((deep + 1 : Nat) : Int) from rfl] at h
      rcases h1 : Xt n p ((a + 1 : Nat) : Int) q ((deep + 1 : Nat) : Int) with ⟨q1, k1⟩
      rw [h1] at h
      have h : (bif (k1 == (0 : Int)) then (q1, (0 : Int)) else bif (op != (5 : Int)) then lt (Xt n p ((a : Int) + (1 + k1)) q1 ((deep + 1 : Nat) : Int)) fun x21 => bif (x21.2 == (0 : Int)) then (x21.1, 0) else (x21.1 ++ [((op, ((q1.length : Int) - 1), ((x21.1.length : Int) - 1), ⟨#[]⟩, NZ) : Qw)], 1 + k1 + x21.2) else (q1 ++ [((op, ((q1.length : Int) - 1), 0, ⟨#[]⟩, NZ) : Qw)], 1 + k1)) = (q', k) := h
      cases hk1 : (k1 == (0 : Int)) with
      | true =>
        rw [hk1] at h
        obtain ⟨_, rfl⟩ := Prod.mk.inj (show (q1, (0 : Int)) = (q', k) from h)
        exact absurd rfl hk
      | false =>
        rw [hk1, cond_false] at h
        have hk1 := ne_of_beq_false hk1
        rcases h9 with rfl | h9
        · have h : (q1 ++ [((5, ((q1.length : Int) - 1), 0, ⟨#[]⟩, NZ) : Qw)], 1 + k1) = (q', k) := h
          obtain ⟨rfl, rfl⟩ := Prod.mk.inj h
          obtain ⟨j, rfl, hP, hj⟩ := QN n (a + 1) p q (deep + 1) q1 k1 h1 hk1 hg.left (by omega) hp (by omega)
          refine ⟨1 + j, by omega, ?_, by omega⟩
          rw [hr1] at hP
          rw [show a + (1 + j) = a + 1 + j by omega]
          exact .nt ho hP
        rw [show (op != (5 : Int)) = true by rcases h9 with rfl | rfl <;> rfl, cond_true] at h
        rcases h2 : Xt n p ((a : Int) + (1 + k1)) q1 ((deep + 1 : Nat) : Int) with ⟨q2, k2⟩
        rw [h2] at h
        have h : (bif (k2 == (0 : Int)) then (q2, (0 : Int)) else (q2 ++ [((op, ((q1.length : Int) - 1), ((q2.length : Int) - 1), ⟨#[]⟩, NZ) : Qw)], 1 + k1 + k2)) = (q', k) := h
        cases hk2 : (k2 == (0 : Int)) with
        | true =>
          rw [hk2] at h
          obtain ⟨_, rfl⟩ := Prod.mk.inj (show (q2, (0 : Int)) = (q', k) from h)
          exact absurd rfl hk
        | false =>
          rw [hk2, cond_false] at h
          have hk2 := ne_of_beq_false hk2
          obtain ⟨rfl, rfl⟩ := Prod.mk.inj h
          have hl := B2 n p ((a + 1 : Nat) : Int) q ((deep + 1 : Nat) : Int) (by omega) (by omega) hp (by omega) (by omega)
          rw [h1] at hl
          obtain ⟨j1, rfl⟩ := Int.eq_ofNat_of_zero_le (show 0 ≤ k1 from hl.2.1)
          have hl3 : ((j1 : Int) = 0 ∨ ((a + 1 : Nat) : Int) + (j1 : Int) ≤ (p.length : Int) + 2) := hl.2.2
          rw [show ((a : Int) + (1 + (j1 : Int))) = ((a + (1 + j1) : Nat) : Int) by omega] at h2
          obtain ⟨j2, rfl, hP2, hj2⟩ := QN n (a + (1 + j1)) p q1 (deep + 1) q2 k2 h2 hk2 hg.left (by omega) hp (by omega)
          have hg1 : Gs q1 := by
            obtain ⟨u, hu⟩ := MB hP2
            rw [hu] at hg
            exact hg.left.left
          obtain ⟨j3, e3, hP1, hj1⟩ := QN n (a + 1) p q (deep + 1) q1 (j1 : Int) h1 hk1 hg1 (by omega) hp (by omega)
          obtain rfl : j1 = j3 := by omega
          refine ⟨1 + j1 + j2, by omega, ?_, by omega⟩
          rw [hr1] at hP1
          rw [show a + (1 + j1) = a + 1 + j1 by omega] at hP2
          rw [show a + (1 + j1 + j2) = a + 1 + j1 + j2 by omega]
          exact .tw ho h9 hP1 hP2
    rcases OD w with e | e | e | e | e | e | e | e | e | e <;> rw [e] at h <;> unfold Rm at h
    · obtain ⟨_, rfl⟩ := Prod.mk.inj (show (q, (0 : Int)) = (q', k) from h)
      exact absurd rfl hk
    · have h := hnz h
      obtain ⟨rfl, rfl⟩ := Prod.mk.inj (show (q ++ [((1, 0, 0, ⟨#[]⟩, NZ) : Qw)], (1 : Int)) = (q', k) from h)
      refine ⟨1, rfl, ?_, by omega⟩
      rw [hr1]
      exact .all e
    · exact hnm 2 e (by omega) (hnz h)
    · exact hvl 3 e (by omega) (hnz h)
    · exact hvl 4 e (by omega) (hnz h)
    · exact hin 5 e (by omega) (hnz h)
    · exact hin 6 e (by omega) (hnz h)
    · exact hin 7 e (by omega) (hnz h)
    · exact hnm 8 e (by omega) (hnz h)
    exact hnm 9 e (by omega) (hnz h)
theorem Da {s : ByteArray} (h : (decide (1 ≤ s.size) && s.data.toList.all fun b => decide (33 ≤ b.toNat) && decide (b.toNat ≤ 126)) = true) : Word s := by
  simp only [Bool.and_eq_true, decide_eq_true_eq, List.all_eq_true] at h
  exact ⟨h.1, h.2⟩
theorem SG {op : Int} (h : 1 ≤ op ∧ op ≤ 9) : Word (Qo op) := by
  rcases Nj (Jn.2 h) with rfl | rfl | rfl | rfl | rfl | rfl | rfl | rfl | rfl <;> exact Da (by decide)
theorem QO {n : Qw} {k : Int} (h : Ym n k = true) : (n.1 = 2 ∨ n.1 = 3 ∨ n.1 = 4 → Qs n.2.2.2.1 = true) ∧ (n.1 = 8 ∨ n.1 = 9 → Qy n.2.2.2.1 = true) ∧ (n.1 = 3 ∨ n.1 = 4 → Qt n.2.2.2.2 = true ∧ n.2.2.2.2.1 ≠ 0) ∧ (1 ≤ n.1 ∧ n.1 ≤ 9) := by
  unfold Ym at h
  cases h1 : (n.1 == (1 : Int)) with
  | true => have e := eq_of_beq h1; exact ⟨fun _ => by omega, fun _ => by omega, fun _ => by omega, by omega⟩
  | false =>
  cases h2 : (n.1 == (2 : Int)) with
  | true =>
    have e := eq_of_beq h2
    simp only [h1, h2, cond_true, cond_false, Bool.and_eq_true] at h
    exact ⟨fun _ => h.2, fun _ => by omega, fun _ => by omega, by omega⟩
  | false =>
  cases h3 : (n.1 == (3 : Int)) with
  | true =>
    have e := eq_of_beq h3
    simp only [h1, h2, h3, cond_true, cond_false, Bool.and_eq_true, bne_iff_ne] at h
    exact ⟨fun _ => h.2.1, fun _ => by omega, fun _ => ⟨h.2.2.1, h.2.2.2.1⟩, by omega⟩
  | false =>
  cases h4 : (n.1 == (4 : Int)) with
  | true =>
    have e := eq_of_beq h4
    simp only [h1, h2, h3, h4, cond_true, cond_false, Bool.and_eq_true, bne_iff_ne] at h
    exact ⟨fun _ => h.2.1, fun _ => by omega, fun _ => ⟨h.2.2.1, h.2.2.2.1⟩, by omega⟩
  | false =>
  cases h5 : (n.1 == (5 : Int)) with
  | true => have e := eq_of_beq h5; exact ⟨fun _ => by omega, fun _ => by omega, fun _ => by omega, by omega⟩
  | false =>
  cases h6 : (n.1 == (6 : Int)) with
  | true => have e := eq_of_beq h6; exact ⟨fun _ => by omega, fun _ => by omega, fun _ => by omega, by omega⟩
  | false =>
  cases h7 : (n.1 == (7 : Int)) with
  | true => have e := eq_of_beq h7; exact ⟨fun _ => by omega, fun _ => by omega, fun _ => by omega, by omega⟩
  | false =>
  cases h8 : (n.1 == (8 : Int)) with
  | true =>
    have e := eq_of_beq h8
    simp only [h1, h2, h3, h4, h5, h6, h7, h8, cond_true, cond_false, Bool.and_eq_true] at h
    exact ⟨fun _ => by omega, fun _ => h.2, fun _ => by omega, by omega⟩
  | false =>
  cases h9 : (n.1 == (9 : Int)) with
  | true =>
    have e := eq_of_beq h9
    simp only [h1, h2, h3, h4, h5, h6, h7, h8, h9, cond_true, cond_false, Bool.and_eq_true] at h
    exact ⟨fun _ => by omega, fun _ => h.2, fun _ => by omega, by omega⟩
  | false =>
    simp only [h1, h2, h3, h4, h5, h6, h7, h8, h9, cond_false] at h
    cases h
theorem FI {q : List Qw} (h : Qk q = true) : Gs q := by
  have hn : ∀ x, x ∈ q → ∃ k : Int, Ym x k = true := fun x hx => by
    obtain ⟨i, hi⟩ := List.getElem?_of_mem hx
    exact ⟨_, Ty h hi⟩
  refine ⟨fun x hx ho => ?_, fun x hx ho => ?_⟩
  · obtain ⟨k, hk⟩ := hn x hx
    obtain ⟨f1, f2, _, _⟩ := QO hk
    by_cases h8 : x.1 = 8 ∨ x.1 = 9
    · exact (Bz (f2 h8)).1
    have := T7 (f1 (by omega)); omega
  obtain ⟨k, hk⟩ := hn x hx
  exact ((QO hk).2.2.1 ho).2
/-! ### a query's words -/
def qw : Nat → List Qw → Int → List ByteArray
  | 0, _, _ => []
  | n + 1, q, k => bif ((nth q (Int.toNat k)).1 == (2 : Int)) || ((nth q (Int.toNat k)).1 == (8 : Int)) || ((nth q (Int.toNat k)).1 == (9 : Int)) then [Qo (nth q (Int.toNat k)).1, (nth q (Int.toNat k)).2.2.2.1]
    else bif ((nth q (Int.toNat k)).1 == (3 : Int)) || ((nth q (Int.toNat k)).1 == (4 : Int)) then [Qo (nth q (Int.toNat k)).1, (nth q (Int.toNat k)).2.2.2.1, Xe (nth q (Int.toNat k)).2.2.2.2]
    else bif ((nth q (Int.toNat k)).1 == (5 : Int)) then [Qo (nth q (Int.toNat k)).1] ++ qw n q (nth q (Int.toNat k)).2.1
    else bif ((nth q (Int.toNat k)).1 == (6 : Int)) || ((nth q (Int.toNat k)).1 == (7 : Int)) then [Qo (nth q (Int.toNat k)).1] ++ (qw n q (nth q (Int.toNat k)).2.1 ++ qw n q (nth q (Int.toNat k)).2.2.1)
    else [Qo (nth q (Int.toNat k)).1]
theorem AS {a : ByteArray} {l : List ByteArray} (h : l ≠ []) : Q6 ⟨#[32]⟩ ([a] ++ l) = Q6 ⟨#[32]⟩ [a, Q6 ⟨#[32]⟩ l] := by
  rw [H1 _ (fun e => by cases e) h, Zd, Zy]
theorem AT {a : ByteArray} {l m : List ByteArray} (h : l ≠ []) (h' : m ≠ []) : Q6 ⟨#[32]⟩ ([a] ++ (l ++ m)) = Q6 ⟨#[32]⟩ [a, Q6 ⟨#[32]⟩ l, Q6 ⟨#[32]⟩ m] := by
  rw [H1 _ (fun e => by cases e) (by simp [h]), Zd, H1 _ h h', Zq]
  simp only [ByteArray.append_assoc]
theorem FJ : ∀ (n : Nat) {q : List Qw} (_ : Qk q = true) {k : Nat} (_ : k < q.length) (_ : k < n), Xn n q (k : Int) = Q6 ⟨#[32]⟩ (qw n q (k : Int)) ∧ qw n q (k : Int) ≠ [] ∧ ∀ y, y ∈ qw n q (k : Int) → Word y ∧ y.size ≤ 10
  | 0, q, hv, k, hk, hn => by omega
  | n + 1, q, hv, k, hk, hn => by
    have hnode := Ty hv (Fu hk)
    obtain ⟨f1, f2, f3, f4⟩ := QO hnode
    have hop := SG f4
    have hob := ET (nth q k).1
    have ka := BB hv (k := (k : Int)) (by omega) (by omega)
    have kb := BC hv (k := (k : Int)) (by omega) (by omega)
    have kc := DQ hv (k := (k : Int)) (by omega) (by omega)
    have kd := BD hv (k := (k : Int)) (by omega) (by omega)
    have ke := DR hv (k := (k : Int)) (by omega) (by omega)
    have kid : ∀ j : Int, 0 ≤ j ∧ j < (k : Int) → Xn n q j = Q6 ⟨#[32]⟩ (qw n q j) ∧ qw n q j ≠ [] ∧ ∀ y, y ∈ qw n q j → Word y ∧ y.size ≤ 10 := fun j hj => by
      obtain ⟨m, rfl⟩ := Int.eq_ofNat_of_zero_le hj.1
      exact FJ n hv (by omega) (by omega)
    unfold Xn qw
    rw [Int.toNat_natCast] at ka kb kc kd ke ⊢
    generalize nth q k = x at *
    have one : ∀ y, y ∈ [Qo x.1] → Word y ∧ y.size ≤ 10 := fun y hy => by rw [List.mem_singleton.1 hy]; exact ⟨hop, by omega⟩
    have two : Word x.2.2.2.1 ∧ x.2.2.2.1.size ≤ 10 → ∀ y, y ∈ [Qo x.1, x.2.2.2.1] → Word y ∧ y.size ≤ 10 := fun hx y hy => by
      rcases List.mem_cons.1 hy with rfl | hy
      · exact one _ (List.mem_singleton.2 rfl)
      rw [List.mem_singleton.1 hy]; exact hx
    have hat : Qs x.2.2.2.1 = true → Word x.2.2.2.1 ∧ x.2.2.2.1.size ≤ 10 := fun h => ⟨P1 h, by rw [T7 h]; decide⟩
    have hst : Qy x.2.2.2.1 = true → Word x.2.2.2.1 ∧ x.2.2.2.1.size ≤ 10 := fun h => ⟨QK h, by have := Bz h; omega⟩
    cases h2 : (x.1 == (2 : Int)) with
    | true => exact ⟨rfl, List.cons_ne_nil _ _, two (hat (f1 (.inl (eq_of_beq h2))))⟩
    | false =>
    cases h8 : (x.1 == (8 : Int)) with
    | true => exact ⟨rfl, List.cons_ne_nil _ _, two (hst (f2 (.inl (eq_of_beq h8))))⟩
    | false =>
    cases h9 : (x.1 == (9 : Int)) with
    | true => exact ⟨rfl, List.cons_ne_nil _ _, two (hst (f2 (.inr (eq_of_beq h9))))⟩
    | false =>
    have val : x.1 = 3 ∨ x.1 = 4 → ∀ y, y ∈ [Qo x.1, x.2.2.2.1, Xe x.2.2.2.2] → Word y ∧ y.size ≤ 10 := fun h y hy => by
      rcases List.mem_cons.1 hy with rfl | hy
      · exact one _ (List.mem_singleton.2 rfl)
      rcases List.mem_cons.1 hy with rfl | hy
      · exact hat (f1 (.inr h))
      rw [List.mem_singleton.1 hy]; exact ⟨UW (f3 h).1 (f3 h).2, VK _⟩
    cases h3 : (x.1 == (3 : Int)) with
    | true => exact ⟨rfl, List.cons_ne_nil _ _, val (.inl (eq_of_beq h3))⟩
    | false =>
    cases h4 : (x.1 == (4 : Int)) with
    | true => exact ⟨rfl, List.cons_ne_nil _ _, val (.inr (eq_of_beq h4))⟩
    | false =>
    cases h5 : (x.1 == (5 : Int)) with
    | true =>
      obtain ⟨g1, g2, g3⟩ := kid _ (ka h5)
      refine ⟨?_, fun e => by simp at e, fun y hy => ?_⟩
      · show Q6 _ [_, Xn n q x.2.1] = Q6 _ ([_] ++ qw n q x.2.1)
        rw [AS g2, g1]
      exact (List.mem_append.1 (show y ∈ [Qo x.1] ++ qw n q x.2.1 from hy)).elim (one y) (g3 y)
    | false =>
    have both : (0 ≤ x.2.1 ∧ x.2.1 < (k : Int)) → (0 ≤ x.2.2.1 ∧ x.2.2.1 < (k : Int)) → Q6 ⟨#[32]⟩ [Qo x.1, Xn n q x.2.1, Xn n q x.2.2.1] = Q6 ⟨#[32]⟩ ([Qo x.1] ++ (qw n q x.2.1 ++ qw n q x.2.2.1)) ∧ ([Qo x.1] ++ (qw n q x.2.1 ++ qw n q x.2.2.1)) ≠ [] ∧ ∀ y, y ∈ [Qo x.1] ++ (qw n q x.2.1 ++ qw n q x.2.2.1) → Word y ∧ y.size ≤ 10 := fun hl hr => by
      obtain ⟨g1, g2, g3⟩ := kid _ hl
      obtain ⟨e1, e2, e3⟩ := kid _ hr
      refine ⟨by rw [AT g2 e2, g1, e1], fun e => by simp at e, fun y hy => ?_⟩
      exact (List.mem_append.1 hy).elim (one y) fun hy => (List.mem_append.1 hy).elim (g3 y) (e3 y)
    cases h6 : (x.1 == (6 : Int)) with
    | true => exact both (kb h6) (kd h6)
    | false =>
    cases h7 : (x.1 == (7 : Int)) with
    | true => exact both (kc h7) (ke h7)
    | false => exact ⟨by show Q6 _ [_] = Q6 _ [_]; rfl, List.cons_ne_nil _ _, one⟩
def qws (q : List Qw) : List ByteArray := qw q.length q ((q.length : Int) - 1)
theorem Mj {q : List Qw} (hv : Qk q = true) : Qv q = Q6 ⟨#[32]⟩ (qws q) ∧ qws q ≠ [] ∧ ∀ y, y ∈ qws q → Word y ∧ y.size ≤ 10 := by
  have hl := Df hv
  unfold Qv qws
  rw [hv, show ((q.length : Int) - 1) = ((q.length - 1 : Nat) : Int) by omega]
  exact FJ q.length hv (by omega) (by omega)
/-! ### reading a query's text -/
theorem VP {l : List ByteArray} (h : ∀ y, y ∈ l → Word y) (hl : ¬ (l.length ≤ 24 ∧ (Q6 ⟨#[32]⟩ l).size ≤ 600)) : Xd (Q6 ⟨#[32]⟩ l) = ([], false) := by
  unfold Xd
  cases hc : decide (((Q6 ⟨#[32]⟩ l).size : Int) > (600 : Int)) with
  | true => rfl
  | false =>
    have hc := of_decide_eq_false hc
    simp only [cond_false]
    have h2 := ZD (Q6 ⟨#[32]⟩ l) (Q6 ⟨#[32]⟩ l).data.toList 0 rfl
    rw [Uw] at h2
    rw [show Int.toNat (ByteArray.size (Q6 ⟨#[32]⟩ l) : Int) = (Q6 ⟨#[32]⟩ l).size by omega, h2]
    have ha : (Q6 ⟨#[32]⟩ l).data.toList.all Ap = true := List.all_eq_true.2 fun b hb => by
      have := Lw h b hb
      unfold Ap
      simp only [Bool.and_eq_true, decide_eq_true_eq]
      exact this
    rw [ha, F9 h]
    simp only [if_true, Out.on]
    rw [decide_eq_true (show (l.length : Int) > 24 by omega)]
    rfl
theorem Qbv {q : List Qw} (h : Qk q = true) : q ≠ [] := fun e => by have := Df h; rw [e] at this; simp at this
theorem Qbw {q : List Qw} (hv : Qk q = true) (h : Xr (Qv q) = (q, true)) : Pr (qws q) [] [] q ∧ ((qws q).length ≤ 24 ∧ (Qv q).size ≤ 600) := by
  obtain ⟨h1, h2, h3⟩ := Mj hv
  rw [h1] at h ⊢
  have hW : ∀ y, y ∈ qws q → Word y := fun y hy => (h3 y hy).1
  by_cases hs : (qws q).length ≤ 24 ∧ (Q6 ⟨#[32]⟩ (qws q)).size ≤ 600
  · refine ⟨?_, hs⟩
    unfold Xr lt at h
    rw [Ij hW hs.1 hs.2] at h
    dsimp only at h
    rcases hn : Xc ((qws q).length + 1) (qws q) [] with ⟨b, r, q2⟩
    rw [hn] at h
    simp only [Bool.not_true, cond_false] at h
    cases hc : ((!b) || (decide ((r.length : Int) > (0 : Int)) || (!(Qk q2)))) with
    | true => rw [hc] at h; obtain ⟨_, h⟩ := Prod.mk.inj (show (([] : List Qw), false) = (q, true) from h); cases h
    | false =>
      rw [hc] at h
      obtain ⟨rfl, _⟩ := Prod.mk.inj (show (q2, true) = (q, true) from h)
      obtain ⟨c1, c2⟩ := bo hc
      obtain ⟨c3, _⟩ := bo c2
      have c3 := of_decide_eq_false c3
      obtain rfl : r = [] := List.eq_nil_of_length_eq_zero (by omega)
      obtain rfl := bn c1
      exact QM _ _ _ _ _ hn (FI hv).1
  unfold Xr at h
  rw [VP hW hs] at h
  obtain ⟨_, h⟩ := Prod.mk.inj (show (([] : List Qw), false) = (q, true) from h)
  cases h
theorem Qbx {q : List Qw} (hv : Qk q = true) (h : Pr (qws q) [] [] q) (hs : (qws q).length ≤ 24 ∧ (Qv q).size ≤ 600) : Xr (Qv q) = (q, true) := by
  obtain ⟨h1, h2, h3⟩ := Mj hv
  rw [h1] at hs ⊢
  unfold Xr lt
  rw [Ij (fun y hy => (h3 y hy).1) hs.1 hs.2]
  dsimp only
  rw [SD h _ (Nat.lt_succ_self _)]
  simp only [Bool.not_true, cond_false, hv]
  rfl
theorem Qap {q : List Qw} (hv : Qk q = true) (h : Pr (qws q) [] [] q) (hs : (qws q).length ≤ 24 ∧ (Qv q).size ≤ 600) : X7 (Qv q) = (q, true) := by
  obtain ⟨h1, h2, h3⟩ := Mj hv
  have hl := Df hv
  have hr := SE h 12 0 (qws q) 0 rfl hs.1 (by omega) rfl
  have hne : (Qv q).toList == (⟨#[]⟩ : ByteArray).toList ↔ False := by
    refine ⟨fun e => ?_, False.elim⟩
    have e := Up e
    obtain ⟨y, ys, hy⟩ := List.exists_cons_of_ne_nil h2
    have hw := (h3 y (by rw [hy]; exact List.mem_cons_self ..)).1
    have hsz : (Q6 ⟨#[32]⟩ (qws q)).size = 0 := by rw [← h1, e]; rfl
    rw [hy] at hsz
    cases ys with
    | nil => rw [Zd] at hsz; have := hw.1; omega
    | cons z zs => rw [Jh, ByteArray.size_append, ByteArray.size_append] at hsz; have := hw.1; omega
  unfold X7 lt
  rw [EX, h1, Ij (fun y hy => (h3 y hy).1) hs.1 (by rw [← h1]; exact hs.2)]
  dsimp only
  rw [show (0 : Int) = ((0 : Nat) : Int) from rfl, hr]
  dsimp only
  rw [RW, Sv, ← h1, beq_self_eq_true, show (((Qv q).toList == (⟨#[]⟩ : ByteArray).toList) = false) from Bool.eq_false_iff.2 fun e => hne.1 e]
  rw [show ((((qws q).length - ([] : List ByteArray).length : Nat) : Int) != ((qws q).length : Int)) = false from bne_eq_false_iff_eq.2 (by simp)]
  rfl
theorem Qaq {q : List Qw} (hv : Qk q = true) (h : (X7 (Qv q)).1 = q) : Pr (qws q) [] [] q ∧ ((qws q).length ≤ 24 ∧ (Qv q).size ≤ 600) := by
  obtain ⟨h1, h2, h3⟩ := Mj hv
  have hne := Qbv hv
  have hW : ∀ y, y ∈ qws q → Word y := fun y hy => (h3 y hy).1
  rw [h1] at h ⊢
  unfold X7 lt at h
  rw [EX] at h
  by_cases hs : (qws q).length ≤ 24 ∧ (Q6 ⟨#[32]⟩ (qws q)).size ≤ 600
  · refine ⟨?_, hs⟩
    rw [Ij hW hs.1 hs.2] at h
    dsimp only at h
    rcases hr : Xt 12 (qws q) 0 [] 0 with ⟨q2, k⟩
    rw [hr] at h
    simp only [Bool.not_true, cond_false] at h
    cases hc : (((k : Int) != ((qws q).length : Int)) || (((Xv q2).toList == (⟨#[]⟩ : ByteArray).toList) || (!((Xv q2).toList == (Jf (qws q)).toList)))) with
    | true => rw [hc] at h; exact absurd (show [] = q from h).symm hne
    | false =>
      rw [hc] at h
      obtain rfl : q2 = q := h
      obtain ⟨c1, _⟩ := bo hc
      have hk : k = ((qws q2).length : Int) := bne_eq_false_iff_eq.1 c1
      have hpos : 1 ≤ (qws q2).length := List.length_pos_iff.2 h2
      obtain ⟨j, e, hP, _⟩ := QN 12 0 (qws q2) [] 0 q2 k hr (by omega) (FI hv) (by omega) hs.1 (by omega)
      obtain rfl : j = (qws q2).length := by omega
      rw [Nat.zero_add, List.drop_length] at hP
      exact hP
  rw [VP hW hs] at h
  exact absurd (show [] = q from h).symm hne
abbrev SP : ByteArray := ⟨#[32]⟩
abbrev FLD : ByteArray := ⟨#[102, 105, 101, 108, 100]⟩
abbrev NXT : ByteArray := ⟨#[110, 101, 120, 116]⟩
abbrev FIL : ByteArray := ⟨#[102, 105, 108, 101]⟩
abbrev DIR : ByteArray := ⟨#[100, 105, 114]⟩
theorem Qcm {y : ByteArray} (h : Word y) : (32 : UInt8) ∉ y.data.toList := h.no (by decide)
theorem Iq {l : List ByteArray} (h0 : l ≠ []) (h : ∀ y, y ∈ l → Word y) : Qm 32 (Q6 SP l) = l := UP h0 fun y hy => Qcm (h y hy)
theorem Ir {l : List ByteArray} (h : ∀ y, y ∈ l → Word y) (hl : l.length ≤ 24) (hs : (Q6 SP l).size ≤ 600) : Qb (Q6 SP l) = (l, true) := by rw [EX]; exact Ij h hl hs
/-! ### fields -/
theorem ZK {f : X9} (hn : Qs f.1 = true) (hk : f.2 = 1 ∨ f.2 = 2) : X1 f = Q6 SP [FLD, f.1, bif f.2 == (1 : Int) then ⟨#[105, 110, 116]⟩ else ⟨#[115, 116, 114, 105, 110, 103]⟩] := by
  unfold X1
  rw [hn, Zq]
  rcases hk with h | h <;> rw [h]
  · show ((⟨#[102, 105, 101, 108, 100, 32]⟩ : ByteArray) ++ f.1) ++ (⟨#[32, 105, 110, 116]⟩ : ByteArray) = _
    rw [show (⟨#[102, 105, 101, 108, 100, 32]⟩ : ByteArray) = FLD ++ SP from rfl, show (⟨#[32, 105, 110, 116]⟩ : ByteArray) = SP ++ ⟨#[105, 110, 116]⟩ from rfl]
    simp only [ByteArray.append_assoc]
    rfl
  show ((⟨#[102, 105, 101, 108, 100, 32]⟩ : ByteArray) ++ f.1) ++ (⟨#[32, 115, 116, 114, 105, 110, 103]⟩ : ByteArray) = _
  rw [show (⟨#[102, 105, 101, 108, 100, 32]⟩ : ByteArray) = FLD ++ SP from rfl, show (⟨#[32, 115, 116, 114, 105, 110, 103]⟩ : ByteArray) = SP ++ ⟨#[115, 116, 114, 105, 110, 103]⟩ from rfl]
  simp only [ByteArray.append_assoc]
  rfl
theorem Qar {f : X9} (hn : Qs f.1 = true) : ∀ y, y ∈ [FLD, f.1, bif f.2 == (1 : Int) then (⟨#[105, 110, 116]⟩ : ByteArray) else ⟨#[115, 116, 114, 105, 110, 103]⟩] → Word y ∧ y.size ≤ 10 := fun y hy => by
  simp only [List.mem_cons, List.mem_nil_iff, or_false] at hy
  rcases hy with rfl | rfl | rfl
  · exact ⟨Da (by decide), by decide⟩
  · exact ⟨P1 hn, by rw [T7 hn]; decide⟩
  cases (f.2 == (1 : Int)) <;> exact ⟨Da (by decide), by decide⟩
theorem Qcn {f : X9} (hn : Qs f.1 = true) (hk : f.2 = 1 ∨ f.2 = 2) (b1 : List X9) (b2 : List Jk) (b3 : Int) (b4 : List Z9) : Yx b1 b2 b3 b4 (X1 f) = (true, b1 ++ [f], b2, b3, b4) := by
  rw [ZK hn hk]
  unfold Yx
  rw [Iq (fun e => by cases e) fun y hy => (Qar hn y hy).1]
  obtain ⟨n, k⟩ := f
  rcases hk with h | h <;> obtain rfl : k = _ := h <;> kernel_rfl
theorem Qco {f : X9} (hn : Qs f.1 = true) (hk : f.2 = 1 ∨ f.2 = 2) (x : Qp) : Yj x (X1 f) = ((x.1.1 ++ [f], x.1.2.1, x.1.2.2), x.2) := by
  have hw := Qar hn
  have hs := J0 (s := SP) (m := 10) (n := 3) rfl (fun y hy => (hw y hy).2) (Nat.le_refl _)
  rw [ZK hn hk]
  unfold Yj
  rw [Ir (fun y hy => (hw y hy).1) (Nat.le_of_ble_eq_true rfl) (Nat.le_trans hs (by decide))]
  obtain ⟨n, k⟩ := f
  rcases hk with h | h <;> obtain rfl : k = _ := h <;> (show _ = _; kernel_rfl)
/-! ### the next number -/
theorem ZL (n : Int) : (⟨#[110, 101, 120, 116, 32]⟩ : ByteArray) ++ Qq n = Q6 SP [NXT, Qq n] := by
  rw [Zy]
  rfl
theorem Qas {n : Int} (h : 0 ≤ n ∧ n ≤ 1000000000) : ∀ y, y ∈ [NXT, Qq n] → Word y ∧ y.size ≤ 10 := fun y hy => by
  simp only [List.mem_cons, List.mem_nil_iff, or_false] at hy
  rcases hy with rfl | rfl
  · exact ⟨Da (by decide), by decide⟩
  exact ⟨Io h.1, Zf h⟩
theorem Qcp {n : Int} (h : 0 ≤ n ∧ n ≤ 1000000000) (b1 : List X9) (b2 : List Jk) (b3 : Int) (b4 : List Z9) : Yx b1 b2 b3 b4 ((⟨#[110, 101, 120, 116, 32]⟩ : ByteArray) ++ Qq n) = (true, b1, b2, n, b4) := by
  rw [ZL]
  unfold Yx
  rw [Iq (fun e => by cases e) fun y hy => (Qas h y hy).1]
  refine Eq.trans (b := ((Qg (Qq n)).2, b1, b2, (Qg (Qq n)).1, b4)) (by kernel_rfl) ?_
  rw [Il h]
theorem Qcq {n : Int} (h : 0 ≤ n ∧ n ≤ 1000000000) (x : Qp) : Yj x ((⟨#[110, 101, 120, 116, 32]⟩ : ByteArray) ++ Qq n) = ((x.1.1, x.1.2.1, n), x.2) := by
  have hw := Qas h
  have hs := J0 (s := SP) (m := 10) (n := 2) rfl (fun y hy => (hw y hy).2) (Nat.le_refl _)
  rw [ZL]
  unfold Yj
  rw [Ir (fun y hy => (hw y hy).1) (Nat.le_of_ble_eq_true rfl) (Nat.le_trans hs (by decide))]
  refine Eq.trans (b := ((x.1.1, x.1.2.1, (Q2 (Qq n)).1), x.2)) (by kernel_rfl) ?_
  rw [U2, Il h]
/-! ### files -/
def AU (l : List Vc) : List ByteArray := l.flatMap fun a => [a.1, Xe a.2]
def Qb9 (l : List Vc) : Prop := ∀ a, a ∈ l → Qs a.1 = true ∧ Qt a.2 = true ∧ a.2.1 ≠ 0
theorem L4 (a : Vc) (l : List Vc) : AU (a :: l) = a.1 :: Xe a.2 :: AU l := rfl
theorem ZM (l : List Vc) : (AU l).length = 2 * l.length := by
  induction l with
  | nil => rfl
  | cons a l ih => rw [L4]; simp only [List.length_cons, ih]; omega
theorem UX {w r : List ByteArray} {i : Nat} {a b : ByteArray} (h : w.drop i = a :: b :: r) : nth w i = a ∧ nth w (i + 1) = b ∧ w.drop (i + 2) = r ∧ i + 1 < w.length := by
  obtain ⟨h1, h2, _⟩ := Bp h
  obtain ⟨h3, h4, h5⟩ := Bp h2
  refine ⟨?_, ?_, h4, h5⟩
  · unfold nth; rw [List.getD_eq_getElem?_getD, h1]; rfl
  unfold nth; rw [List.getD_eq_getElem?_getD, h3]; rfl
theorem Mk {w : List ByteArray} {i : Nat} (h : w.drop i = []) : w.length ≤ i := by
  have := congrArg List.length h
  rw [List.length_drop] at this
  simp only [List.length_nil] at this
  omega
theorem Sx {w : List ByteArray} (hw : w.length ≤ 1000) : ∀ (l : List Vc) (i n : Nat) (A : List Vc), Qb9 l → w.drop i = AU l → l.length < n → whl (Z3 w) n (true, (i : Int), A) = some (.brk (true, A ++ l))
  | [], i, n, A, _, h, hn => by
    obtain ⟨m, rfl⟩ : ∃ m, n = m + 1 := ⟨n - 1, by omega⟩
    have hl := Mk h
    have hf : Z3 w (true, (i : Int), A) = .brk (true, A) := by
      unfold Z3
      rw [decide_eq_false (show ¬ (i : Int) < (w.length : Int) by omega), cond_false]
    rw [whl, hf, List.append_nil]
  | a :: l, i, n, A, ho, h, hn => by
    obtain ⟨m, rfl⟩ : ∃ m, n = m + 1 := ⟨n - 1, by omega⟩
    rw [L4] at h
    obtain ⟨h1, h2, h3, h4⟩ := UX h
    have ha := ho a (List.mem_cons_self ..)
    have hf : Z3 w (true, (i : Int), A) = .next (true, ((i + 2 : Nat) : Int), A ++ [a]) := by
      unfold Z3
      rw [decide_eq_true (show (i : Int) < (w.length : Int) by omega), cond_true]
      dsimp only
      rw [IntWalk.i64_in ((i : Int) + 1) (by omega), IntWalk.i64_in ((i : Int) + 2) (by omega), show ((i : Int) + 1) = ((i + 1 : Nat) : Int) from rfl, Int.toNat_natCast, Int.toNat_natCast, h1, h2, ZJ ha.2.1 ha.2.2]
      rfl
    rw [List.length_cons] at hn
    rw [whl, hf]
    show whl (Z3 w) m (true, ((i + 2 : Nat) : Int), A ++ [a]) = _
    rw [Sx hw l (i + 2) m (A ++ [a]) (fun b hb => ho b (List.mem_cons_of_mem _ hb)) h3 (by omega), List.append_assoc, List.singleton_append]
theorem Sy {line : ByteArray} {w : List ByteArray} (hS : (Qb line).1 = w) (hw : w.length ≤ 1000) : ∀ (l : List Vc) (i n : Nat) (A : List Vc), Qb9 l → w.drop i = AU l → l.length < n → whl (Ze line) n ((i : Int), A) = some (.brk (A ++ l))
  | [], i, n, A, _, h, hn => by
    obtain ⟨m, rfl⟩ : ∃ m, n = m + 1 := ⟨n - 1, by omega⟩
    have hl := Mk h
    have hf : Ze line ((i : Int), A) = .brk A := by
      unfold Ze
      rw [hS, decide_eq_false (show ¬ (i : Int) < (w.length : Int) by omega), cond_false]
    rw [whl, hf, List.append_nil]
  | a :: l, i, n, A, ho, h, hn => by
    obtain ⟨m, rfl⟩ : ∃ m, n = m + 1 := ⟨n - 1, by omega⟩
    rw [L4] at h
    obtain ⟨h1, h2, h3, h4⟩ := UX h
    have ha := ho a (List.mem_cons_self ..)
    have hf : Ze line ((i : Int), A) = .next (((i + 2 : Nat) : Int), A ++ [a]) := by
      unfold Ze
      rw [hS, decide_eq_true (show (i : Int) < (w.length : Int) by omega), cond_true]
      dsimp only
      rw [IntWalk.i64_in ((i : Int) + 1) (by omega), IntWalk.i64_in ((i : Int) + 2) (by omega)]
      have hp : Qh w ((i : Int) + 1) = Xe a.2 := by
        unfold Qh
        rw [decide_eq_false (show ¬ ((i : Int) + 1) ≥ (w.length : Int) by omega), cond_false, show ((i : Int) + 1) = ((i + 1 : Nat) : Int) from rfl, Int.toNat_natCast, h2]
      rw [hp, Int.toNat_natCast, h1, Im, ZJ ha.2.1 ha.2.2]
      rfl
    rw [List.length_cons] at hn
    rw [whl, hf]
    show whl (Ze line) m (((i + 2 : Nat) : Int), A ++ [a]) = _
    rw [Sy hS hw l (i + 2) m (A ++ [a]) (fun b hb => ho b (List.mem_cons_of_mem _ hb)) h3 (by omega), List.append_assoc, List.singleton_append]
theorem FK {R S T : Type} [Inhabited T] {f : S → Rd R S T} {n : Nat} {s : S} {o : Out R T} (h : whl f n s = some o) : YC f n s = o := by unfold YC; rw [h]; rfl
theorem Is (f : Jk) : Uk f = FIL :: Qq f.1 :: Qq f.2.1 :: (bif f.2.2.1 then (⟨#[115]⟩ : ByteArray) else ⟨#[111]⟩) :: Qq f.2.2.2.1 :: AU f.2.2.2.2 := rfl
theorem UY {f : Jk} (h : FBd f) : ∀ y, y ∈ Uk f → Word y := fun y hy => by
  rw [Is] at hy
  have h1 := h.1; have h2 := h.2.1; have h3 := h.2.2.1
  simp only [List.mem_cons] at hy
  rcases hy with rfl | rfl | rfl | rfl | rfl | hy
  · exact Da (by decide)
  · exact Io (by omega)
  · exact Io (by omega)
  · cases f.2.2.1 <;> exact Da (by decide)
  · exact Io (by omega)
  obtain ⟨a, ha, hy⟩ := List.mem_flatMap.1 hy
  have hv := h.2.2.2.2 a ha
  simp only [List.mem_cons, List.mem_nil_iff, or_false] at hy
  rcases hy with rfl | rfl
  · exact P1 hv.1
  exact UW hv.2.1 hv.2.2
theorem ZN {f : Jk} (h : FBd f) : Yo ((Uk f).drop 1) = (f, true) := by
  have h1 := h.1; have h2 := h.2.1; have h3 := h.2.2.1; have h4 := h.2.2.2.1
  have hlen : ((Uk f).drop 1).length = 4 + 2 * f.2.2.2.2.length := by rw [Is]; simp only [List.drop_succ_cons, List.drop_zero, List.length_cons, ZM]; omega
  unfold Yo
  rw [hlen, decide_eq_false (show ¬ ((4 + 2 * f.2.2.2.2.length : Nat) : Int) < 4 by omega), Bool.false_or]
  rw [show (Int.tmod ((4 + 2 * f.2.2.2.2.length : Nat) : Int) 2 != (0 : Int)) = false from bne_eq_false_iff_eq.2 (by rw [Int.tmod_eq_emod_of_nonneg (by omega)]; omega), cond_false]
  have n0 : nth ((Uk f).drop 1) 0 = Qq f.1 := rfl
  have n1 : nth ((Uk f).drop 1) 1 = Qq f.2.1 := rfl
  have n2 : nth ((Uk f).drop 1) 2 = (bif f.2.2.1 then (⟨#[115]⟩ : ByteArray) else ⟨#[111]⟩) := rfl
  have n3 : nth ((Uk f).drop 1) 3 = Qq f.2.2.2.1 := rfl
  rw [n0, n1, n2, n3, Il (n := f.1) (by omega), Il (n := f.2.1) (by omega), Il (n := f.2.2.2.1) (by omega)]
  have hl := Sx (w := (Uk f).drop 1) (by rw [hlen]; omega) f.2.2.2.2 4 (4 + 2 * f.2.2.2.2.length + 1) [] h.2.2.2.2 rfl (by omega)
  have hl2 := FK hl
  rw [show (true && (true && true)) = true from rfl, show (4 : Int) = ((4 : Nat) : Int) from rfl]
  simp only []
  rw [hl2]
  obtain ⟨i, o, s, l, z⟩ := f
  cases s <;> (show _ = _; kernel_rfl)
theorem Qcr {f : Jk} (h : FBd f) (b1 : List X9) (b2 : List Jk) (b3 : Int) (b4 : List Z9) : Yx b1 b2 b3 b4 (Yk f) = (true, b1, b2 ++ [f], b3, b4) := by
  rw [Nl]
  unfold Yx
  rw [Iq (by rw [Is]; exact List.cons_ne_nil _ _) (UY h)]
  refine Eq.trans (b := ((Yo ((Uk f).drop 1)).2, b1, b2 ++ [(Yo ((Uk f).drop 1)).1], b3, b4)) (by kernel_rfl) ?_
  rw [ZN h]
theorem Qcs {f : Jk} (h : FBd f) (x : Qp) : Yj x (Yk f) = ((x.1.1, x.1.2.1 ++ [f], x.1.2.2), x.2) := by
  have h1 := h.1; have h2 := h.2.1; have h3 := h.2.2.1
  have hb := ZF h
  have hs := J0 (s := SP) (m := 10) (n := 15) rfl hb.2 hb.1
  rw [Nl]
  have hS := Ir (UY h) (by omega) (Nat.le_trans hs (by decide))
  have hl := Sy (line := Q6 SP (Uk f)) (w := Uk f) (by rw [hS]) (by omega) f.2.2.2.2 5 ((Uk f).length + 1) [] h.2.2.2.2 rfl (by rw [Is]; simp only [List.length_cons, ZM]; omega)
  have hl2 := FK hl
  unfold Yj
  rw [hS]
  refine Eq.trans (b := (Out.on (YC (Ze (Q6 SP (Uk f))) ((Uk f).length + 1) (((5 : Nat) : Int), [])) (fun y0 => ((x.1.1, x.1.2.1 ++ [((Q2 (Qq f.1)).1, (Q2 (Qq f.2.1)).1, ((bif f.2.2.1 then (⟨#[115]⟩ : ByteArray) else ⟨#[111]⟩).toList == (⟨#[115]⟩ : ByteArray).toList), (Q2 (Qq f.2.2.2.1)).1, y0)], x.1.2.2), x.2)) : Qp)) (by kernel_rfl) ?_
  rw [hl2, U2, U2, U2, Il (n := f.1) (by omega), Il (n := f.2.1) (by omega), Il (n := f.2.2.2.1) (by omega)]
  obtain ⟨i, o, s, l, z⟩ := f
  cases s <;> (show _ = _; kernel_rfl)
/-! ### directories -/
theorem It {d : Z9} (hq : Qk d.2 = true) : Kp d = Q6 SP (DIR :: d.1 :: qws d.2) := by
  obtain ⟨h1, h2, _⟩ := Mj hq
  unfold Kp
  rw [h1, show (DIR :: d.1 :: qws d.2) = [DIR, d.1] ++ qws d.2 from rfl, H1 _ (fun e => by cases e) h2, Zy]
  simp only [ByteArray.append_assoc]
  rfl
theorem MC {d : Z9} (hn : Qy d.1 = true) (hq : Qk d.2 = true) : ∀ y, y ∈ DIR :: d.1 :: qws d.2 → Word y ∧ y.size ≤ 10 := fun y hy => by
  simp only [List.mem_cons] at hy
  rcases hy with rfl | rfl | hy
  · exact ⟨Da (by decide), by decide⟩
  · exact ⟨QK hn, by have := Bz hn; omega⟩
  exact (Mj hq).2.2 y hy
theorem Qby {d : Z9} (hn : Qy d.1 = true) (hq : Qk d.2 = true) (b1 : List X9) (b2 : List Jk) (b3 : Int) (b4 : List Z9) : Yx b1 b2 b3 b4 (Kp d) = ((Xr (Qv d.2)).2, b1, b2, b3, b4 ++ [(d.1, (Xr (Qv d.2)).1)]) := by
  obtain ⟨h1, h2, _⟩ := Mj hq
  rw [It hq, h1]
  unfold Yx
  rw [Iq (List.cons_ne_nil _ _) fun y hy => (MC hn hq y hy).1]
  have hl : decide (((DIR :: d.1 :: qws d.2).length : Int) > (2 : Int)) = true := decide_eq_true (by have := List.length_pos_iff.2 h2; simp only [List.length_cons]; omega)
  rw [hl]
  show _ = _
  kernel_rfl
theorem QP {d : Z9} (hn : Qy d.1 = true) (hq : Qk d.2 = true) (hs : (DIR :: d.1 :: qws d.2).length ≤ 24 ∧ (Kp d).size ≤ 600) (x : Qp) : Yj x (Kp d) = (x.1, x.2 ++ [(d.1, (X7 (Qv d.2)).1)]) := by
  obtain ⟨h1, h2, _⟩ := Mj hq
  rw [It hq] at hs ⊢
  rw [h1]
  unfold Yj
  rw [Ir (fun y hy => (MC hn hq y hy).1) hs.1 hs.2]
  have hl : decide (((DIR :: d.1 :: qws d.2).length : Int) > (2 : Int)) = true := decide_eq_true (by have := List.length_pos_iff.2 h2; simp only [List.length_cons]; omega)
  have p0 : Qh (DIR :: d.1 :: qws d.2) 0 = DIR := (Va (a := 0) rfl).1
  have p1 : Qh (DIR :: d.1 :: qws d.2) 1 = d.1 := (Va (a := 1) rfl).1
  have k1 : (DIR.toList == (⟨#[102, 105, 101, 108, 100]⟩ : ByteArray).toList) = false := by kernel_rfl
  have k2 : (DIR.toList == (⟨#[110, 101, 120, 116]⟩ : ByteArray).toList) = false := by kernel_rfl
  have k3 : (DIR.toList == (⟨#[102, 105, 108, 101]⟩ : ByteArray).toList) = false := by kernel_rfl
  dsimp only
  rw [p0, p1, hl, k1, k2, k3, beq_self_eq_true]
  simp only [cond_true, cond_false, List.drop_succ_cons, List.drop_zero]
  rw [Sv]
theorem FL {d : Z9} (hn : Qy d.1 = true) (hq : Qk d.2 = true) (hs : ¬ ((DIR :: d.1 :: qws d.2).length ≤ 24 ∧ (Kp d).size ≤ 600)) (x : Qp) : Yj x (Kp d) = x := by
  rw [It hq] at hs ⊢
  unfold Yj
  rw [EX, VP (fun y hy => (MC hn hq y hy).1) hs]
  kernel_rfl
/-! ### lines equal -/
theorem VQ {α : Type} [Inhabited α] : ∀ {a b : List α}, a.length = b.length → (∀ i, i < a.length → nth a i = nth b i) → a = b
  | [], [], _, _ => rfl
  | [], _ :: _, h, _ => by cases h
  | _ :: _, [], h, _ => by cases h
  | x :: a, y :: b, h, hi => by
    have h0 := hi 0 (Nat.zero_lt_succ _)
    have : a = b := VQ (by simpa using h) fun i hlt => hi (i + 1) (Nat.succ_lt_succ hlt)
    rw [this, show x = y from h0]
theorem QQ {R : Type} (b : List ByteArray) (f : Nat → ByteArray → Unit → Rd Bool Unit Unit) (e : Nat → Unit → Unit) (hf : ∀ k a, f k a () = (bif (!(a.toList == (nth b k).toList)) then (.ret false) else (.next ()))) : ∀ (l : List ByteArray) (k : Nat), Out.on (Yr f e l k ()) (fun _ => true) = decide (∀ i, i < l.length → nth l i = nth b (k + i))
  | [], k => by simp [Yr, Out.on]
  | a :: l, k => by
    simp only [Yr]
    rw [hf]
    cases hz : (a.toList == (nth b k).toList) with
    | false =>
      simp only [Bool.not_false, cond_true, Out.on]
      refine (decide_eq_false fun h => ?_).symm
      have h0 : a = nth b k := h 0 (Nat.zero_lt_succ _)
      rw [h0, beq_self_eq_true] at hz
      cases hz
    | true =>
      simp only [Bool.not_true, cond_false]
      have h0 : a = nth b k := Up hz
      have ih := QQ (R := R) b f e hf l (k + 1)
      rw [ih]
      refine decide_eq_decide.2 ⟨fun h i hi => ?_, fun h i hi => ?_⟩
      · cases i with
        | zero => exact h0
        | succ i => have := h i (Nat.lt_of_succ_lt_succ hi); rw [show k + (i + 1) = k + 1 + i by omega]; exact this
      have := h (i + 1) (Nat.succ_lt_succ hi)
      rw [show k + 1 + i = k + (i + 1) by omega]
      exact this
theorem Qat (a b : List ByteArray) : J3 a b = decide (a = b) := by
  unfold J3
  by_cases hl : a.length = b.length
  · rw [show ((a.length : Int) != (b.length : Int)) = false from bne_eq_false_iff_eq.2 (by omega), cond_false, QQ (R := Unit) b _ _ fun _ _ => rfl]
    refine decide_eq_decide.2 ⟨fun h => VQ hl fun i hi => by have := h i hi; rwa [Nat.zero_add] at this, fun h i _ => by rw [h, Nat.zero_add]⟩
  rw [show ((a.length : Int) != (b.length : Int)) = true from bne_iff_ne.2 (by omega), cond_true]
  exact (decide_eq_false fun h => hl (by rw [h])).symm
theorem Qau (a b : List ByteArray) : U1 a b = decide (a = b) := by
  unfold U1
  by_cases hl : a.length = b.length
  · rw [show ((a.length : Int) != (b.length : Int)) = false from bne_eq_false_iff_eq.2 (by omega), cond_false, QQ (R := Unit) b _ _ fun _ _ => rfl]
    refine decide_eq_decide.2 ⟨fun h => VQ hl fun i hi => by have := h i hi; rwa [Nat.zero_add] at this, fun h i _ => by rw [h, Nat.zero_add]⟩
  rw [show ((a.length : Int) != (b.length : Int)) = true from bne_iff_ne.2 (by omega), cond_true]
  exact (decide_eq_false fun h => hl (by rw [h])).symm
/-! ### folds -/
def A5 : List ByteArray → Qp → Option Qp
  | [], s => some s
  | a :: l, s => bif (Yx s.1.1 s.1.2.1 s.1.2.2 s.2 a).1 then A5 l (((Yx s.1.1 s.1.2.1 s.1.2.2 s.2 a).2.1, (Yx s.1.1 s.1.2.1 s.1.2.2 s.2 a).2.2.1, (Yx s.1.1 s.1.2.1 s.1.2.2 s.2 a).2.2.2.1), (Yx s.1.1 s.1.2.1 s.1.2.2 s.2 a).2.2.2.2) else none
def H5 : List ByteArray → Qp → Qp
  | [], s => s
  | a :: l, s => H5 l (Yj s a)
theorem Iu : ∀ (a b : List ByteArray) (s : Qp), A5 (a ++ b) s = (A5 a s).bind (A5 b)
  | [], _, _ => rfl
  | x :: a, b, s => by
    simp only [List.cons_append, A5]
    cases (Yx s.1.1 s.1.2.1 s.1.2.2 s.2 x).1 with
    | true => exact Iu a b _
    | false => rfl
theorem ZO : ∀ (a b : List ByteArray) (s : Qp), H5 (a ++ b) s = H5 b (H5 a s)
  | [], _, _ => rfl
  | _ :: a, b, s => ZO a b _
theorem Sz : ∀ (l : List ByteArray) (k : Nat) (s : Qp), Yr Jx K7 l k s = match A5 l s with
    | some y => .brk y
    | none => .ret ((([], [], 0), []), false)
  | [], _, _ => rfl
  | a :: l, k, s => by
    have hf : Jx k a s = bif (!(Yx s.1.1 s.1.2.1 s.1.2.2 s.2 a).1) then .ret ((([], [], 0), []), false) else .next (((Yx s.1.1 s.1.2.1 s.1.2.2 s.2 a).2.1, (Yx s.1.1 s.1.2.1 s.1.2.2 s.2 a).2.2.1, (Yx s.1.1 s.1.2.1 s.1.2.2 s.2 a).2.2.2.1), (Yx s.1.1 s.1.2.1 s.1.2.2 s.2 a).2.2.2.2) := rfl
    simp only [Yr, A5]
    rw [hf]
    cases (Yx s.1.1 s.1.2.1 s.1.2.2 s.2 a).1 with
    | true =>
      simp only [Bool.not_true, cond_false, cond_true]
      exact Sz l (k + 1) _
    | false => rfl
theorem S0 : ∀ (l : List ByteArray) (k : Nat) (s : Qp), Yr K8 W0 l k s = .brk (H5 l s)
  | [], _, _ => rfl
  | a :: l, k, s => by
    simp only [Yr, H5]
    unfold K8 lt
    exact S0 l (k + 1) _
abbrev ZS : Qp := (([], [], 0), [])
theorem Qct (lines : List ByteArray) : Q5 lines = match A5 lines ZS with
    | some y => bif Qi y && decide (Qx y = lines) then (y, true) else (ZS, false)
    | none => (ZS, false) := by
  unfold Q5
  rw [Sz]
  cases A5 lines ZS with
  | none => rfl
  | some y =>
    simp only [Out.on]
    rw [Qat]
    cases Qi y <;> cases decide (Qx y = lines) <;> rfl
theorem Qcu (lines : List ByteArray) : Xa lines = bif Qi (H5 lines ZS) && decide (Qx (H5 lines ZS) = lines) then (H5 lines ZS, true) else (ZS, false) := by
  unfold Xa
  rw [S0]
  simp only [Out.on]
  rw [Qau, A4, enc_eq]
  cases Qi (H5 lines ZS) <;> cases decide (Qx (H5 lines ZS) = lines) <;> rfl
/-! ### what each reads out of the lines of a snapshot in order -/
theorem ZP : ∀ (l : List X9) (s : Qp), (∀ f, f ∈ l → Qs f.1 = true ∧ (f.2 = 1 ∨ f.2 = 2)) → A5 (l.map X1) s = some ((s.1.1 ++ l, s.1.2.1, s.1.2.2), s.2)
  | [], s, _ => by rw [List.append_nil]; rfl
  | f :: l, s, h => by
    have hf := h f (List.mem_cons_self ..)
    rw [List.map_cons, A5, Qcn hf.1 hf.2]
    simp only [cond_true]
    rw [ZP l _ fun g hg => h g (List.mem_cons_of_mem _ hg)]
    simp only [List.append_assoc, List.singleton_append]
theorem ZQ : ∀ (l : List X9) (s : Qp), (∀ f, f ∈ l → Qs f.1 = true ∧ (f.2 = 1 ∨ f.2 = 2)) → H5 (l.map X1) s = ((s.1.1 ++ l, s.1.2.1, s.1.2.2), s.2)
  | [], s, _ => by rw [List.append_nil]; rfl
  | f :: l, s, h => by
    have hf := h f (List.mem_cons_self ..)
    rw [List.map_cons, H5, Qco hf.1 hf.2, ZQ l _ fun g hg => h g (List.mem_cons_of_mem _ hg)]
    simp only [List.append_assoc, List.singleton_append]
theorem ZR : ∀ (l : List Jk) (s : Qp), (∀ f, f ∈ l → FBd f) → A5 (l.map Yk) s = some ((s.1.1, s.1.2.1 ++ l, s.1.2.2), s.2)
  | [], s, _ => by rw [List.append_nil]; rfl
  | f :: l, s, h => by
    rw [List.map_cons, A5, Qcr (h f (List.mem_cons_self ..))]
    simp only [cond_true]
    rw [ZR l _ fun g hg => h g (List.mem_cons_of_mem _ hg)]
    simp only [List.append_assoc, List.singleton_append]
theorem ZT : ∀ (l : List Jk) (s : Qp), (∀ f, f ∈ l → FBd f) → H5 (l.map Yk) s = ((s.1.1, s.1.2.1 ++ l, s.1.2.2), s.2)
  | [], s, _ => by rw [List.append_nil]; rfl
  | f :: l, s, h => by
    rw [List.map_cons, H5, Qcs (h f (List.mem_cons_self ..)), ZT l _ fun g hg => h g (List.mem_cons_of_mem _ hg)]
    simp only [List.append_assoc, List.singleton_append]
abbrev DOk (d : Z9) : Prop := Qy d.1 = true ∧ Qk d.2 = true
def RdI (d : Z9) : Prop := Xr (Qv d.2) = (d.2, true)
def RdS (d : Z9) : Prop := ((DIR :: d.1 :: qws d.2).length ≤ 24 ∧ (Kp d).size ≤ 600) ∧ (X7 (Qv d.2)).1 = d.2
theorem ZU : ∀ (l : List Z9) (s : Qp), (∀ d, d ∈ l → DOk d) → (∀ d, d ∈ l → RdI d) → A5 (l.map Kp) s = some (s.1, s.2 ++ l)
  | [], s, _, _ => by rw [List.append_nil]; rfl
  | d :: l, s, h, hr => by
    have hd := h d (List.mem_cons_self ..)
    have hp := hr d (List.mem_cons_self ..)
    unfold RdI at hp
    rw [List.map_cons, A5, Qby hd.1 hd.2, hp]
    simp only [cond_true]
    rw [ZU l _ (fun g hg => h g (List.mem_cons_of_mem _ hg)) fun g hg => hr g (List.mem_cons_of_mem _ hg)]
    simp only [List.append_assoc, List.singleton_append]
theorem P2 : ∀ (l m : List Z9) (s t : Qp), (∀ d, d ∈ l → DOk d) → A5 (l.map Kp) s = some t → t.2 = s.2 ++ m → m.length = l.length → ∀ (i : Nat) d, l[i]? = some d → ∃ g, m[i]? = some g ∧ g.1 = d.1 ∧ Xr (Qv d.2) = (g.2, true)
  | [], _, _, _, _, _, _, _, i, d, hi => by simp at hi
  | a :: l, m, s, t, h, hf, ht, hm, i, d, hi => by
    have ha := h a (List.mem_cons_self ..)
    rw [List.map_cons, A5, Qby ha.1 ha.2] at hf
    cases hp : (Xr (Qv a.2)).2 with
    | false => rw [hp] at hf; cases hf
    | true =>
      rw [hp] at hf
      simp only [cond_true] at hf
      cases m with
      | nil => simp at hm
      | cons g m =>
        have hmono : ∀ (l : List Z9) (s t : Qp), (∀ d, d ∈ l → DOk d) → A5 (l.map Kp) s = some t → ∃ u, t.2 = s.2 ++ u := by
          intro l
          induction l with
          | nil => intro s t _ h; obtain rfl := Option.some.inj (show some s = some t from h); exact ⟨[], (List.append_nil _).symm⟩
          | cons b l ih =>
            intro s t hb h
            have hb1 := hb b (List.mem_cons_self ..)
            rw [List.map_cons, A5, Qby hb1.1 hb1.2] at h
            cases hq : (Xr (Qv b.2)).2 with
            | false => rw [hq] at h; cases h
            | true =>
              rw [hq] at h
              obtain ⟨u, hu⟩ := ih _ t (fun d hd => hb d (List.mem_cons_of_mem _ hd)) h
              exact ⟨_ :: u, by rw [hu]; simp only [List.append_assoc, List.singleton_append]; rfl⟩
        obtain ⟨u, hu⟩ := hmono l _ t (fun d hd => h d (List.mem_cons_of_mem _ hd)) hf
        have e : [(a.1, (Xr (Qv a.2)).1)] ++ u = g :: m := by
          have := hu.symm.trans ht
          simp only [List.append_assoc] at this
          exact List.append_cancel_left this
        obtain ⟨rfl, rfl⟩ : (a.1, (Xr (Qv a.2)).1) = g ∧ u = m := by simpa using e
        cases i with
        | zero =>
          obtain rfl : a = d := by simpa using hi
          exact ⟨_, rfl, rfl, by rw [← hp]⟩
        | succ i =>
          exact P2 l u _ t (fun d hd => h d (List.mem_cons_of_mem _ hd)) hf hu (by simpa using hm) i d (by simpa using hi)
theorem ZV : ∀ (l : List Z9) (s : Qp), (∀ d, d ∈ l → DOk d) → (∀ d, d ∈ l → RdS d) → H5 (l.map Kp) s = (s.1, s.2 ++ l)
  | [], s, _, _ => by rw [List.append_nil]; rfl
  | d :: l, s, h, hr => by
    have hd := h d (List.mem_cons_self ..)
    have hp := hr d (List.mem_cons_self ..)
    rw [List.map_cons, H5, QP hd.1 hd.2 hp.1, hp.2, ZV l _ (fun g hg => h g (List.mem_cons_of_mem _ hg)) fun g hg => hr g (List.mem_cons_of_mem _ hg)]
    simp only [List.append_assoc, List.singleton_append]
theorem Nn : ∀ (l : List Z9) (s : Qp), (∀ d, d ∈ l → DOk d) → ∃ u, (H5 (l.map Kp) s).2 = s.2 ++ u ∧ u.length ≤ l.length
  | [], s, _ => ⟨[], (List.append_nil _).symm, Nat.le_refl _⟩
  | d :: l, s, h => by
    have hd := h d (List.mem_cons_self ..)
    rw [List.map_cons, H5]
    by_cases hs : (DIR :: d.1 :: qws d.2).length ≤ 24 ∧ (Kp d).size ≤ 600
    · rw [QP hd.1 hd.2 hs]
      obtain ⟨u, h1, h2⟩ := Nn l (s.1, s.2 ++ [(d.1, (X7 (Qv d.2)).1)]) fun g hg => h g (List.mem_cons_of_mem _ hg)
      exact ⟨_ :: u, by rw [h1]; simp only [List.append_assoc, List.singleton_append]; rfl, Nat.succ_le_succ h2⟩
    rw [FL hd.1 hd.2 hs]
    obtain ⟨u, h1, h2⟩ := Nn l s fun g hg => h g (List.mem_cons_of_mem _ hg)
    exact ⟨u, h1, Nat.le_succ_of_le h2⟩
theorem P3 : ∀ (l : List Z9) (s : Qp), (∀ d, d ∈ l → DOk d) → (H5 (l.map Kp) s).2 = s.2 ++ l → ∀ d, d ∈ l → RdS d
  | [], _, _, _, d, hd => by cases hd
  | a :: l, s, h, hf, d, hd => by
    have ha := h a (List.mem_cons_self ..)
    have hl := fun g hg => h g (List.mem_cons_of_mem _ hg)
    rw [List.map_cons, H5] at hf
    by_cases hs : (DIR :: a.1 :: qws a.2).length ≤ 24 ∧ (Kp a).size ≤ 600
    · rw [QP ha.1 ha.2 hs] at hf
      obtain ⟨u, h1, _⟩ := Nn l (s.1, s.2 ++ [(a.1, (X7 (Qv a.2)).1)]) hl
      have e : [(a.1, (X7 (Qv a.2)).1)] ++ u = a :: l := by
        have := h1.symm.trans hf
        simp only [List.append_assoc] at this
        exact List.append_cancel_left this
      obtain ⟨e1, rfl⟩ : (a.1, (X7 (Qv a.2)).1) = a ∧ u = l := by simpa using e
      have hq : (X7 (Qv a.2)).1 = a.2 := congrArg Prod.snd e1
      rcases List.mem_cons.1 hd with rfl | hd
      · exact ⟨hs, hq⟩
      exact P3 u (s.1, s.2 ++ [(a.1, (X7 (Qv a.2)).1)]) hl h1 d hd
    rw [FL ha.1 ha.2 hs] at hf
    obtain ⟨u, h1, h2⟩ := Nn l s hl
    have e : u = a :: l := List.append_cancel_left (h1.symm.trans hf)
    rw [e] at h2
    simp only [List.length_cons] at h2
    omega
theorem OE {d : Z9} (h : DOk d) : RdI d ↔ RdS d := by
  unfold RdI RdS
  refine ⟨fun hi => ?_, fun hs => ?_⟩
  · obtain ⟨hP, hs⟩ := Qbw h.2 hi
    have hl := hP.len
    have hq := Df h.2
    simp only [List.length_nil] at hl
    refine ⟨⟨by simp only [List.length_cons]; omega, ?_⟩, by rw [Qap h.2 hP hs]⟩
    have hb := J0 (s := SP) (m := 10) (n := 21) (l := DIR :: d.1 :: qws d.2) rfl (fun y hy => (MC h.1 h.2 y hy).2) (by simp only [List.length_cons]; omega)
    rw [It h.2]
    exact Nat.le_trans hb (by decide)
  obtain ⟨hP, hq⟩ := Qaq h.2 hs.2
  exact Qbx h.2 hP hq
theorem Ml {x : Qp} (hv : Qi x = true) : Qx x = (x.1.1.map X1 ++ [((⟨#[110, 101, 120, 116, 32]⟩ : ByteArray) ++ (Qq x.1.2.2))]) ++ (x.1.2.1.map Yk ++ x.2.map Kp) := by
  rw [Px, hv]
  simp only [Bool.not_true, cond_false, List.append_assoc]
theorem SH {x : Qp} (hv : Qi x = true) : A5 (Qx x) ZS = A5 (x.2.map Kp) ((x.1.1, x.1.2.1, x.1.2.2), []) := by
  have hb := B7 hv
  have hf := (Ni (VI (Lo hv)).1).2
  rw [Ml hv, Iu, Iu, ZP _ _ hf]
  simp only [Option.bind_some, A5]
  rw [Qcp (by omega)]
  simp only [cond_true]
  rw [Option.bind_some, Iu, ZR _ _ hb.2.2.2]
  rfl
theorem SI {x : Qp} (hv : Qi x = true) : H5 (Qx x) ZS = H5 (x.2.map Kp) ((x.1.1, x.1.2.1, x.1.2.2), []) := by
  have hb := B7 hv
  have hf := (Ni (VI (Lo hv)).1).2
  rw [Ml hv]
  simp only [ZO]
  rw [ZQ _ _ hf]
  simp only [H5]
  rw [Qcq (by omega), ZT _ _ hb.2.2.2]
  rfl
theorem MD {x : Qp} (hv : Qi x = true) : ∀ d, d ∈ x.2 → DOk d := fun d hd => (Nk hv hd).2
theorem UZ {x : Qp} (hv : Qi x = true) : A5 (Qx x) ZS = some x ↔ H5 (Qx x) ZS = x := by
  have hd := MD hv
  rw [SH hv, SI hv]
  refine ⟨fun h => ?_, fun h => ?_⟩
  · have hr : ∀ d, d ∈ x.2 → RdI d := fun d hm => by
      obtain ⟨i, hi⟩ := List.getElem?_of_mem hm
      obtain ⟨g, h1, h2, h3⟩ := P2 x.2 x.2 _ x hd h rfl rfl i d hi
      obtain rfl : d = g := Option.some.inj (hi.symm.trans h1)
      exact h3
    rw [ZV _ _ hd fun d hm => (OE (hd d hm)).1 (hr d hm)]
    rfl
  have hr := P3 x.2 ((x.1.1, x.1.2.1, x.1.2.2), []) hd (by rw [h]; rfl)
  rw [ZU _ _ hd fun d hm => (OE (hd d hm)).2 (hr d hm)]
  rfl
theorem FM (lines : List ByteArray) : Xa lines = Q5 lines := by
  rw [Qct, Qcu]
  cases hS : (Qi (H5 lines ZS) && decide (Qx (H5 lines ZS) = lines)) with
  | true =>
    simp only [Bool.and_eq_true, decide_eq_true_eq] at hS
    have hb := (UZ hS.1).2 (by rw [hS.2])
    rw [hS.2] at hb
    rw [hb]
    simp only [hS.1, hS.2, decide_true, Bool.and_true, cond_true]
  | false =>
    simp only [cond_false]
    cases hI : A5 lines ZS with
    | none => rfl
    | some y =>
      simp only []
      cases hc : (Qi y && decide (Qx y = lines)) with
      | false => rfl
      | true =>
        exfalso
        simp only [Bool.and_eq_true, decide_eq_true_eq] at hc
        have hb := (UZ hc.1).1 (by rw [hc.2]; exact hI)
        rw [hc.2] at hb
        rw [hb] at hS
        simp only [hc.1, hc.2, decide_true, Bool.and_true] at hS
        cases hS
/-! ### slots -/
theorem P4 : ∀ (l : List ByteArray) (k : Nat) (s : ByteArray), Yr Ud H4 l k s = Yr Vn Uc l k s ∧ ∃ y, Yr Vn Uc l k s = .brk y
  | [], k, s => ⟨rfl, s, rfl⟩
  | a :: l, k, s => by
    simp only [Yr, Ud, Vn]
    rw [ByteArray.append_assoc]
    exact P4 l (k + 1) _
theorem S1 (n : Int) (x : Qp) : Xw n x = Zv n x := by
  unfold Xw Zv
  have e : ∀ n, Xf n 1 1000000000 = Q9 n 1 1000000000 := fun n => rfl
  rw [A4, enc_eq, e, (P4 _ _ _).1]
  cases ((!(Qi x)) || (!(Q9 n 1 1000000000))) with
  | true => rfl
  | false =>
    obtain ⟨y, hy⟩ := (P4 (Qx x) 0 ((Qq n) ++ (⟨#[10]⟩ : ByteArray))).2
    rw [hy]
    simp only [cond_false, Out.on]
    rw [UN]
theorem VT {n : Int} (x : Qp) (h : ¬ (1 ≤ n ∧ n ≤ 1000000000)) : Zv n x = ⟨#[]⟩ := by
  unfold Zv
  have e : Q9 n 1 1000000000 = false := by
    cases hz : Q9 n 1 1000000000 with
    | false => rfl
    | true => exact absurd (Jn.1 hz) h
  rw [e]
  simp only [Bool.not_false, Bool.or_true, cond_true]
theorem Iv (s : ByteArray) : Qu s = Qr s := by
  unfold Qu Qr
  rw [UV]
  have hpos := Lu 10 s
  have hlen : ((Qm 10 s).dropLast).length = (Qm 10 s).length - 1 := List.length_dropLast ..
  by_cases h1 : (Qm 10 s).length = 1
  · rw [hlen, h1]
    rfl
  rw [show ((((Qm 10 s).dropLast).length : Int) == (0 : Int)) = false from by
    cases hz : ((((Qm 10 s).dropLast).length : Int) == (0 : Int)) with
    | false => rfl
    | true => have := eq_of_beq hz; omega, decide_eq_false (show ¬ ((Qm 10 s).length : Int) < 2 by omega), cond_false, cond_false]
  have hn : nth ((Qm 10 s).dropLast) 0 = nth (Qm 10 s) 0 := by
    unfold nth
    rw [List.getD_eq_getElem?_getD, List.getD_eq_getElem?_getD, List.getElem?_dropLast, if_pos (by omega)]
  have ht : List.take (Int.toNat (((Qm 10 s).length : Int) - 1)) (Qm 10 s) = (Qm 10 s).dropLast := by
    rw [List.dropLast_eq_take, show Int.toNat (((Qm 10 s).length : Int) - 1) = (Qm 10 s).length - 1 by omega]
  rw [hn, ht, FM, U2, S1]
  cases hu : (Qg (nth (Qm 10 s) 0)).2 with
  | true => rfl
  | false =>
    have hz : (Qg (nth (Qm 10 s) 0)).1 = 0 := by
      unfold Qg at hu ⊢
      cases hp : Ah (nth (Qm 10 s) 0) with
      | none => rfl
      | some n => rw [hp] at hu; cases hu
    rw [hz, VT _ (by omega)]
    have hs : ((⟨#[]⟩ : ByteArray).toList == s.toList) = false := by
      cases hz : ((⟨#[]⟩ : ByteArray).toList == s.toList) with
      | false => rfl
      | true => rw [← Up hz] at h1; exact absurd rfl h1
    rw [hs]
    simp only [Bool.not_false, Bool.or_true, Bool.true_or, cond_true]
theorem FN {c : Bool} {n : Int} {x : Qp} (h : (bif c then ((0, ZS, false) : Int × Qp × Bool) else (n, x, true)).2.2 = false) : (bif c then ((0, ZS, false) : Int × Qp × Bool) else (n, x, true)) = (0, ZS, false) := by
  cases c with
  | true => rfl
  | false => cases h
theorem FO (d : U4) : Xi d = Yl d := by
  unfold Xi Yl
  rw [Iv, Iv]
  have hz : ∀ s, (Qr s).2.2 = false → Qr s = (0, ZS, false) := fun s h => by
    unfold Qr at h ⊢
    cases h1 : decide (((Qm 10 s).length : Int) < (2 : Int)) with
    | true => rfl
    | false =>
      rw [h1] at h
      simp only [cond_false] at h ⊢
      exact FN h
  have h1 := hz d.1
  have h2 := hz d.2
  generalize Qr d.1 = a at h1 ⊢
  generalize Qr d.2 = b at h2 ⊢
  obtain ⟨n, x, p⟩ := a
  obtain ⟨m, y, q⟩ := b
  cases p with
  | true =>
    cases q with
    | true =>
      by_cases h : m > n
      · simp [h, show ¬ n ≥ m by omega]
      simp [h, show n ≥ m by omega]
    | false => rfl
  | false =>
    cases q with
    | true => rfl
    | false =>
      have e1 := h1 rfl
      have e2 := h2 rfl
      rw [e1, e2]
      rfl
theorem SJ (t : ByteArray) (k : Int) (h : 0 ≤ k ∧ k ≤ (t.size : Int)) : ((ByteArray.extract t (Int.toNat 0) (Int.toNat k)).toList == t.toList) = (k == (t.size : Int)) := by
  obtain ⟨m, rfl⟩ := Int.eq_ofNat_of_zero_le h.1
  have hs : (ByteArray.extract t (Int.toNat 0) (Int.toNat (m : Int))).size = m := by rw [ByteArray.size_extract]; omega
  by_cases e : m = t.size
  · subst e
    rw [beq_self_eq_true]
    have : ByteArray.extract t (Int.toNat 0) (Int.toNat (t.size : Int)) = t := by
      apply ByteArray.ext
      rw [ByteArray.data_extract]
      simp
    rw [this, beq_self_eq_true]
  rw [show (((m : Nat) : Int) == (t.size : Int)) = false from by
    cases hz : (((m : Nat) : Int) == (t.size : Int)) with
    | false => rfl
    | true => have := eq_of_beq hz; omega]
  cases hz : ((ByteArray.extract t (Int.toNat 0) (Int.toNat (m : Int))).toList == t.toList) with
  | false => rfl
  | true => rw [Up hz] at hs; exact absurd hs.symm e
theorem ZW (d : U4) (x : Qp) (keep : Int) : K9 d x keep = Yy d x keep := by
  unfold K9 Yy Xs
  rw [FO, S1]
  dsimp only
  generalize Zv (IntKind.i64.wrap ((Yl d).1 + 1)) x = t
  cases (t.toList == (⟨#[]⟩ : ByteArray).toList) with
  | true => rfl
  | false =>
    have hb := QB keep (t.size : Int) (by omega)
    rw [UO _ _ _ (by omega), SJ t _ hb]
    cases (Yl d).2.2.2 <;> rfl
open GoD (rd own)
open GoE (enc wide)
def szI (t : Nat) (left : Int) : Int := bif decide ((t : Int) ≤ left) then left - t else -1
theorem Qav {t : Nat} {left r : Int} (h : szq t left r) : r = szI t left := by
  unfold szq at h
  unfold szI
  by_cases hc : (t : Int) ≤ left
  · rw [decide_eq_true hc]; simp only [cond_true]; omega
  rw [decide_eq_false hc]; simp only [cond_false]; omega
theorem OF (t : Nat) (left : Int) : szI t left < 0 ∨ (0 ≤ szI t left ∧ szI t left = left - t ∧ (t : Int) ≤ left) := by
  by_cases hc : (t : Int) ≤ left
  · have : szI t left = left - t := by unfold szI; rw [decide_eq_true hc]; rfl
    omega
  have : szI t left = -1 := by unfold szI; rw [decide_eq_false hc]; rfl
  omega
theorem Qaw (t : Nat) {left : Int} (h0 : 0 ≤ left) (h1 : left ≤ 1048576) : InR .i64 (szI t left) := by
  rw [Dr]; unfold I64
  by_cases hc : (t : Int) ≤ left
  · have : szI t left = left - t := by unfold szI; rw [decide_eq_true hc]; rfl
    omega
  have : szI t left = -1 := by unfold szI; rw [decide_eq_false hc]; rfl
  omega
section
variable {α : Type} [GoE α] {P : Program} {f : Nat}
theorem SK {F : Nat → Prop} {w : World} {v : Value} {a : α} (h : AR (QU F) w v (Hp a)) : ∃ cs : List Value, v = .agg cs.toArray ∧ rd w cs a := by
  obtain ⟨vs, rfl, hr⟩ := h
  exact ⟨vs, rfl, GoE.vc_rd (TS hr fun _ => GoE.no_any)⟩
theorem FP {F : Nat → Prop} {w w' : World} {v : Value} {r : AV} (hb : Below w.heap.size w w') (hr : ∀ J, AR J w' v r) : GS F w r (.returned v) w' :=
  ⟨v, fun _ => [], rfl, hb, fun _ => List.nodup_nil, (fun _ _ h => by simp at h), (fun _ _ _ h => by simp at h), hr _⟩
theorem S3 (hok : Br P f) {a : α} {left : Int} (h0 : 0 ≤ left) (h1 : left ≤ 1048576) (h : ∀ w (cs : List Value), rd w cs a → Calls P f #[.agg cs.toArray, .int .i64 left] w (Ez w (GoD.size a) left)) : ACalls P f [Hp a, PN left] (PN (szI (GoD.size a) left)) := by
  refine ⟨hok, fun w _ F vals hF hall => ?_⟩
  cases hall with
  | cons h2 h3 => cases h3 with
    | cons h3 h4 =>
      cases h4
      obtain ⟨cs, rfl, hr⟩ := SK h2
      obtain ⟨rfl, _⟩ := h3
      refine (h w cs hr).mono ?_
      rintro e w' ⟨r, rfl, hq, hb⟩
      exact FP hb fun J => ⟨by rw [Qav hq], Qaw _ h0 h1⟩
end
/-! ### copies -/
section
variable {α : Type} [GoE α] {P : Program} {f : Nat}
end
/-! ### marks -/
section
variable {P : Program} {N : Nat} {w0 : Base} {F0 : Nat → Prop} {J : Inj} {a : Act} {w w' : World} {s : St}
theorem Rel.mark (h : Rel N w0 F0 J a w s) (ks : List Nat) {L : List Nat} (hL : ∀ b, b ∈ L → ∃ k, k ∈ ks ∧ b ∈ J.L k) (hc : Chg L w w') (d : Nat) (hd : d < N) (n : Int) (hn : InR .i64 n) (bx : Option (Nat × List C))
    (hb : ∀ k c, bx = some (k, c) → ∃ c0, get s.bx k = some c0 ∧ ∃ arr e, w.heap[J.B k]? = some (.cells arr e (0, 0)) ∧ ∀ J' : Inj, (∀ b, J'.F b ↔ J.F b ∨ b ∈ L) → All2 (CR J' w') arr.toList c) :
    ∃ J', (∀ b, J'.F b ↔ J.F b ∨ b ∈ L) ∧ (∀ k, J'.B k = J.B k) ∧ Rel N w0 F0 J' (a.put (some d) (.int .i64 n)) w' (s.step (some d) ⟨.one (.int .i64 n), Z0 ks, none, bx⟩) := by
  let J' : Inj := ⟨fun b => J.F b ∨ b ∈ L, fun k => if k ∈ ks then [] else J.L k, J.B⟩
  have hlo : ∀ b, b ∈ L → w0.lo (b) ∧ b < w.heap.size ∧ ¬ J.F b := fun b hb => by
    obtain ⟨k, _, hm⟩ := hL b hb
    exact h.lo k b hm
  have hun : ∀ b, b < w.heap.size → b ∉ L → w'.heap[b]? = w.heap[b]? := hc.block
  have hJL : ∀ k b, b ∈ J'.L k → k ∉ ks ∧ b ∈ J.L k := fun k b hm => by
    have hm : b ∈ (if k ∈ ks then [] else J.L k) := hm
    split at hm
    · simp at hm
    rename_i hk; exact ⟨hk, hm⟩
  have hout : ∀ k b, k ∉ ks → b ∈ J.L k → b ∉ L := fun k b hk hm hl => by
    obtain ⟨k', hk', hm'⟩ := hL b hl
    exact hk (h.dj k k' b hm hm' ▸ hk')
  have hboxL : ∀ k c, get s.bx k = some c → J.B k ∉ L := fun k c hk hl => by
    obtain ⟨k', _, hm⟩ := hL _ hl
    exact (h.bo k c hk).2.2.1 k' hm
  refine ⟨J', fun b => Iff.rfl, fun _ => rfl, ?_⟩
  refine h.upd (w' := w') (J' := J') (some d) (fun d' e => by cases e; exact hd) _ _ (h.below.step hc.os hc.tape hc.output hc.size fun b hb hnl => hun b hb fun hl => hnl (hlo b hl).1) ?_ ?_ (fun _ => ⟨rfl, hn⟩) ?_ ?_
  · constructor
    · exact fun b hb => ⟨.inl hb, hun b (h.fl b hb).1 fun hl => (hlo b hl).2.2 hb⟩
    · intro k hk
      rw [Vq] at hk
      split at hk
      · cases hk
      rename_i hn
      exact ⟨if_neg hn, fun b hb => hun b (h.lo k b hb).2.1 (hout k b hn hb)⟩
    · intro k hk; rw [Vq] at hk; split at hk <;> cases hk
    · intro k k' hk; rw [Vq] at hk; split at hk <;> cases hk
    · intro k t hk; rw [Vq] at hk; split at hk <;> cases hk
    · exact fun _ _ => rfl
    intro k d m i o cs hk; rw [Vq] at hk; split at hk <;> cases hk
  · constructor
    · intro b hb
      rcases hb with hb | hb
      · exact ⟨Nat.lt_of_lt_of_le (h.fl b hb).1 hc.size, (h.fl b hb).2⟩
      exact ⟨Nat.lt_of_lt_of_le (hlo b hb).2.1 hc.size, .inr (hlo b hb).1⟩
    · exact fun b hb => .inl (h.f0 b hb)
    · intro k
      show (if _ then _ else _ : List Nat).Nodup
      split
      · exact List.nodup_nil
      exact h.nd k
    · intro k b hm
      obtain ⟨hk, hm⟩ := hJL k b hm
      obtain ⟨h1, h2, h3⟩ := h.lo k b hm
      exact ⟨h1, Nat.lt_of_lt_of_le h2 hc.size, fun hF => hF.elim h3 (hout k b hk hm)⟩
    intro k k' b hm hm'
    exact h.dj k k' b (hJL k b hm).2 (hJL k' b hm').2
  · intro k c hk _
    obtain ⟨h1, h2, h3, arr, e, h4, _⟩ := h.bo k c hk
    refine ⟨by simp, fun hF => hF.elim h2 (hboxL k c hk), fun k' hm => h3 k' (hJL k' _ hm).2, hun _ ?_ (hboxL k c hk)⟩
    exact Q0 h4
  intro k c hk
  obtain ⟨c0, hg, arr, e, hh, hall⟩ := hb k c hk
  obtain ⟨h1, h2, h3, arr', e', h4, _⟩ := h.bo k c0 hg
  have hlt : J.B k < w.heap.size := Q0 h4
  exact ⟨h1, fun hF => hF.elim h2 (hboxL k c0 hg), fun k' hm => h3 k' (hJL k' _ hm).2, ⟨arr, e, (hun _ hlt (hboxL k c0 hg)).trans hh, hall J' fun _ => Iff.rfl⟩, fun k' c' hk' hne e => hne (h.bi k' k c' c0 hk' hg e)⟩
end
class GoM (α : Type) [GoE α] : Prop where
  mkw : ∀ {a : α} {k : Nat}, wide a → wide (GoD.mark a k).1
  mkT : ∀ {a : α} {k : Nat}, wide a → wide (GoD.markT a k).1
instance : GoM Int := ⟨fun _ => trivial, fun _ => trivial⟩
instance : GoM Bool := ⟨fun _ => trivial, fun _ => trivial⟩
instance : GoM ByteArray := ⟨fun _ => trivial, fun _ => trivial⟩
instance {α β : Type} [GoE α] [GoE β] [GoM α] [GoM β] : GoM (α × β) := ⟨fun h => ⟨GoM.mkw h.1, GoM.mkw h.2⟩, fun h => ⟨GoM.mkT h.1, GoM.mkT h.2⟩⟩
theorem L5 {α : Type} [GoE α] [GoM α] : ∀ {l : List α} {k : Nat}, (∀ a, a ∈ l → wide a) → ∀ a, a ∈ (Fk l k).1 → wide a
  | [], k, _, a, ha => by simp [Fk] at ha
  | x :: l, k, h, a, ha => by
    simp only [Fk, List.mem_cons] at ha
    rcases ha with rfl | ha
    · exact GoM.mkw (h x List.mem_cons_self)
    exact L5 (fun a ha => h a (List.mem_cons_of_mem _ ha)) a ha
instance {α : Type} [GoE α] [GoM α] : GoM (List α) := ⟨fun {l k} h => ⟨by rw [show (GoD.mark l k).1 = (Fk l k).1 from rfl, Gy]; exact h.1, L5 h.2⟩, fun {l k} h => ⟨by rw [show (GoD.markT l k).1 = (Fk l k).1 from rfl, Gy]; exact h.1, L5 h.2⟩⟩
section
variable {P : Program} {N : Nat} {w0 : Base} {F0 : Nat → Prop} {s s' : St} {Q : Exit → St → Prop}
end
end
section
open Go.RowKit
open GoD (rd own)
set_option maxRecDepth 100000
set_option maxHeartbeats 1000000
theorem cBz {w v : World} {a : Addr} {x : Value} (hB : Below w.heap.size w v) (h : w.cell? a = some x) : v.cell? a = some x := (hB.cell (World.block_lt_of_cell? w _ h)).trans h
theorem zSz : (∀ (w : World) o, (w.alloc o).heap.size = w.heap.size + 1) ∧ (∀ (w : World) a v, (w.setCell a v).heap.size = w.heap.size) ∧ ∀ w : World, w.drew.heap.size = w.heap.size := ⟨fun _ _ => World.size_alloc .., fun _ _ _ => World.size_setCell .., fun _ => rfl⟩
abbrev zI {α : Type} [GoD α] (l : List α) (left : Int) (w : World) (q i : Value) (wr : World) : Prop := ∃ (k : Nat) (r : Int), k ≤ l.length ∧ i = .int .i64 k ∧ q = .int .i64 r ∧ 0 ≤ r ∧ r ≤ 1048576 ∧ Hid (r = left - l.length - ((l.take k).map GoD.size).sum) ∧ Below w.heap.size w wr
theorem HC (w : World) (ca : List Value) (a : U4) (left : Int) (ha : rd w ca a) (h0 : 0 ≤ left) (h1 : left ≤ 1048576) : Calls Tryz.prog 4 #[.agg ca.toArray, .int .i64 left] w (Ez w (GoD.size a) left) := by
  obtain ⟨a1, a2⟩ := a
  obtain ⟨ac1, at1, rfl, ar1, ar2⟩ := ha
  obtain ⟨rfl, ar1⟩ := ar1
  obtain ⟨rfl, ar2⟩ := ar2
  dsimp only [List.cons_append, List.nil_append] at *
  unfold maxLen at ar1
  have ar1 : a1.size ≤ 9223372036854775807 := by omega
  unfold maxLen at ar2
  have ar2 : a2.size ≤ 9223372036854775807 := by omega
  have hsz : GoD.size (a1, a2) = (a1.size + a2.size) := rfl
  have HSZ := Lib.hid hsz; clear hsz
  go_enter Tryz.func4, Tryz.ntmps4
  go_wp2
  all_goals
    go_ret
    refine ⟨_, rfl, ?_, by go_grown⟩
    rw [HSZ.out]
    unfold szq
    (try unfold szq at *)
    go_light
    omega
theorem ZX (w : World) (ca : List Value) (a : Z7) (left : Int) (ha : rd w ca a) (h0 : 0 ≤ left) (h1 : left ≤ 1048576) : Calls Tryz.prog 89 #[.agg ca.toArray, .int .i64 left] w (Ez w (GoD.size a) left) := by
  obtain ⟨a1, a2, a3⟩ := a
  obtain ⟨ac1, at1, rfl, ar1, ac2, at2, rfl, ar2, ar3⟩ := ha
  obtain ⟨rfl, ar1⟩ := ar1
  obtain ⟨rfl, ar2⟩ := ar2
  obtain ⟨rfl, ar3⟩ := ar3
  dsimp only [List.cons_append, List.nil_append] at *
  clear ar1
  clear ar2
  unfold maxLen at ar3
  have ar3 : a3.size ≤ 9223372036854775807 := by omega
  have hsz : GoD.size (a1, a2, a3) = (0 + (0 + a3.size)) := rfl
  have HSZ := Lib.hid hsz; clear hsz
  go_enter Tryz.func89, Tryz.ntmps89
  go_wp2
  all_goals
    go_ret
    refine ⟨_, rfl, ?_, by go_grown⟩
    rw [HSZ.out]
    unfold szq
    (try unfold szq at *)
    go_light
    omega
theorem ME (w : World) (ca : List Value) (a : Vc) (left : Int) (ha : rd w ca a) (h0 : 0 ≤ left) (h1 : left ≤ 1048576) : Calls Tryz.prog 88 #[.agg ca.toArray, .int .i64 left] w (Ez w (GoD.size a) left) := by
  obtain ⟨a1, a2⟩ := a
  obtain ⟨ac1, at1, rfl, ar1, ar2⟩ := ha
  obtain ⟨rfl, ar1⟩ := ar1
  obtain ⟨ax2_0, ax2_1, ax2_2, rfl⟩ := Qbo (show _ = 3 from GoD.rd_len ar2)
  dsimp only [List.cons_append, List.nil_append] at *
  unfold maxLen at ar1
  have ar1 : a1.size ≤ 9223372036854775807 := by omega
  have AR2H := Lib.hid ar2; clear ar2
  have tok1 : True := trivial
  have hsz : GoD.size (a1, a2) = (a1.size + GoD.size a2) := rfl
  have HSZ := Lib.hid hsz; clear hsz
  go_enter Tryz.func88, Tryz.ntmps88
  go_wp2_with (first | (go_at_call 89; have tk := tok1; clear tok1; refine Uq (w := w) (ZX _ [ax2_0, ax2_1, ax2_2] a2 _ (Kw AR2H.out (by go_grown)) (by omega) (by omega)) (by go_grown) ?_; intro w1 r1 hB hb hz hz2 hr hs; have HR1 := Lib.hid hr; clear hr; (try simp only [zSz] at hz2); have c0 := fun o => Mn hb (w.heap.size) o (by go_size); clear hb))
  all_goals
    go_ret
    refine ⟨_, rfl, ?_, by go_grown⟩
    rw [HSZ.out]
    unfold szq
    (try have u1 := HR1.out)
    (try unfold szq at *)
    go_light
    omega
theorem FQ (w : World) (ca : List Value) (a : X9) (left : Int) (ha : rd w ca a) (h0 : 0 ≤ left) (h1 : left ≤ 1048576) : Calls Tryz.prog 40 #[.agg ca.toArray, .int .i64 left] w (Ez w (GoD.size a) left) := by
  obtain ⟨a1, a2⟩ := a
  obtain ⟨ac1, at1, rfl, ar1, ar2⟩ := ha
  obtain ⟨rfl, ar1⟩ := ar1
  obtain ⟨rfl, ar2⟩ := ar2
  dsimp only [List.cons_append, List.nil_append] at *
  unfold maxLen at ar1
  have ar1 : a1.size ≤ 9223372036854775807 := by omega
  clear ar2
  have hsz : GoD.size (a1, a2) = (a1.size + 0) := rfl
  have HSZ := Lib.hid hsz; clear hsz
  go_enter Tryz.func40, Tryz.ntmps40
  go_wp2
  all_goals
    go_ret
    refine ⟨_, rfl, ?_, by go_grown⟩
    rw [HSZ.out]
    unfold szq
    (try unfold szq at *)
    go_light
    omega
theorem AW (w : World) (v : Value) (l : List X9) (left : Int) (ha : rd w [v] l) (h0 : 0 ≤ left) (h1 : left ≤ 1048576) : Calls Tryz.prog 23 #[v, .int .i64 left] w (Ez w (GoD.size l) left) := by
  obtain ⟨oa, cap, e1, hl, hm, hel⟩ := ha
  obtain rfl : v = _ := by simpa using e1
  clear e1
  have HE := Lib.hid hel; clear hel
  unfold maxLen at hm
  have hlm : l.length ≤ 9223372036854775807 := by omega
  have hsz : GoD.size l = l.length + (l.map GoD.size).sum := rfl
  have HSZ := Lib.hid hsz; clear hsz
  by_cases hneg : left - l.length < 0
  · go_enter Tryz.func23, Tryz.ntmps23
    go_wp2
    go_ret
    refine ⟨_, rfl, ?_, Below.refl _ _⟩
    rw [HSZ.out]
    unfold szq
    omega
  go_enter Tryz.func23, Tryz.ntmps23
  go_wp2
  go_loopw [1, 5] (zI l left w) (fun _ i _ => l.length - (intOf i).toNat)
  case atStart => exact ⟨0, _, Nat.zero_le _, rfl, rfl, by omega, by omega, by show _ = _; simp, Below.refl _ _⟩
  case round =>
    obtain ⟨k, r, hk, rfl, rfl, hr0, hr1, HR, hB⟩ := hrel
    by_cases hkl : k < l.length
    · have hx := List.getElem?_eq_getElem hkl
      obtain ⟨eb, eo, ee, rfl, hcl, hcc, hxr⟩ := HE.out k _ hx
      have HT := Lib.hid (El hx)
      have HU := Lib.hid (Hs hx)
      clear hx
      generalize l[k] = x at *
      obtain ⟨x0, x1, rfl⟩ := QV (show _ = 2 from hcl)
      have p0 : wr.cell? ⟨eb, eo + k * 2, none⟩ = some x0 := cBz hB (hcc 0 _ rfl)
      have p1 : wr.cell? ⟨eb, eo + k * 2 + 1, none⟩ = some x1 := cBz hB (hcc 1 _ rfl)
      have HXR := Lib.hid hxr; clear hxr hcc hcl
      go_wp2_with (go_at_call 40; refine Uq (w := w) (FQ _ [x0, x1] x _ (Kw HXR.out hB) (by omega) (by omega)) (by go_grown) ?_; intro w2 r2 hB2 hb hz hz2 hr2 hs; have HR2 := Lib.hid hr2; clear hr2 hb)
      · go_ret
        refine ⟨_, rfl, ?_, by go_grown⟩
        have u1 := HU.out; have u2 := HR2.out; have u3 := HR.out
        rw [HSZ.out]
        unfold szq at *
        go_light
        omega
      go_roundw
      case rel => exact ⟨k + 1, _, by omega, by go_num, rfl, by omega, by omega, by
      show _ = _
      have u1 := HT.out; have u2 := HR2.out; have u3 := HR.out
      unfold szq at *
      rw [u1]
      omega, by go_grown⟩
      case measure => simp [intOf]; omega
    obtain rfl : k = l.length := by omega
    go_wp2
    go_ret
    refine ⟨_, rfl, ?_, hB⟩
    have u3 := HR.out
    rw [List.take_length] at u3
    rw [HSZ.out]
    unfold szq
    omega
theorem FR (w : World) (v : Value) (l : List Vc) (left : Int) (ha : rd w [v] l) (h0 : 0 ≤ left) (h1 : left ≤ 1048576) : Calls Tryz.prog 64 #[v, .int .i64 left] w (Ez w (GoD.size l) left) := by
  obtain ⟨oa, cap, e1, hl, hm, hel⟩ := ha
  obtain rfl : v = _ := by simpa using e1
  clear e1
  have HE := Lib.hid hel; clear hel
  unfold maxLen at hm
  have hlm : l.length ≤ 9223372036854775807 := by omega
  have hsz : GoD.size l = l.length + (l.map GoD.size).sum := rfl
  have HSZ := Lib.hid hsz; clear hsz
  by_cases hneg : left - l.length < 0
  · go_enter Tryz.func64, Tryz.ntmps64
    go_wp2
    go_ret
    refine ⟨_, rfl, ?_, Below.refl _ _⟩
    rw [HSZ.out]
    unfold szq
    omega
  go_enter Tryz.func64, Tryz.ntmps64
  go_wp2
  go_loopw [1, 5] (zI l left w) (fun _ i _ => l.length - (intOf i).toNat)
  case atStart => exact ⟨0, _, Nat.zero_le _, rfl, rfl, by omega, by omega, by show _ = _; simp, Below.refl _ _⟩
  case round =>
    obtain ⟨k, r, hk, rfl, rfl, hr0, hr1, HR, hB⟩ := hrel
    by_cases hkl : k < l.length
    · have hx := List.getElem?_eq_getElem hkl
      obtain ⟨eb, eo, ee, rfl, hcl, hcc, hxr⟩ := HE.out k _ hx
      have HT := Lib.hid (El hx)
      have HU := Lib.hid (Hs hx)
      clear hx
      generalize l[k] = x at *
      obtain ⟨x0, x1, x2, x3, rfl⟩ := Qcg (show _ = 4 from hcl)
      have p0 : wr.cell? ⟨eb, eo + k * 4, none⟩ = some x0 := cBz hB (hcc 0 _ rfl)
      have p1 : wr.cell? ⟨eb, eo + k * 4 + 1, none⟩ = some x1 := cBz hB (hcc 1 _ rfl)
      have p2 : wr.cell? ⟨eb, eo + k * 4 + 2, none⟩ = some x2 := cBz hB (hcc 2 _ rfl)
      have p3 : wr.cell? ⟨eb, eo + k * 4 + 3, none⟩ = some x3 := cBz hB (hcc 3 _ rfl)
      have HXR := Lib.hid hxr; clear hxr hcc hcl
      go_wp2_with (go_at_call 88; refine Uq (w := w) (ME _ [x0, x1, x2, x3] x _ (Kw HXR.out hB) (by omega) (by omega)) (by go_grown) ?_; intro w2 r2 hB2 hb hz hz2 hr2 hs; have HR2 := Lib.hid hr2; clear hr2 hb)
      · go_ret
        refine ⟨_, rfl, ?_, by go_grown⟩
        have u1 := HU.out; have u2 := HR2.out; have u3 := HR.out
        rw [HSZ.out]
        unfold szq at *
        go_light
        omega
      go_roundw
      case rel => exact ⟨k + 1, _, by omega, by go_num, rfl, by omega, by omega, by
      show _ = _
      have u1 := HT.out; have u2 := HR2.out; have u3 := HR.out
      unfold szq at *
      rw [u1]
      omega, by go_grown⟩
      case measure => simp [intOf]; omega
    obtain rfl : k = l.length := by omega
    go_wp2
    go_ret
    refine ⟨_, rfl, ?_, hB⟩
    have u3 := HR.out
    rw [List.take_length] at u3
    rw [HSZ.out]
    unfold szq
    omega
theorem MF (w : World) (ca : List Value) (a : Jk) (left : Int) (ha : rd w ca a) (h0 : 0 ≤ left) (h1 : left ≤ 1048576) : Calls Tryz.prog 41 #[.agg ca.toArray, .int .i64 left] w (Ez w (GoD.size a) left) := by
  obtain ⟨a1, a2, a3, a4, a5⟩ := a
  obtain ⟨ac1, at1, rfl, ar1, ac2, at2, rfl, ar2, ac3, at3, rfl, ar3, ac4, at4, rfl, ar4, ar5⟩ := ha
  obtain ⟨rfl, ar1⟩ := ar1
  obtain ⟨rfl, ar2⟩ := ar2
  obtain rfl := ar3
  obtain ⟨rfl, ar4⟩ := ar4
  obtain ⟨ax5_0, rfl⟩ := Fv (show _ = 1 from GoD.rd_len ar5)
  dsimp only [List.cons_append, List.nil_append] at *
  clear ar1
  clear ar2
  clear ar4
  have AR5H := Lib.hid ar5; clear ar5
  have tok1 : True := trivial
  have hsz : GoD.size (a1, a2, a3, a4, a5) = (0 + (0 + (0 + (0 + GoD.size a5)))) := rfl
  have HSZ := Lib.hid hsz; clear hsz
  go_enter Tryz.func41, Tryz.ntmps41
  go_wp2_with (first | (go_at_call 64; have tk := tok1; clear tok1; refine Uq (w := w) (FR _ ax5_0 a5 _ (Kw AR5H.out (by go_grown)) (by omega) (by omega)) (by go_grown) ?_; intro w1 r1 hB hb hz hz2 hr hs; have HR1 := Lib.hid hr; clear hr; (try simp only [zSz] at hz2); have c0 := fun o => Mn hb (w.heap.size) o (by go_size); clear hb))
  all_goals
    go_ret
    refine ⟨_, rfl, ?_, by go_grown⟩
    rw [HSZ.out]
    unfold szq
    (try have u1 := HR1.out)
    (try unfold szq at *)
    go_light
    omega
theorem Qq0 (w : World) (v : Value) (l : List Jk) (left : Int) (ha : rd w [v] l) (h0 : 0 ≤ left) (h1 : left ≤ 1048576) : Calls Tryz.prog 24 #[v, .int .i64 left] w (Ez w (GoD.size l) left) := by
  obtain ⟨oa, cap, e1, hl, hm, hel⟩ := ha
  obtain rfl : v = _ := by simpa using e1
  clear e1
  have HE := Lib.hid hel; clear hel
  unfold maxLen at hm
  have hlm : l.length ≤ 9223372036854775807 := by omega
  have hsz : GoD.size l = l.length + (l.map GoD.size).sum := rfl
  have HSZ := Lib.hid hsz; clear hsz
  by_cases hneg : left - l.length < 0
  · go_enter Tryz.func24, Tryz.ntmps24
    go_wp2
    go_ret
    refine ⟨_, rfl, ?_, Below.refl _ _⟩
    rw [HSZ.out]
    unfold szq
    omega
  go_enter Tryz.func24, Tryz.ntmps24
  go_wp2
  go_loopw [1, 5] (zI l left w) (fun _ i _ => l.length - (intOf i).toNat)
  case atStart => exact ⟨0, _, Nat.zero_le _, rfl, rfl, by omega, by omega, by show _ = _; simp, Below.refl _ _⟩
  case round =>
    obtain ⟨k, r, hk, rfl, rfl, hr0, hr1, HR, hB⟩ := hrel
    by_cases hkl : k < l.length
    · have hx := List.getElem?_eq_getElem hkl
      obtain ⟨eb, eo, ee, rfl, hcl, hcc, hxr⟩ := HE.out k _ hx
      have HT := Lib.hid (El hx)
      have HU := Lib.hid (Hs hx)
      clear hx
      generalize l[k] = x at *
      obtain ⟨x0, x1, x2, x3, x4, rfl⟩ := Qch (show _ = 5 from hcl)
      have p0 : wr.cell? ⟨eb, eo + k * 5, none⟩ = some x0 := cBz hB (hcc 0 _ rfl)
      have p1 : wr.cell? ⟨eb, eo + k * 5 + 1, none⟩ = some x1 := cBz hB (hcc 1 _ rfl)
      have p2 : wr.cell? ⟨eb, eo + k * 5 + 2, none⟩ = some x2 := cBz hB (hcc 2 _ rfl)
      have p3 : wr.cell? ⟨eb, eo + k * 5 + 3, none⟩ = some x3 := cBz hB (hcc 3 _ rfl)
      have p4 : wr.cell? ⟨eb, eo + k * 5 + 4, none⟩ = some x4 := cBz hB (hcc 4 _ rfl)
      have HXR := Lib.hid hxr; clear hxr hcc hcl
      go_wp2_with (go_at_call 41; refine Uq (w := w) (MF _ [x0, x1, x2, x3, x4] x _ (Kw HXR.out hB) (by omega) (by omega)) (by go_grown) ?_; intro w2 r2 hB2 hb hz hz2 hr2 hs; have HR2 := Lib.hid hr2; clear hr2 hb)
      · go_ret
        refine ⟨_, rfl, ?_, by go_grown⟩
        have u1 := HU.out; have u2 := HR2.out; have u3 := HR.out
        rw [HSZ.out]
        unfold szq at *
        go_light
        omega
      go_roundw
      case rel => exact ⟨k + 1, _, by omega, by go_num, rfl, by omega, by omega, by
      show _ = _
      have u1 := HT.out; have u2 := HR2.out; have u3 := HR.out
      unfold szq at *
      rw [u1]
      omega, by go_grown⟩
      case measure => simp [intOf]; omega
    obtain rfl : k = l.length := by omega
    go_wp2
    go_ret
    refine ⟨_, rfl, ?_, hB⟩
    have u3 := HR.out
    rw [List.take_length] at u3
    rw [HSZ.out]
    unfold szq
    omega
theorem FT (w : World) (ca : List Value) (a : Ao) (left : Int) (ha : rd w ca a) (h0 : 0 ≤ left) (h1 : left ≤ 1048576) : Calls Tryz.prog 12 #[.agg ca.toArray, .int .i64 left] w (Ez w (GoD.size a) left) := by
  obtain ⟨a1, a2, a3⟩ := a
  obtain ⟨ac1, at1, rfl, ar1, ac2, at2, rfl, ar2, ar3⟩ := ha
  obtain ⟨ax1_0, rfl⟩ := Fv (show _ = 1 from GoD.rd_len ar1)
  obtain ⟨ax2_0, rfl⟩ := Fv (show _ = 1 from GoD.rd_len ar2)
  obtain ⟨rfl, ar3⟩ := ar3
  dsimp only [List.cons_append, List.nil_append] at *
  have AR1H := Lib.hid ar1; clear ar1
  have AR2H := Lib.hid ar2; clear ar2
  clear ar3
  have tok1 : True := trivial
  have tok2 : True := trivial
  have hsz : GoD.size (a1, a2, a3) = (GoD.size a1 + (GoD.size a2 + 0)) := rfl
  have HSZ := Lib.hid hsz; clear hsz
  go_enter Tryz.func12, Tryz.ntmps12
  go_wp2_with (first | (go_at_call 23; have tk := tok1; clear tok1; refine Uq (w := w) (AW _ ax1_0 a1 _ (Kw AR1H.out (by go_grown)) (by omega) (by omega)) (by go_grown) ?_; intro w1 r1 hB hb hz hz2 hr hs; have HR1 := Lib.hid hr; clear hr; (try simp only [zSz] at hz2); have c0 := fun o => Mn hb (w.heap.size) o (by go_size); clear hb) | (go_at_call 24; have tk := tok2; clear tok2; refine Uq (w := w) (Qq0 _ ax2_0 a2 _ (Kw AR2H.out (by go_grown)) (by omega) (by omega)) (by go_grown) ?_; intro w2 r2 hB hb hz hz2 hr hs; have HR2 := Lib.hid hr; clear hr; (try simp only [zSz] at hz2); have c0 := fun o => Mn hb (w.heap.size) o (by go_size); clear hb))
  all_goals
    go_ret
    refine ⟨_, rfl, ?_, by go_grown⟩
    rw [HSZ.out]
    unfold szq
    (try have u1 := HR1.out)
    (try have u2 := HR2.out)
    (try unfold szq at *)
    go_light
    omega
theorem MG (w : World) (ca : List Value) (a : Qw) (left : Int) (ha : rd w ca a) (h0 : 0 ≤ left) (h1 : left ≤ 1048576) : Calls Tryz.prog 65 #[.agg ca.toArray, .int .i64 left] w (Ez w (GoD.size a) left) := by
  obtain ⟨a1, a2, a3, a4, a5⟩ := a
  obtain ⟨ac1, at1, rfl, ar1, ac2, at2, rfl, ar2, ac3, at3, rfl, ar3, ac4, at4, rfl, ar4, ar5⟩ := ha
  obtain ⟨rfl, ar1⟩ := ar1
  obtain ⟨rfl, ar2⟩ := ar2
  obtain ⟨rfl, ar3⟩ := ar3
  obtain ⟨rfl, ar4⟩ := ar4
  obtain ⟨ax5_0, ax5_1, ax5_2, rfl⟩ := Qbo (show _ = 3 from GoD.rd_len ar5)
  dsimp only [List.cons_append, List.nil_append] at *
  clear ar1
  clear ar2
  clear ar3
  unfold maxLen at ar4
  have ar4 : a4.size ≤ 9223372036854775807 := by omega
  have AR5H := Lib.hid ar5; clear ar5
  have tok1 : True := trivial
  have hsz : GoD.size (a1, a2, a3, a4, a5) = (0 + (0 + (0 + (a4.size + GoD.size a5)))) := rfl
  have HSZ := Lib.hid hsz; clear hsz
  go_enter Tryz.func65, Tryz.ntmps65
  go_wp2_with (first | (go_at_call 89; have tk := tok1; clear tok1; refine Uq (w := w) (ZX _ [ax5_0, ax5_1, ax5_2] a5 _ (Kw AR5H.out (by go_grown)) (by omega) (by omega)) (by go_grown) ?_; intro w1 r1 hB hb hz hz2 hr hs; have HR1 := Lib.hid hr; clear hr; (try simp only [zSz] at hz2); have c0 := fun o => Mn hb (w.heap.size) o (by go_size); clear hb))
  all_goals
    go_ret
    refine ⟨_, rfl, ?_, by go_grown⟩
    rw [HSZ.out]
    unfold szq
    (try have u1 := HR1.out)
    (try unfold szq at *)
    go_light
    omega
theorem FU (w : World) (v : Value) (l : List Qw) (left : Int) (ha : rd w [v] l) (h0 : 0 ≤ left) (h1 : left ≤ 1048576) : Calls Tryz.prog 42 #[v, .int .i64 left] w (Ez w (GoD.size l) left) := by
  obtain ⟨oa, cap, e1, hl, hm, hel⟩ := ha
  obtain rfl : v = _ := by simpa using e1
  clear e1
  have HE := Lib.hid hel; clear hel
  unfold maxLen at hm
  have hlm : l.length ≤ 9223372036854775807 := by omega
  have hsz : GoD.size l = l.length + (l.map GoD.size).sum := rfl
  have HSZ := Lib.hid hsz; clear hsz
  by_cases hneg : left - l.length < 0
  · go_enter Tryz.func42, Tryz.ntmps42
    go_wp2
    go_ret
    refine ⟨_, rfl, ?_, Below.refl _ _⟩
    rw [HSZ.out]
    unfold szq
    omega
  go_enter Tryz.func42, Tryz.ntmps42
  go_wp2
  go_loopw [1, 5] (zI l left w) (fun _ i _ => l.length - (intOf i).toNat)
  case atStart => exact ⟨0, _, Nat.zero_le _, rfl, rfl, by omega, by omega, by show _ = _; simp, Below.refl _ _⟩
  case round =>
    obtain ⟨k, r, hk, rfl, rfl, hr0, hr1, HR, hB⟩ := hrel
    by_cases hkl : k < l.length
    · have hx := List.getElem?_eq_getElem hkl
      obtain ⟨eb, eo, ee, rfl, hcl, hcc, hxr⟩ := HE.out k _ hx
      have HT := Lib.hid (El hx)
      have HU := Lib.hid (Hs hx)
      clear hx
      generalize l[k] = x at *
      obtain ⟨x0, x1, x2, x3, x4, x5, x6, rfl⟩ := Qci (show _ = 7 from hcl)
      have p0 : wr.cell? ⟨eb, eo + k * 7, none⟩ = some x0 := cBz hB (hcc 0 _ rfl)
      have p1 : wr.cell? ⟨eb, eo + k * 7 + 1, none⟩ = some x1 := cBz hB (hcc 1 _ rfl)
      have p2 : wr.cell? ⟨eb, eo + k * 7 + 2, none⟩ = some x2 := cBz hB (hcc 2 _ rfl)
      have p3 : wr.cell? ⟨eb, eo + k * 7 + 3, none⟩ = some x3 := cBz hB (hcc 3 _ rfl)
      have p4 : wr.cell? ⟨eb, eo + k * 7 + 4, none⟩ = some x4 := cBz hB (hcc 4 _ rfl)
      have p5 : wr.cell? ⟨eb, eo + k * 7 + 5, none⟩ = some x5 := cBz hB (hcc 5 _ rfl)
      have p6 : wr.cell? ⟨eb, eo + k * 7 + 6, none⟩ = some x6 := cBz hB (hcc 6 _ rfl)
      have HXR := Lib.hid hxr; clear hxr hcc hcl
      go_wp2_with (go_at_call 65; refine Uq (w := w) (MG _ [x0, x1, x2, x3, x4, x5, x6] x _ (Kw HXR.out hB) (by omega) (by omega)) (by go_grown) ?_; intro w2 r2 hB2 hb hz hz2 hr2 hs; have HR2 := Lib.hid hr2; clear hr2 hb)
      · go_ret
        refine ⟨_, rfl, ?_, by go_grown⟩
        have u1 := HU.out; have u2 := HR2.out; have u3 := HR.out
        rw [HSZ.out]
        unfold szq at *
        go_light
        omega
      go_roundw
      case rel => exact ⟨k + 1, _, by omega, by go_num, rfl, by omega, by omega, by
      show _ = _
      have u1 := HT.out; have u2 := HR2.out; have u3 := HR.out
      unfold szq at *
      rw [u1]
      omega, by go_grown⟩
      case measure => simp [intOf]; omega
    obtain rfl : k = l.length := by omega
    go_wp2
    go_ret
    refine ⟨_, rfl, ?_, hB⟩
    have u3 := HR.out
    rw [List.take_length] at u3
    rw [HSZ.out]
    unfold szq
    omega
theorem SL (w : World) (ca : List Value) (a : Z9) (left : Int) (ha : rd w ca a) (h0 : 0 ≤ left) (h1 : left ≤ 1048576) : Calls Tryz.prog 25 #[.agg ca.toArray, .int .i64 left] w (Ez w (GoD.size a) left) := by
  obtain ⟨a1, a2⟩ := a
  obtain ⟨ac1, at1, rfl, ar1, ar2⟩ := ha
  obtain ⟨rfl, ar1⟩ := ar1
  obtain ⟨ax2_0, rfl⟩ := Fv (show _ = 1 from GoD.rd_len ar2)
  dsimp only [List.cons_append, List.nil_append] at *
  unfold maxLen at ar1
  have ar1 : a1.size ≤ 9223372036854775807 := by omega
  have AR2H := Lib.hid ar2; clear ar2
  have tok1 : True := trivial
  have hsz : GoD.size (a1, a2) = (a1.size + GoD.size a2) := rfl
  have HSZ := Lib.hid hsz; clear hsz
  go_enter Tryz.func25, Tryz.ntmps25
  go_wp2_with (first | (go_at_call 42; have tk := tok1; clear tok1; refine Uq (w := w) (FU _ ax2_0 a2 _ (Kw AR2H.out (by go_grown)) (by omega) (by omega)) (by go_grown) ?_; intro w1 r1 hB hb hz hz2 hr hs; have HR1 := Lib.hid hr; clear hr; (try simp only [zSz] at hz2); have c0 := fun o => Mn hb (w.heap.size) o (by go_size); clear hb))
  all_goals
    go_ret
    refine ⟨_, rfl, ?_, by go_grown⟩
    rw [HSZ.out]
    unfold szq
    (try have u1 := HR1.out)
    (try unfold szq at *)
    go_light
    omega
theorem MH (w : World) (v : Value) (l : List Z9) (left : Int) (ha : rd w [v] l) (h0 : 0 ≤ left) (h1 : left ≤ 1048576) : Calls Tryz.prog 13 #[v, .int .i64 left] w (Ez w (GoD.size l) left) := by
  obtain ⟨oa, cap, e1, hl, hm, hel⟩ := ha
  obtain rfl : v = _ := by simpa using e1
  clear e1
  have HE := Lib.hid hel; clear hel
  unfold maxLen at hm
  have hlm : l.length ≤ 9223372036854775807 := by omega
  have hsz : GoD.size l = l.length + (l.map GoD.size).sum := rfl
  have HSZ := Lib.hid hsz; clear hsz
  by_cases hneg : left - l.length < 0
  · go_enter Tryz.func13, Tryz.ntmps13
    go_wp2
    go_ret
    refine ⟨_, rfl, ?_, Below.refl _ _⟩
    rw [HSZ.out]
    unfold szq
    omega
  go_enter Tryz.func13, Tryz.ntmps13
  go_wp2
  go_loopw [1, 5] (zI l left w) (fun _ i _ => l.length - (intOf i).toNat)
  case atStart => exact ⟨0, _, Nat.zero_le _, rfl, rfl, by omega, by omega, by show _ = _; simp, Below.refl _ _⟩
  case round =>
    obtain ⟨k, r, hk, rfl, rfl, hr0, hr1, HR, hB⟩ := hrel
    by_cases hkl : k < l.length
    · have hx := List.getElem?_eq_getElem hkl
      obtain ⟨eb, eo, ee, rfl, hcl, hcc, hxr⟩ := HE.out k _ hx
      have HT := Lib.hid (El hx)
      have HU := Lib.hid (Hs hx)
      clear hx
      generalize l[k] = x at *
      obtain ⟨x0, x1, rfl⟩ := QV (show _ = 2 from hcl)
      have p0 : wr.cell? ⟨eb, eo + k * 2, none⟩ = some x0 := cBz hB (hcc 0 _ rfl)
      have p1 : wr.cell? ⟨eb, eo + k * 2 + 1, none⟩ = some x1 := cBz hB (hcc 1 _ rfl)
      have HXR := Lib.hid hxr; clear hxr hcc hcl
      go_wp2_with (go_at_call 25; refine Uq (w := w) (SL _ [x0, x1] x _ (Kw HXR.out hB) (by omega) (by omega)) (by go_grown) ?_; intro w2 r2 hB2 hb hz hz2 hr2 hs; have HR2 := Lib.hid hr2; clear hr2 hb)
      · go_ret
        refine ⟨_, rfl, ?_, by go_grown⟩
        have u1 := HU.out; have u2 := HR2.out; have u3 := HR.out
        rw [HSZ.out]
        unfold szq at *
        go_light
        omega
      go_roundw
      case rel => exact ⟨k + 1, _, by omega, by go_num, rfl, by omega, by omega, by
      show _ = _
      have u1 := HT.out; have u2 := HR2.out; have u3 := HR.out
      unfold szq at *
      rw [u1]
      omega, by go_grown⟩
      case measure => simp [intOf]; omega
    obtain rfl : k = l.length := by omega
    go_wp2
    go_ret
    refine ⟨_, rfl, ?_, hB⟩
    have u3 := HR.out
    rw [List.take_length] at u3
    rw [HSZ.out]
    unfold szq
    omega
theorem Mm (w : World) (ca : List Value) (a : Qp) (left : Int) (ha : rd w ca a) (h0 : 0 ≤ left) (h1 : left ≤ 1048576) : Calls Tryz.prog 5 #[.agg ca.toArray, .int .i64 left] w (Ez w (GoD.size a) left) := by
  obtain ⟨a1, a2⟩ := a
  obtain ⟨ac1, at1, rfl, ar1, ar2⟩ := ha
  obtain ⟨ax1_0, ax1_1, ax1_2, rfl⟩ := Qbo (show _ = 3 from GoD.rd_len ar1)
  obtain ⟨ax2_0, rfl⟩ := Fv (show _ = 1 from GoD.rd_len ar2)
  dsimp only [List.cons_append, List.nil_append] at *
  have AR1H := Lib.hid ar1; clear ar1
  have AR2H := Lib.hid ar2; clear ar2
  have tok1 : True := trivial
  have tok2 : True := trivial
  have hsz : GoD.size (a1, a2) = (GoD.size a1 + GoD.size a2) := rfl
  have HSZ := Lib.hid hsz; clear hsz
  go_enter Tryz.func5, Tryz.ntmps5
  go_wp2_with (first | (go_at_call 12; have tk := tok1; clear tok1; refine Uq (w := w) (FT _ [ax1_0, ax1_1, ax1_2] a1 _ (Kw AR1H.out (by go_grown)) (by omega) (by omega)) (by go_grown) ?_; intro w1 r1 hB hb hz hz2 hr hs; have HR1 := Lib.hid hr; clear hr; (try simp only [zSz] at hz2); have c0 := fun o => Mn hb (w.heap.size) o (by go_size); clear hb) | (go_at_call 13; have tk := tok2; clear tok2; refine Uq (w := w) (MH _ ax2_0 a2 _ (Kw AR2H.out (by go_grown)) (by omega) (by omega)) (by go_grown) ?_; intro w2 r2 hB hb hz hz2 hr hs; have HR2 := Lib.hid hr; clear hr; (try simp only [zSz] at hz2); have c0 := fun o => Mn hb (w.heap.size) o (by go_size); clear hb))
  all_goals
    go_ret
    refine ⟨_, rfl, ?_, by go_grown⟩
    rw [HSZ.out]
    unfold szq
    (try have u1 := HR1.out)
    (try have u2 := HR2.out)
    (try unfold szq at *)
    go_light
    omega
end
end Go.Proofs.YtbemokhfcmepjaaGreatDoor
