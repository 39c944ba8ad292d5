/- Texts of this proof, put together by a program: Drd, Ism, Izd, Isx, LIso, Isl, MIso. -/
import Derived.Test.YtkbfhiamdcoieaaGreatDoorP6
import Derived.KernelRfl
import Derived.Outline
set_option linter.unusedVariables false
set_option linter.unusedSimpArgs false
namespace Go.Proofs.YtkbfhiamdcoieaaGreatDoor
open Go.RowKit
open GoE (enc wide)
def K8 (code : (List UInt8)) (ci : Nat) (ch : Int) : Kg × Nat × Int := (lt (α := Int × Nat × Int) (Qk code ci ch 5) (fun x1 => (bif (x1.1 == (0 : Int)) then ((0, 0, ⟨#[]⟩), x1.2.1, x1.2.2) else (lt (α := Bool) (bif (x1.1 == (1 : Int)) then (x1.1 == (1 : Int)) else (x1.1 == (2 : Int))) (fun x4 => (bif x4 then (lt (α := Int × Nat × Int) (Qk code x1.2.1 x1.2.2 5) (fun x7 => ((X6 x7.1), x7.2.1, x7.2.2))) else (lt (α := ByteArray × Nat × Int) (Yc code x1.2.1 x1.2.2 [⟨#[114, 101, 100]⟩, ⟨#[98, 108, 117, 101]⟩, ⟨#[105, 110, 107]⟩]) (fun x9 => ((Xd x9.1), x9.2.1, x9.2.2)))))))))
theorem XE (code : (List UInt8)) (ci : Nat) (ch : Int) : AGive Tryz.prog 154 [.h code, .i ((ci : Nat) : Int), .i ch] [] (.a [.i ((((K8 code ci ch)).1).1), .i ((((K8 code ci ch)).1).2.1), .s ((((K8 code ci ch)).1).2.2)]) [.h code, .i ((((K8 code ci ch)).2.1 : Nat) : Int), .i (((K8 code ci ch)).2.2)] := by
 refine Ky (tt := tt) Qb Tryz.func154 (fn := Tryz.f154) rfl (by unfold Dq; kernel_rfl) (Nat.le_of_ble_eq_true rfl) (Nat.le_of_ble_eq_true rfl) rfl rfl fun w0 F0 hG => ?_
 refine sn Qb [0, 2] [2, 60000] (p0) ?_
 refine Qe ?_
 obtain ⟨x1, hx1⟩ : ∃ z : Int × Nat × Int, Qk code ci ch 5 = z := ⟨_, rfl⟩
 have hbx1 := hx1 ▸ Q0 code ci ch 5
 refine tn Qb [0, 2, 4] [2, 60000] (po 1 (.give none (.i x1.1) [.h code, .i ((x1.2.1 : Nat) : Int), .i x1.2.2]) (px (Q8 (hx1 ▸ Xc code ci ch 5)) p0)) ?_
 refine Qs ?_
 refine tu Qb [(2, .p 2 0), (4, .i x1.1), (5, .b (x1.1 == (0 : Int)))] [] [(2, [.i 0, .i 0, .s ⟨#[]⟩]), (60000, [.h code, .i ((x1.2.1 : Nat) : Int), .i x1.2.2])] [60000] (p0) ?_
 refine ck (x1.1 == (0 : Int)) (fun h2 => ?_) (fun h2 => ?_)
 ·
  refine su Qb [] [4, 5] [] [] (p0) ?_
  refine Qg ?_
  have hE3 : K8 code ci ch = ((0, 0, ⟨#[]⟩), x1.2.1, x1.2.2) := Yn hx1 (Q6 h2 (rfl))
  exact Hl [] (congrArg (fun z => (.a [.i z.1.1, .i z.1.2.1, .s z.1.2.2] : AV)) hE3.symm) (congrArg (fun z => ([.h code, .i ((z.2.1 : Nat) : Int), .i z.2.2] : List C)) hE3.symm)
 refine Qe (sn Qb [0, 2, 4, 8] [2, 60000] (p0) ?_)
 refine mz [(8, .b (x1.1 == (1 : Int)))] [5] [] [] ?_
 obtain ⟨x4, hx4⟩ : ∃ z : Bool, (bif (x1.1 == (1 : Int)) then (x1.1 == (1 : Int)) else (x1.1 == (2 : Int))) = z := ⟨_, rfl⟩
 refine jn [(8, .b x4)] [4, 8] [] [] (x1.1 == (1 : Int)) (fun h5 => ?_) (fun h5 => ?_) ?_
 ·
  refine ckt h5 ?_
  refine Qh ?_
  obtain rfl : x4 = (x1.1 == (1 : Int)) := hx4.symm.trans (show (bif (x1.1 == (1 : Int)) then (x1.1 == (1 : Int)) else (x1.1 == (2 : Int))) = (x1.1 == (1 : Int)) from Q6 h5 (rfl))
  exact ⟨rfl, Qd (by kernel_rfl)⟩
 ·
  refine ckf h5 ?_
  refine rn Qb [0, 2, 8] [2, 60000] (p0) ?_
  obtain rfl : x4 = (x1.1 == (2 : Int)) := hx4.symm.trans (show (bif (x1.1 == (1 : Int)) then (x1.1 == (1 : Int)) else (x1.1 == (2 : Int))) = (x1.1 == (2 : Int)) from Qm h5 (rfl))
  exact ⟨rfl, Qd (by kernel_rfl)⟩
 refine ck x4 (fun h6 => ?_) (fun h6 => ?_)
 ·
  obtain ⟨x7, hx7⟩ : ∃ z : Int × Nat × Int, Qk code x1.2.1 x1.2.2 5 = z := ⟨_, rfl⟩
  have hbx7 := hx7 ▸ Q0 code x1.2.1 x1.2.2 5
  refine sn Qb [0, 2] [2, 60000] (po 1 (.give none (.i x7.1) [.h code, .i ((x7.2.1 : Nat) : Int), .i x7.2.2]) (px (Q8 (hx7 ▸ Xc code x1.2.1 x1.2.2 5)) (pc 2 (U3 x7.1) p0))) ?_
  refine Qg ?_
  have hE8 : K8 code ci ch = ((X6 x7.1), x7.2.1, x7.2.2) := Yn hx1 (Qm h2 (Yn hx4 (Q6 h6 (Yn hx7 (rfl)))))
  exact Hl [] (congrArg (fun z => (.a [.i z.1.1, .i z.1.2.1, .s z.1.2.2] : AV)) hE8.symm) (congrArg (fun z => ([.h code, .i ((z.2.1 : Nat) : Int), .i z.2.2] : List C)) hE8.symm)
 refine Qh ?_
 obtain ⟨x9, hx9⟩ : ∃ z : ByteArray × Nat × Int, Yc code x1.2.1 x1.2.2 [⟨#[114, 101, 100]⟩, ⟨#[98, 108, 117, 101]⟩, ⟨#[105, 110, 107]⟩] = z := ⟨_, rfl⟩
 refine sn Qb [0, 2] [2, 60000] (po 2 (.give none (.s x9.1) [.h code, .i ((x9.2.1 : Nat) : Int), .i x9.2.2]) (px (Q8 (hx9 ▸ Kp code x1.2.1 x1.2.2 [⟨#[114, 101, 100]⟩, ⟨#[98, 108, 117, 101]⟩, ⟨#[105, 110, 107]⟩] (Nat.zero_lt_succ _))) (pc 3 (Up x9.1) p0))) ?_
 refine Qg ?_
 have hE10 : K8 code ci ch = ((Xd x9.1), x9.2.1, x9.2.2) := Yn hx1 (Qm h2 (Yn hx4 (Qm h6 (Yn hx9 (rfl)))))
 exact Hl [] (congrArg (fun z => (.a [.i z.1.1, .i z.1.2.1, .s z.1.2.2] : AV)) hE10.symm) (congrArg (fun z => ([.h code, .i ((z.2.1 : Nat) : Int), .i z.2.2] : List C)) hE10.symm)
def Vh (code : (List UInt8)) (ci : Nat) (ch : Int) : Kg × Nat × Int := (lt (α := Kg × Nat × Int) (K8 code ci ch) (fun x1 => (lt (α := Int × Nat × Int) (Qk code x1.2.1 x1.2.2 10) (fun x2 => (bif (x2.1 == (0 : Int)) then (lt (α := Int × Nat × Int) (Qk code x2.2.1 x2.2.2 5) (fun x4 => (((x4.1 - 1), x1.1.2.1, x1.1.2.2), x4.2.1, x4.2.2))) else (bif (x2.1 == (1 : Int)) then (lt (α := Int × Nat × Int) (Zb code x2.2.1 x2.2.2 [-1, 0, 999, 1000, 9223372036854775807]) (fun x7 => ((x1.1.1, x7.1, x1.1.2.2), x7.2.1, x7.2.2))) else (bif (x2.1 == (2 : Int)) then (lt (α := ByteArray × Nat × Int) (Yc code x2.2.1 x2.2.2 [⟨#[]⟩, ⟨#[65]⟩, ⟨#[97, 98, 99, 100, 101, 102, 103]⟩, ⟨#[97, 98, 99, 100, 101, 102]⟩, ⟨#[97, 32, 98]⟩]) (fun x10 => ((x1.1.1, x1.1.2.1, x10.1), x10.2.1, x10.2.2))) else (x1.1, x2.2.1, x2.2.2))))))))
theorem Rv (code : (List UInt8)) (ci : Nat) (ch : Int) : AGive Tryz.prog 123 [.h code, .i ((ci : Nat) : Int), .i ch] [] (.a [.i ((((Vh code ci ch)).1).1), .i ((((Vh code ci ch)).1).2.1), .s ((((Vh code ci ch)).1).2.2)]) [.h code, .i ((((Vh code ci ch)).2.1 : Nat) : Int), .i (((Vh code ci ch)).2.2)] := by
 refine Ky (tt := tt) Qb Tryz.func123 (fn := Tryz.f123) rfl (by unfold Dq; kernel_rfl) (Nat.le_of_ble_eq_true rfl) (Nat.le_of_ble_eq_true rfl) rfl rfl fun w0 F0 hG => ?_
 refine sn Qb [0, 2] [2, 60000] (p0) ?_
 obtain ⟨x1, hx1⟩ : ∃ z : Kg × Nat × Int, K8 code ci ch = z := ⟨_, rfl⟩
 refine tn Qb [0, 2, 3] [2, 3, 60000] (po 1 (.give none (.a [.i x1.1.1, .i x1.1.2.1, .s x1.1.2.2]) [.h code, .i ((x1.2.1 : Nat) : Int), .i x1.2.2]) (px (Q8 (hx1 ▸ XE code ci ch)) p0)) ?_
 refine Qe ?_
 obtain ⟨x2, hx2⟩ : ∃ z : Int × Nat × Int, Qk code x1.2.1 x1.2.2 10 = z := ⟨_, rfl⟩
 have hbx2 := hx2 ▸ Q0 code x1.2.1 x1.2.2 10
 refine tu Qb [(2, .p 2 0), (3, .p 3 0), (7, .i x2.1)] [] [(2, [.i 0, .i 0, .s ⟨#[]⟩]), (3, [.i x1.1.1, .i x1.1.2.1, .s x1.1.2.2]), (60000, [.h code, .i ((x2.2.1 : Nat) : Int), .i x2.2.2])] [60000] (po 1 (.give none (.i x2.1) [.h code, .i ((x2.2.1 : Nat) : Int), .i x2.2.2]) (px (Q8 (hx2 ▸ Xc code x1.2.1 x1.2.2 10)) p0)) ?_
 refine Qs ?_
 refine sn Qb [0, 2, 3, 7, 8] [2, 3, 60000] (p0) ?_
 refine ck (x2.1 == (0 : Int)) (fun h3 => ?_) (fun h3 => ?_)
 ·
  have h3d := eq_of_beq h3
  obtain ⟨x4, hx4⟩ : ∃ z : Int × Nat × Int, Qk code x2.2.1 x2.2.2 5 = z := ⟨_, rfl⟩
  have hbx4 := hx4 ▸ Q0 code x2.2.1 x2.2.2 5
  refine qn Qb [0, 2, 3] [2, 3, 60000] (po 1 (.give none (.i x4.1) [.h code, .i ((x4.2.1 : Nat) : Int), .i x4.2.2]) (px (Q8 (hx4 ▸ Xc code x2.2.1 x2.2.2 5)) (pe 2 (Jn (IntWalk.i64_in (x4.1 - 1) (by omega))) p0))) ?_
  refine tu Qb [] [3, 7] [(2, [.i (x4.1 - 1), .i x1.1.2.1, .s x1.1.2.2]), (60000, [.h code, .i ((x4.2.1 : Nat) : Int), .i x4.2.2])] [2, 3, 60000] (p0) ?_
  refine Qg ?_
  have hE5 : Vh code ci ch = (((x4.1 - 1), x1.1.2.1, x1.1.2.2), x4.2.1, x4.2.2) := Yn hx1 (Yn hx2 (Q6 h3 (Yn hx4 (rfl))))
  exact Hl [] (congrArg (fun z => (.a [.i z.1.1, .i z.1.2.1, .s z.1.2.2] : AV)) hE5.symm) (congrArg (fun z => ([.h code, .i ((z.2.1 : Nat) : Int), .i z.2.2] : List C)) hE5.symm)
 refine tn Qb [0, 2, 3, 7, 14] [2, 3, 60000] (p0) ?_
 refine ck (x2.1 == (1 : Int)) (fun h6 => ?_) (fun h6 => ?_)
 ·
  obtain ⟨x7, hx7⟩ : ∃ z : Int × Nat × Int, Zb code x2.2.1 x2.2.2 [-1, 0, 999, 1000, 9223372036854775807] = z := ⟨_, rfl⟩
  refine qu Qb [] [7] [(3, [.i x1.1.1, .i x7.1, .s x1.1.2.2]), (60000, [.h code, .i ((x7.2.1 : Nat) : Int), .i x7.2.2])] [3, 60000] (po 2 (.give none (.i x7.1) [.h code, .i ((x7.2.1 : Nat) : Int), .i x7.2.2]) (px (Q8 (hx7 ▸ V7 code x2.2.1 x2.2.2 [-1, 0, 999, 1000, 9223372036854775807] (Nat.zero_lt_succ _))) p0)) ?_
  refine sn Qb [0, 2] [2, 60000] (p0) ?_
  refine Qg ?_
  have hE8 : Vh code ci ch = ((x1.1.1, x7.1, x1.1.2.2), x7.2.1, x7.2.2) := Yn hx1 (Yn hx2 (Qm h3 (Q6 h6 (Yn hx7 (rfl)))))
  exact Hl [] (congrArg (fun z => (.a [.i z.1.1, .i z.1.2.1, .s z.1.2.2] : AV)) hE8.symm) (congrArg (fun z => ([.h code, .i ((z.2.1 : Nat) : Int), .i z.2.2] : List C)) hE8.symm)
 refine tu Qb [(20, .b (x2.1 == (2 : Int)))] [7] [] [] (p0) ?_
 refine ck (x2.1 == (2 : Int)) (fun h9 => ?_) (fun h9 => ?_)
 ·
  obtain ⟨x10, hx10⟩ : ∃ z : ByteArray × Nat × Int, Yc code x2.2.1 x2.2.2 [⟨#[]⟩, ⟨#[65]⟩, ⟨#[97, 98, 99, 100, 101, 102, 103]⟩, ⟨#[97, 98, 99, 100, 101, 102]⟩, ⟨#[97, 32, 98]⟩] = z := ⟨_, rfl⟩
  refine rn Qb [0, 2, 3] [2, 3, 60000] (po 2 (.give none (.s x10.1) [.h code, .i ((x10.2.1 : Nat) : Int), .i x10.2.2]) (px (Q8 (hx10 ▸ Kp code x2.2.1 x2.2.2 [⟨#[]⟩, ⟨#[65]⟩, ⟨#[97, 98, 99, 100, 101, 102, 103]⟩, ⟨#[97, 98, 99, 100, 101, 102]⟩, ⟨#[97, 32, 98]⟩] (Nat.zero_lt_succ _))) p0)) ?_
  refine tn Qb [0, 2] [2, 60000] (p0) ?_
  refine Qg ?_
  have hE11 : Vh code ci ch = ((x1.1.1, x1.1.2.1, x10.1), x10.2.1, x10.2.2) := Yn hx1 (Yn hx2 (Qm h3 (Qm h6 (Q6 h9 (Yn hx10 (rfl))))))
  exact Hl [] (congrArg (fun z => (.a [.i z.1.1, .i z.1.2.1, .s z.1.2.2] : AV)) hE11.symm) (congrArg (fun z => ([.h code, .i ((z.2.1 : Nat) : Int), .i z.2.2] : List C)) hE11.symm)
 refine Qh ?_
 refine sn Qb [0, 2] [2, 60000] (p0) ?_
 refine Qg ?_
 have hE12 : Vh code ci ch = (x1.1, x2.2.1, x2.2.2) := Yn hx1 (Yn hx2 (Qm h3 (Qm h6 (Qm h9 (rfl)))))
 exact Hl [] (congrArg (fun z => (.a [.i z.1.1, .i z.1.2.1, .s z.1.2.2] : AV)) hE12.symm) (congrArg (fun z => ([.h code, .i ((z.2.1 : Nat) : Int), .i z.2.2] : List C)) hE12.symm)
def Hz (code : (List UInt8)) (ci : Nat) (ch : Int) : ByteArray × Nat × Int := (lt (α := ByteArray × Nat × Int) (Yc code ci ch [⟨#[97]⟩, ⟨#[98]⟩, ⟨#[110]⟩, ⟨#[116]⟩, ⟨#[97]⟩, ⟨#[98]⟩, ⟨#[116]⟩, ⟨#[122]⟩, ⟨#[65]⟩, ⟨#[]⟩]) (fun x1 => (x1.1, x1.2.1, x1.2.2)))
theorem Pd (code : (List UInt8)) (ci : Nat) (ch : Int) : AGive Tryz.prog 122 [.h code, .i ((ci : Nat) : Int), .i ch] [] (.s (((Hz code ci ch)).1)) [.h code, .i ((((Hz code ci ch)).2.1 : Nat) : Int), .i (((Hz code ci ch)).2.2)] := by
 refine Ky (tt := tt) Qb Tryz.func122 (fn := Tryz.f122) rfl (by unfold Dq; kernel_rfl) (Nat.le_of_ble_eq_true rfl) (Nat.le_of_ble_eq_true rfl) rfl rfl fun w0 F0 hG => ?_
 refine sn Qb [0, 2] [60000] (p0) ?_
 obtain ⟨x1, hx1⟩ : ∃ z : ByteArray × Nat × Int, Yc code ci ch [⟨#[97]⟩, ⟨#[98]⟩, ⟨#[110]⟩, ⟨#[116]⟩, ⟨#[97]⟩, ⟨#[98]⟩, ⟨#[116]⟩, ⟨#[122]⟩, ⟨#[65]⟩, ⟨#[]⟩] = z := ⟨_, rfl⟩
 refine tn Qb [0, 2] [60000] (po 2 (.give none (.s x1.1) [.h code, .i ((x1.2.1 : Nat) : Int), .i x1.2.2]) (px (Q8 (hx1 ▸ Kp code ci ch [⟨#[97]⟩, ⟨#[98]⟩, ⟨#[110]⟩, ⟨#[116]⟩, ⟨#[97]⟩, ⟨#[98]⟩, ⟨#[116]⟩, ⟨#[122]⟩, ⟨#[65]⟩, ⟨#[]⟩] (Nat.zero_lt_succ _))) p0)) ?_
 refine Qg ?_
 have hE2 : Hz code ci ch = (x1.1, x1.2.1, x1.2.2) := Yn hx1 (rfl)
 exact Hl [] (congrArg (fun z => (.s z.1 : AV)) hE2.symm) (congrArg (fun z => ([.h code, .i ((z.2.1 : Nat) : Int), .i z.2.2] : List C)) hE2.symm)
def Uq (code : (List UInt8)) (ci : Nat) (ch : Int) : (List Yq) × Nat × Int := (lt (α := Int × Nat × Int) (Qk code ci ch 8) (fun x1 => (bif (x1.1 == (0 : Int)) then (lt (α := Int × Nat × Int) (Qk code x1.2.1 x1.2.2 4) (fun x3 => (List.take (Int.toNat x3.1) Qv, x3.2.1, x3.2.2))) else (bif (x1.1 == (1 : Int)) then (lt (α := Int × Nat × Int) (Qk code x1.2.1 x1.2.2 4) (fun x8 => (lt (α := Int × Nat × Int) (Qk code x8.2.1 x8.2.2 5) (fun x9 => (List.set Qv (Int.toNat x8.1) ((nth Qv (Int.toNat x8.1)).1, (x9.1 - 1)), x9.2.1, x9.2.2))))) else (bif (x1.1 == (2 : Int)) then (lt (α := Int × Nat × Int) (Qk code x1.2.1 x1.2.2 4) (fun x15 => (lt (α := ByteArray × Nat × Int) (Hz code x15.2.1 x15.2.2) (fun x16 => (List.set Qv (Int.toNat x15.1) (x16.1, (nth Qv (Int.toNat x15.1)).2), x16.2.1, x16.2.2))))) else (bif (x1.1 == (3 : Int)) then (lt (α := ByteArray × Nat × Int) (Yc code x1.2.1 x1.2.2 [⟨#[117]⟩, ⟨#[122]⟩, ⟨#[97]⟩]) (fun x22 => (Qv ++ [((x22.1, 1) : Yq)], x22.2.1, x22.2.2))) else (bif (x1.1 == (4 : Int)) then (Qv ++ [((⟨#[117]⟩, 1) : Yq), ((⟨#[118]⟩, 2) : Yq)], x1.2.1, x1.2.2) else (Qv, x1.2.1, x1.2.2))))))))
theorem WY (code : (List UInt8)) (ci : Nat) (ch : Int) : AGive Tryz.prog 79 [.h code, .i ((ci : Nat) : Int), .i ch] [] (.h (((Uq code ci ch)).1)) [.h code, .i ((((Uq code ci ch)).2.1 : Nat) : Int), .i (((Uq code ci ch)).2.2)] := by
 refine Ky (tt := tt) Qb Tryz.func79 (fn := Tryz.f79) rfl (by unfold Dq; kernel_rfl) (Nat.le_of_ble_eq_true rfl) (Nat.le_of_ble_eq_true rfl) rfl rfl fun w0 F0 hG => ?_
 have hu4 : List.length Qv = 4 := rfl
 refine sn Qb [0, 2] [60000] (p0) ?_
 refine tn Qb [0, 2, 3] [60000] (pc 0 (Mu) p0) ?_
 refine Qe ?_
 obtain ⟨x1, hx1⟩ : ∃ z : Int × Nat × Int, Qk code ci ch 8 = z := ⟨_, rfl⟩
 have hbx1 := hx1 ▸ Q0 code ci ch 8
 refine tu Qb [(2, .e 0), (3, .o 256 Qv), (6, .i x1.1)] [] [(60000, [.h code, .i ((x1.2.1 : Nat) : Int), .i x1.2.2])] [60000] (po 1 (.give none (.i x1.1) [.h code, .i ((x1.2.1 : Nat) : Int), .i x1.2.2]) (px (Q8 (hx1 ▸ Xc code ci ch 8)) p0)) ?_
 refine Qs ?_
 refine sn Qb [0, 2, 3, 6, 7] [60000] (p0) ?_
 refine ck (x1.1 == (0 : Int)) (fun h2 => ?_) (fun h2 => ?_)
 ·
  have h2d := eq_of_beq h2
  obtain ⟨x3, hx3⟩ : ∃ z : Int × Nat × Int, Qk code x1.2.1 x1.2.2 4 = z := ⟨_, rfl⟩
  have hbx3 := hx3 ▸ Q0 code x1.2.1 x1.2.2 4
  refine wT 3 0 (.own true 256) Qv (fun hw4 hl5 => ?_)
  refine qn Qb [0, 2, 3] [60000] (po 2 (.give none (.i x3.1) [.h code, .i ((x3.2.1 : Nat) : Int), .i x3.2.2]) (px (Q8 (hx3 ▸ Xc code x1.2.1 x1.2.2 4)) (pe 3 (Pu (.vw 256) 2 (Int.toNat x3.1) x3.1 Qv rfl) (px (Fu (lo := 0) (hi := x3.1) (n := (List.length (eL Qv))) (YB (by omega) (by omega) (by omega))) p0)))) ?_
  refine tu Qb [(2, .v 256 (List.take (Int.toNat x3.1) Qv))] [2, 3, 6] [(60000, [.h code, .i ((x3.2.1 : Nat) : Int), .i x3.2.2])] [60000] (p0) ?_
  refine Qg ?_
  have hE6 : Uq code ci ch = (List.take (Int.toNat x3.1) Qv, x3.2.1, x3.2.2) := Yn hx1 (Q6 h2 (Yn hx3 (rfl)))
  exact Hl [256] (congrArg (fun z => (.h z.1 : AV)) hE6.symm) (congrArg (fun z => ([.h code, .i ((z.2.1 : Nat) : Int), .i z.2.2] : List C)) hE6.symm)
 have h2d := Yg h2
 refine tn Qb [0, 2, 3, 6, 13] [60000] (p0) ?_
 refine ck (x1.1 == (1 : Int)) (fun h7 => ?_) (fun h7 => ?_)
 ·
  have h7d := eq_of_beq h7
  obtain ⟨x8, hx8⟩ : ∃ z : Int × Nat × Int, Qk code x1.2.1 x1.2.2 4 = z := ⟨_, rfl⟩
  have hbx8 := hx8 ▸ Q0 code x1.2.1 x1.2.2 4
  obtain ⟨x9, hx9⟩ : ∃ z : Int × Nat × Int, Qk code x8.2.1 x8.2.2 5 = z := ⟨_, rfl⟩
  have hbx9 := hx9 ▸ Q0 code x8.2.1 x8.2.2 5
  refine wT 3 0 (.own true 256) Qv (fun hw11 hl12 => ?_)
  have hx10 := ng Qv (Int.toNat x8.1)
  refine qu Qb [(3, .one (.slc (.own true 256) 2 (setRow (eL Qv) (Int.toNat x8.1) 1 [.i (x9.1 - 1)])))] [3, 6] [(60000, [.h code, .i ((x9.2.1 : Nat) : Int), .i x9.2.2])] [60000] (po 2 (.give none (.i x8.1) [.h code, .i ((x8.2.1 : Nat) : Int), .i x8.2.2]) (px (Q8 (hx8 ▸ Xc code x1.2.1 x1.2.2 4)) (po 4 (.give none (.i x9.1) [.h code, .i ((x9.2.1 : Nat) : Int), .i x9.2.2]) (px (Q8 (hx9 ▸ Xc code x8.2.1 x8.2.2 5)) (pe 5 (Jn (IntWalk.i64_in (x9.1 - 1) (by omega))) (pG 6 x8.1 hx10 p0)))))) ?_
  refine eqn [(3, .o 256 (List.set Qv (Int.toNat x8.1) ((nth Qv (Int.toNat x8.1)).1, (x9.1 - 1))))] [3] [] [] (by rw [Zw (y := ((nth Qv (Int.toNat x8.1)).1, (x9.1 - 1))) hx10 rfl]; first | done | kernel_rfl) ?_
  refine sn Qb [0, 2] [60000] (p0) ?_
  refine Qg ?_
  have hE13 : Uq code ci ch = (List.set Qv (Int.toNat x8.1) ((nth Qv (Int.toNat x8.1)).1, (x9.1 - 1)), x9.2.1, x9.2.2) := Yn hx1 (Qm h2 (Q6 h7 (Yn hx8 (Yn hx9 (rfl)))))
  exact Hl [256] (congrArg (fun z => (.h z.1 : AV)) hE13.symm) (congrArg (fun z => ([.h code, .i ((z.2.1 : Nat) : Int), .i z.2.2] : List C)) hE13.symm)
 have h7d := Yg h7
 refine tu Qb [(23, .b (x1.1 == (2 : Int)))] [] [] [] (p0) ?_
 refine ck (x1.1 == (2 : Int)) (fun h14 => ?_) (fun h14 => ?_)
 ·
  have h14d := eq_of_beq h14
  obtain ⟨x15, hx15⟩ : ∃ z : Int × Nat × Int, Qk code x1.2.1 x1.2.2 4 = z := ⟨_, rfl⟩
  have hbx15 := hx15 ▸ Q0 code x1.2.1 x1.2.2 4
  obtain ⟨x16, hx16⟩ : ∃ z : ByteArray × Nat × Int, Hz code x15.2.1 x15.2.2 = z := ⟨_, rfl⟩
  refine wT 3 0 (.own true 256) Qv (fun hw18 hl19 => ?_)
  have hx17 := ng Qv (Int.toNat x15.1)
  refine ru Qb [(3, .one (.slc (.own true 256) 2 (setRow (eL Qv) (Int.toNat x15.1) 0 [.s x16.1])))] [3, 6, 23] [(60000, [.h code, .i ((x16.2.1 : Nat) : Int), .i x16.2.2])] [60000] (po 2 (.give none (.i x15.1) [.h code, .i ((x15.2.1 : Nat) : Int), .i x15.2.2]) (px (Q8 (hx15 ▸ Xc code x1.2.1 x1.2.2 4)) (po 4 (.give none (.s x16.1) [.h code, .i ((x16.2.1 : Nat) : Int), .i x16.2.2]) (px (Q8 (hx16 ▸ Pd code x15.2.1 x15.2.2)) (pG 5 x15.1 hx17 p0))))) ?_
  refine eqn [(3, .o 256 (List.set Qv (Int.toNat x15.1) (x16.1, (nth Qv (Int.toNat x15.1)).2)))] [3] [] [] (by rw [Zw (y := (x16.1, (nth Qv (Int.toNat x15.1)).2)) hx17 rfl]; first | done | kernel_rfl) ?_
  refine sn Qb [0, 2] [60000] (p0) ?_
  refine Qg ?_
  have hE20 : Uq code ci ch = (List.set Qv (Int.toNat x15.1) (x16.1, (nth Qv (Int.toNat x15.1)).2), x16.2.1, x16.2.2) := Yn hx1 (Qm h2 (Qm h7 (Q6 h14 (Yn hx15 (Yn hx16 (rfl))))))
  exact Hl [256] (congrArg (fun z => (.h z.1 : AV)) hE20.symm) (congrArg (fun z => ([.h code, .i ((z.2.1 : Nat) : Int), .i z.2.2] : List C)) hE20.symm)
 have h14d := Yg h14
 refine sn Qb [0, 2, 3, 6, 32] [60000] (p0) ?_
 refine ck (x1.1 == (3 : Int)) (fun h21 => ?_) (fun h21 => ?_)
 ·
  have h21d := eq_of_beq h21
  obtain ⟨x22, hx22⟩ : ∃ z : ByteArray × Nat × Int, Yc code x1.2.1 x1.2.2 [⟨#[117]⟩, ⟨#[122]⟩, ⟨#[97]⟩] = z := ⟨_, rfl⟩
  refine wT 3 0 (.own true 256) Qv (fun hw23 hl24 => ?_)
  refine qu Qb [(3, .one (.slc (.own true 2560) 2 ((eL Qv) ++ [[.s x22.1, .i 1]])))] [3, 6, 23] [(60000, [.h code, .i ((x22.2.1 : Nat) : Int), .i x22.2.2])] [60000] (po 3 (.give none (.s x22.1) [.h code, .i ((x22.2.1 : Nat) : Int), .i x22.2.2]) (px (Q8 (hx22 ▸ Kp code x1.2.1 x1.2.2 [⟨#[117]⟩, ⟨#[122]⟩, ⟨#[97]⟩] (Nat.zero_lt_succ _))) (pa Qv [((x22.1, 1) : Yq)] p0))) ?_
  refine eqn [(3, .o 2560 (Qv ++ [((x22.1, 1) : Yq)]))] [3] [] [] (by rw [show ((eL Qv) ++ [[.s x22.1, .i 1]]) = (eL (Qv ++ [((x22.1, 1) : Yq)])) from Kj (rfl) (rfl)]; first | done | kernel_rfl) ?_
  refine sn Qb [0, 2] [60000] (p0) ?_
  refine Qg ?_
  have hE25 : Uq code ci ch = (Qv ++ [((x22.1, 1) : Yq)], x22.2.1, x22.2.2) := Yn hx1 (Qm h2 (Qm h7 (Qm h14 (Q6 h21 (Yn hx22 (rfl))))))
  exact Hl [2560] (congrArg (fun z => (.h z.1 : AV)) hE25.symm) (congrArg (fun z => ([.h code, .i ((z.2.1 : Nat) : Int), .i z.2.2] : List C)) hE25.symm)
 have h21d := Yg h21
 refine tn Qb [0, 2, 3, 41] [60000] (p0) ?_
 refine ck (x1.1 == (4 : Int)) (fun h26 => ?_) (fun h26 => ?_)
 ·
  have h26d := eq_of_beq h26
  refine wT 3 0 (.own true 256) Qv (fun hw27 hl28 => ?_)
  refine qu Qb [(3, .one (.slc (.own true 3008) 2 ((eL Qv) ++ [[.s ⟨#[117]⟩, .i 1], [.s ⟨#[118]⟩, .i 2]])))] [3, 6, 23] [] [] (pa Qv [((⟨#[117]⟩, 1) : Yq), ((⟨#[118]⟩, 2) : Yq)] p0) ?_
  refine eqn [(3, .o 3008 (Qv ++ [((⟨#[117]⟩, 1) : Yq), ((⟨#[118]⟩, 2) : Yq)]))] [3] [] [] (by rw [show ((eL Qv) ++ [[.s ⟨#[117]⟩, .i 1], [.s ⟨#[118]⟩, .i 2]]) = (eL (Qv ++ [((⟨#[117]⟩, 1) : Yq), ((⟨#[118]⟩, 2) : Yq)])) from Kj (rfl) (rfl)]; first | done | kernel_rfl) ?_
  refine sn Qb [0, 2] [60000] (p0) ?_
  refine Qg ?_
  have hE29 : Uq code ci ch = (Qv ++ [((⟨#[117]⟩, 1) : Yq), ((⟨#[118]⟩, 2) : Yq)], x1.2.1, x1.2.2) := Yn hx1 (Qm h2 (Qm h7 (Qm h14 (Qm h21 (Q6 h26 (rfl))))))
  exact Hl [3008] (congrArg (fun z => (.h z.1 : AV)) hE29.symm) (congrArg (fun z => ([.h code, .i ((z.2.1 : Nat) : Int), .i z.2.2] : List C)) hE29.symm)
 refine Qh ?_
 refine tu Qb [(2, .o 256 Qv)] [2, 3, 6, 23] [] [] (p0) ?_
 refine Qg ?_
 have hE30 : Uq code ci ch = (Qv, x1.2.1, x1.2.2) := Yn hx1 (Qm h2 (Qm h7 (Qm h14 (Qm h21 (Qm h26 (rfl))))))
 exact Hl [256] (congrArg (fun z => (.h z.1 : AV)) hE30.symm) (congrArg (fun z => ([.h code, .i ((z.2.1 : Nat) : Int), .i z.2.2] : List C)) hE30.symm)
def Kx (code : (List UInt8)) (ci : Nat) (ch : Int) : Q9 × Nat × Int := (lt (α := Int × Nat × Int) (Qk code ci ch 7) (fun x1 => (lt (α := Q9 × Nat × Int) (Zr code x1.2.1 x1.2.2 (1 + x1.1)) (fun x2 => (lt (α := Int × Nat × Int) (Qk code x2.2.1 x2.2.2 14) (fun x3 => (bif (x3.1 == (0 : Int)) then (lt (α := Int × Nat × Int) (Zb code x3.2.1 x3.2.2 [0, 60, 61, -1]) (fun x5 => ((x5.1, x2.1.2.1, x2.1.2.2.1, x2.1.2.2.2.1, x2.1.2.2.2.2), x5.2.1, x5.2.2))) else (bif (x3.1 == (1 : Int)) then (lt (α := Int × Nat × Int) (Zb code x3.2.1 x3.2.2 [-1, 2, 3]) (fun x8 => ((x2.1.1, x8.1, x2.1.2.2.1, x2.1.2.2.2.1, x2.1.2.2.2.2), x8.2.1, x8.2.2))) else (bif (x3.1 == (2 : Int)) then (lt (α := Int × Nat × Int) (Zb code x3.2.1 x3.2.2 [-1, 60, 61, 9223372036854775807]) (fun x11 => ((x2.1.1, x2.1.2.1, x2.1.2.2.1, x11.1, x2.1.2.2.2.2), x11.2.1, x11.2.2))) else (bif (x3.1 == (3 : Int)) then (lt (α := ByteArray × Nat × Int) (Hz code x3.2.1 x3.2.2) (fun x14 => (lt (α := Kg × Nat × Int) (Vh code x14.2.1 x14.2.2) (fun x15 => ((x2.1.1, x2.1.2.1, x2.1.2.2.1, x2.1.2.2.2.1, x2.1.2.2.2.2 ++ [(x14.1, x15.1)]), x15.2.1, x15.2.2))))) else (bif (x3.1 == (4 : Int)) then ((Xk x2.1 ⟨#[97]⟩ (Xd ⟨#[114, 101, 100]⟩)), x3.2.1, x3.2.2) else (x2.1, x3.2.1, x3.2.2))))))))))))
theorem WZ (code : (List UInt8)) (ci : Nat) (ch : Int) : AGive Tryz.prog 78 [.h code, .i ((ci : Nat) : Int), .i ch] [] (.a [.i ((((Kx code ci ch)).1).1), .i ((((Kx code ci ch)).1).2.1), .b ((((Kx code ci ch)).1).2.2.1), .i ((((Kx code ci ch)).1).2.2.2.1), .o 0 ((((Kx code ci ch)).1).2.2.2.2)]) [.h code, .i ((((Kx code ci ch)).2.1 : Nat) : Int), .i (((Kx code ci ch)).2.2)] := by
 refine Ky (tt := tt) Qb Tryz.func78 (fn := Tryz.f78) rfl (by unfold Dq; kernel_rfl) (Nat.le_of_ble_eq_true rfl) (Nat.le_of_ble_eq_true rfl) rfl rfl fun w0 F0 hG => ?_
 refine sn Qb [0, 2] [2, 60000] (p0) ?_
 obtain ⟨x1, hx1⟩ : ∃ z : Int × Nat × Int, Qk code ci ch 7 = z := ⟨_, rfl⟩
 have hbx1 := hx1 ▸ Q0 code ci ch 7
 obtain ⟨x2, hx2⟩ : ∃ z : Q9 × Nat × Int, Zr code x1.2.1 x1.2.2 (1 + x1.1) = z := ⟨_, rfl⟩
 have hlx2 := Qak code x1.2.1 x1.2.2 (1 + x1.1)
 rw [hx2] at hlx2
 refine tn Qb [0, 2, 3] [2, 3, 60000] (po 2 (.give none (.i x1.1) [.h code, .i ((x1.2.1 : Nat) : Int), .i x1.2.2]) (px (Q8 (hx1 ▸ Xc code ci ch 7)) (pe 3 (Jn (IntWalk.i64_in (1 + x1.1) (by omega))) (po 4 (.give none (.a [.i x2.1.1, .i x2.1.2.1, .b x2.1.2.2.1, .i x2.1.2.2.2.1, .o 0 x2.1.2.2.2.2]) [.h code, .i ((x2.2.1 : Nat) : Int), .i x2.2.2]) (px (Q8 (hx2 ▸ Ev code x1.2.1 x1.2.2 (1 + x1.1))) p0))))) ?_
 refine Qe ?_
 obtain ⟨x3, hx3⟩ : ∃ z : Int × Nat × Int, Qk code x2.2.1 x2.2.2 14 = z := ⟨_, rfl⟩
 have hbx3 := hx3 ▸ Q0 code x2.2.1 x2.2.2 14
 refine tu Qb [(2, .p 2 0), (3, .p 3 0), (10, .i x3.1)] [] [(2, [.i 0, .i 0, .b false, .i 0, .e 4]), (3, [.i x2.1.1, .i x2.1.2.1, .b x2.1.2.2.1, .i x2.1.2.2.2.1, .o 512 x2.1.2.2.2.2]), (60000, [.h code, .i ((x3.2.1 : Nat) : Int), .i x3.2.2])] [60000] (po 1 (.give none (.i x3.1) [.h code, .i ((x3.2.1 : Nat) : Int), .i x3.2.2]) (px (Q8 (hx3 ▸ Xc code x2.2.1 x2.2.2 14)) p0)) ?_
 refine Qs ?_
 refine sn Qb [0, 2, 3, 10, 11] [2, 3, 60000] (p0) ?_
 refine ck (x3.1 == (0 : Int)) (fun h4 => ?_) (fun h4 => ?_)
 ·
  obtain ⟨x5, hx5⟩ : ∃ z : Int × Nat × Int, Zb code x3.2.1 x3.2.2 [0, 60, 61, -1] = z := ⟨_, rfl⟩
  refine qn Qb [0, 2, 3] [2, 3, 60000] (po 2 (.give none (.i x5.1) [.h code, .i ((x5.2.1 : Nat) : Int), .i x5.2.2]) (px (Q8 (hx5 ▸ V7 code x3.2.1 x3.2.2 [0, 60, 61, -1] (Nat.zero_lt_succ _))) p0)) ?_
  refine tu Qb [] [3, 10] [(2, [.i x5.1, .i x2.1.2.1, .b x2.1.2.2.1, .i x2.1.2.2.2.1, .o 512 x2.1.2.2.2.2]), (60000, [.h code, .i ((x5.2.1 : Nat) : Int), .i x5.2.2])] [2, 3, 60000] (p0) ?_
  refine Qg ?_
  have hE6 : Kx code ci ch = ((x5.1, x2.1.2.1, x2.1.2.2.1, x2.1.2.2.2.1, x2.1.2.2.2.2), x5.2.1, x5.2.2) := Yn hx1 (Yn hx2 (Yn hx3 (Q6 h4 (Yn hx5 (rfl)))))
  exact Hl [] (congrArg (fun z => (.a [.i z.1.1, .i z.1.2.1, .b z.1.2.2.1, .i z.1.2.2.2.1, .o 0 z.1.2.2.2.2] : AV)) hE6.symm) (congrArg (fun z => ([.h code, .i ((z.2.1 : Nat) : Int), .i z.2.2] : List C)) hE6.symm)
 have h4d := Yg h4
 refine tn Qb [0, 2, 3, 10, 17] [2, 3, 60000] (p0) ?_
 refine ck (x3.1 == (1 : Int)) (fun h7 => ?_) (fun h7 => ?_)
 ·
  obtain ⟨x8, hx8⟩ : ∃ z : Int × Nat × Int, Zb code x3.2.1 x3.2.2 [-1, 2, 3] = z := ⟨_, rfl⟩
  refine qu Qb [] [10] [(3, [.i x2.1.1, .i x8.1, .b x2.1.2.2.1, .i x2.1.2.2.2.1, .o 512 x2.1.2.2.2.2]), (60000, [.h code, .i ((x8.2.1 : Nat) : Int), .i x8.2.2])] [3, 60000] (po 2 (.give none (.i x8.1) [.h code, .i ((x8.2.1 : Nat) : Int), .i x8.2.2]) (px (Q8 (hx8 ▸ V7 code x3.2.1 x3.2.2 [-1, 2, 3] (Nat.zero_lt_succ _))) p0)) ?_
  refine sn Qb [0, 2] [2, 60000] (p0) ?_
  refine Qg ?_
  have hE9 : Kx code ci ch = ((x2.1.1, x8.1, x2.1.2.2.1, x2.1.2.2.2.1, x2.1.2.2.2.2), x8.2.1, x8.2.2) := Yn hx1 (Yn hx2 (Yn hx3 (Qm h4 (Q6 h7 (Yn hx8 (rfl))))))
  exact Hl [] (congrArg (fun z => (.a [.i z.1.1, .i z.1.2.1, .b z.1.2.2.1, .i z.1.2.2.2.1, .o 0 z.1.2.2.2.2] : AV)) hE9.symm) (congrArg (fun z => ([.h code, .i ((z.2.1 : Nat) : Int), .i z.2.2] : List C)) hE9.symm)
 have h7d := Yg h7
 refine tu Qb [(23, .b (x3.1 == (2 : Int)))] [] [] [] (p0) ?_
 refine ck (x3.1 == (2 : Int)) (fun h10 => ?_) (fun h10 => ?_)
 ·
  obtain ⟨x11, hx11⟩ : ∃ z : Int × Nat × Int, Zb code x3.2.1 x3.2.2 [-1, 60, 61, 9223372036854775807] = z := ⟨_, rfl⟩
  refine rn Qb [0, 2, 3] [2, 3, 60000] (po 2 (.give none (.i x11.1) [.h code, .i ((x11.2.1 : Nat) : Int), .i x11.2.2]) (px (Q8 (hx11 ▸ V7 code x3.2.1 x3.2.2 [-1, 60, 61, 9223372036854775807] (Nat.zero_lt_succ _))) p0)) ?_
  refine tn Qb [0, 2] [2, 60000] (p0) ?_
  refine Qg ?_
  have hE12 : Kx code ci ch = ((x2.1.1, x2.1.2.1, x2.1.2.2.1, x11.1, x2.1.2.2.2.2), x11.2.1, x11.2.2) := Yn hx1 (Yn hx2 (Yn hx3 (Qm h4 (Qm h7 (Q6 h10 (Yn hx11 (rfl)))))))
  exact Hl [] (congrArg (fun z => (.a [.i z.1.1, .i z.1.2.1, .b z.1.2.2.1, .i z.1.2.2.2.1, .o 0 z.1.2.2.2.2] : AV)) hE12.symm) (congrArg (fun z => ([.h code, .i ((z.2.1 : Nat) : Int), .i z.2.2] : List C)) hE12.symm)
 have h10d := Yg h10
 refine sn Qb [0, 2, 3, 10, 29] [2, 3, 60000] (p0) ?_
 refine ck (x3.1 == (3 : Int)) (fun h13 => ?_) (fun h13 => ?_)
 ·
  have h13d := eq_of_beq h13
  obtain ⟨x14, hx14⟩ : ∃ z : ByteArray × Nat × Int, Hz code x3.2.1 x3.2.2 = z := ⟨_, rfl⟩
  obtain ⟨x15, hx15⟩ : ∃ z : Kg × Nat × Int, Vh code x14.2.1 x14.2.2 = z := ⟨_, rfl⟩
  refine wB 3 4 (.own true 512) x2.1.2.2.2.2 (fun hw16 hl17 => ?_)
  refine qU Qb Yo [] [10, 23] [(3, [.i x2.1.1, .i x2.1.2.1, .b x2.1.2.2.1, .i x2.1.2.2.2.1, .slc (.own true 2496) 4 ((eL x2.1.2.2.2.2) ++ [[.s x14.1, .i x15.1.1, .i x15.1.2.1, .s x15.1.2.2]])]), (60000, [.h code, .i ((x15.2.1 : Nat) : Int), .i x15.2.2])] [3, 60000] (po 3 (.give none (.s x14.1) [.h code, .i ((x14.2.1 : Nat) : Int), .i x14.2.2]) (px (Q8 (hx14 ▸ Pd code x3.2.1 x3.2.2)) (po 5 (.give none (.a [.i x15.1.1, .i x15.1.2.1, .s x15.1.2.2]) [.h code, .i ((x15.2.1 : Nat) : Int), .i x15.2.2]) (px (Q8 (hx15 ▸ Rv code x14.2.1 x14.2.2)) (pa x2.1.2.2.2.2 [(x14.1, x15.1)] p0))))) ?_
  refine eqn [] [] [(3, [.i x2.1.1, .i x2.1.2.1, .b x2.1.2.2.1, .i x2.1.2.2.2.1, .o 2496 (x2.1.2.2.2.2 ++ [(x14.1, x15.1)])])] [3] (by rw [show ((eL x2.1.2.2.2.2) ++ [[.s x14.1, .i x15.1.1, .i x15.1.2.1, .s x15.1.2.2]]) = (eL (x2.1.2.2.2.2 ++ [(x14.1, x15.1)])) from Kj (rfl) (rfl)]; first | done | kernel_rfl) ?_
  refine sn Qb [0, 2] [2, 60000] (p0) ?_
  refine Qg ?_
  have hE18 : Kx code ci ch = ((x2.1.1, x2.1.2.1, x2.1.2.2.1, x2.1.2.2.2.1, x2.1.2.2.2.2 ++ [(x14.1, x15.1)]), x15.2.1, x15.2.2) := Yn hx1 (Yn hx2 (Yn hx3 (Qm h4 (Qm h7 (Qm h10 (Q6 h13 (Yn hx14 (Yn hx15 (rfl)))))))))
  exact Hl [] (congrArg (fun z => (.a [.i z.1.1, .i z.1.2.1, .b z.1.2.2.1, .i z.1.2.2.2.1, .o 0 z.1.2.2.2.2] : AV)) hE18.symm) (congrArg (fun z => ([.h code, .i ((z.2.1 : Nat) : Int), .i z.2.2] : List C)) hE18.symm)
 have h13d := Yg h13
 refine tn Qb [0, 2, 3, 41] [2, 3, 60000] (p0) ?_
 refine ck (x3.1 == (4 : Int)) (fun h19 => ?_) (fun h19 => ?_)
 ·
  have h19d := eq_of_beq h19
  refine qU Qb Yo [] [10, 23] [(3, [.i ((Xk x2.1 ⟨#[97]⟩ (Xd ⟨#[114, 101, 100]⟩)).1), .i ((Xk x2.1 ⟨#[97]⟩ (Xd ⟨#[114, 101, 100]⟩)).2.1), .b ((Xk x2.1 ⟨#[97]⟩ (Xd ⟨#[114, 101, 100]⟩)).2.2.1), .i ((Xk x2.1 ⟨#[97]⟩ (Xd ⟨#[114, 101, 100]⟩)).2.2.2.1), .o 2880 ((Xk x2.1 ⟨#[97]⟩ (Xd ⟨#[114, 101, 100]⟩)).2.2.2.2)])] [3] (pc 1 (Up ⟨#[114, 101, 100]⟩) (pc 2 (Cu x2.1 ⟨#[97]⟩ (Xd ⟨#[114, 101, 100]⟩) (by first | omega | (simp; done) | (simp; omega))) p0)) ?_
  refine sn Qb [0, 2] [2, 60000] (p0) ?_
  refine Qg ?_
  have hE20 : Kx code ci ch = ((Xk x2.1 ⟨#[97]⟩ (Xd ⟨#[114, 101, 100]⟩)), x3.2.1, x3.2.2) := Yn hx1 (Yn hx2 (Yn hx3 (Qm h4 (Qm h7 (Qm h10 (Qm h13 (Q6 h19 (rfl))))))))
  exact Hl [] (congrArg (fun z => (.a [.i z.1.1, .i z.1.2.1, .b z.1.2.2.1, .i z.1.2.2.2.1, .o 0 z.1.2.2.2.2] : AV)) hE20.symm) (congrArg (fun z => ([.h code, .i ((z.2.1 : Nat) : Int), .i z.2.2] : List C)) hE20.symm)
 refine Qh ?_
 refine tu Qb [] [3, 10, 23] [(2, [.i x2.1.1, .i x2.1.2.1, .b x2.1.2.2.1, .i x2.1.2.2.2.1, .o 512 x2.1.2.2.2.2])] [2, 3] (p0) ?_
 refine Qg ?_
 have hE21 : Kx code ci ch = (x2.1, x3.2.1, x3.2.2) := Yn hx1 (Yn hx2 (Yn hx3 (Qm h4 (Qm h7 (Qm h10 (Qm h13 (Qm h19 (rfl))))))))
 exact Hl [] (congrArg (fun z => (.a [.i z.1.1, .i z.1.2.1, .b z.1.2.2.1, .i z.1.2.2.2.1, .o 0 z.1.2.2.2.2] : AV)) hE21.symm) (congrArg (fun z => ([.h code, .i ((z.2.1 : Nat) : Int), .i z.2.2] : List C)) hE21.symm)
def W9 (code : (List UInt8)) (s0 : Ql × Nat × Int) : Rd (Ql × Nat × Int) (Ql × Nat × Int) (Ql × Nat × Int) := (bif decide ((s0.1.2.1.length : Int) < (12 : Int)) then (lt (α := Q9 × Nat × Int) (Zr code s0.2.1 s0.2.2 1) (fun x16 => (.next ((((Xv s0.1 x16.1)).1), x16.2.1, x16.2.2)))) else (.brk (s0.1, s0.2.1, s0.2.2)))
def Jv (code : (List UInt8)) (ci : Nat) (ch : Int) : Ql × Nat × Int := (lt (α := Ql × Nat × Int) (Z2 code ci ch) (fun x1 => (lt (α := Int × Nat × Int) (Qk code x1.2.1 x1.2.2 14) (fun x2 => (bif (x2.1 == (0 : Int)) then (lt (α := Int × Nat × Int) (Zb code x2.2.1 x2.2.2 [0, 60, 61, 62]) (fun x4 => ((x1.1.1, x1.1.2.1, x4.1), x4.2.1, x4.2.2))) else (bif (x2.1 == (1 : Int)) then (lt (α := Q9 × Nat × Int) (Kx code x2.2.1 x2.2.2) (fun x7 => ((x1.1.1, x1.1.2.1 ++ [x7.1], x1.1.2.2), x7.2.1, x7.2.2))) else (bif (x2.1 == (2 : Int)) then (lt (α := (List Yq) × Nat × Int) (Uq code x2.2.1 x2.2.2) (fun x12 => ((x12.1, x1.1.2.1, x1.1.2.2), x12.2.1, x12.2.2))) else (bif (x2.1 == (3 : Int)) then (Out.on (Fp (W9 code) 13 (x1.1, x2.2.1, x2.2.2)) (fun y0 => (y0.1, y0.2.1, y0.2.2))) else (x1.1, x2.2.1, x2.2.2)))))))))
theorem UA (code : List UInt8) (ci : Nat) (ch : Int) {s : Ql} (h : S5 s) : (whl (W9 code) 13 (s, ci, ch)).isSome = true :=
  AI (fun s => S5 s.1) (fun s => (s.1.2.1.length : Int)) 12 (fun s s' hi h => by
    unfold W9 lt at h
    by_cases hc : (s.1.2.1.length : Int) < 12
    · simp only [decide_eq_true hc, cond_true] at h
      have h := Rd.next.inj h
      obtain ⟨h1, h2⟩ := Qai hi (by omega) (CY code s.2.1 s.2.2 1)
      rw [← h]
      exact ⟨hc, by dsimp only; omega, h2⟩
    simp only [decide_eq_false hc, cond_false] at h
    cases h) 12 _ h (by show (12 : Int) ≤ (s.2.1.length : Int) + 12; omega)
theorem Lr (code : (List UInt8)) (ci : Nat) (ch : Int) : AGive Tryz.prog 49 [.h code, .i ((ci : Nat) : Int), .i ch] [] (.a [.h ((((Jv code ci ch)).1).1), .q 0 ((((Jv code ci ch)).1).2.1), .i ((((Jv code ci ch)).1).2.2)]) [.h code, .i ((((Jv code ci ch)).2.1 : Nat) : Int), .i (((Jv code ci ch)).2.2)] := by
 refine Ky (tt := tt) Qb Tryz.func49 (fn := Tryz.f49) rfl (by unfold Dq; kernel_rfl) (Nat.le_of_ble_eq_true rfl) (Nat.le_of_ble_eq_true rfl) rfl rfl fun w0 F0 hG => ?_
 refine sn Qb [0, 2] [2, 60000] (p0) ?_
 obtain ⟨x1, hx1⟩ : ∃ z : Ql × Nat × Int, Z2 code ci ch = z := ⟨_, rfl⟩
 have hsx1 := Qbu code ci ch
 rw [hx1] at hsx1
 refine tn Qb [0, 2, 3] [2, 3, 60000] (po 1 (.give none (.a [.o 0 x1.1.1, .q 1 x1.1.2.1, .i x1.1.2.2]) [.h code, .i ((x1.2.1 : Nat) : Int), .i x1.2.2]) (px (Q8 (hx1 ▸ Gc code ci ch)) p0)) ?_
 refine Qe ?_
 obtain ⟨x2, hx2⟩ : ∃ z : Int × Nat × Int, Qk code x1.2.1 x1.2.2 14 = z := ⟨_, rfl⟩
 have hbx2 := hx2 ▸ Q0 code x1.2.1 x1.2.2 14
 refine tu Qb [(2, .p 2 0), (3, .p 3 0), (7, .i x2.1)] [] [(2, [.e 2, .e 5, .i 0]), (3, [.o 320 x1.1.1, .q 321 x1.1.2.1, .i x1.1.2.2]), (60000, [.h code, .i ((x2.2.1 : Nat) : Int), .i x2.2.2])] [60000] (po 1 (.give none (.i x2.1) [.h code, .i ((x2.2.1 : Nat) : Int), .i x2.2.2]) (px (Q8 (hx2 ▸ Xc code x1.2.1 x1.2.2 14)) p0)) ?_
 refine Qs ?_
 refine sn Qb [0, 2, 3, 7, 8] [2, 3, 60000] (p0) ?_
 refine ck (x2.1 == (0 : Int)) (fun h3 => ?_) (fun h3 => ?_)
 ·
  obtain ⟨x4, hx4⟩ : ∃ z : Int × Nat × Int, Zb code x2.2.1 x2.2.2 [0, 60, 61, 62] = z := ⟨_, rfl⟩
  refine qn Qb [0, 2, 3] [2, 3, 60000] (po 2 (.give none (.i x4.1) [.h code, .i ((x4.2.1 : Nat) : Int), .i x4.2.2]) (px (Q8 (hx4 ▸ V7 code x2.2.1 x2.2.2 [0, 60, 61, 62] (Nat.zero_lt_succ _))) p0)) ?_
  refine tu Qb [] [3, 7] [(2, [.o 320 x1.1.1, .q 321 x1.1.2.1, .i x4.1]), (60000, [.h code, .i ((x4.2.1 : Nat) : Int), .i x4.2.2])] [2, 3, 60000] (p0) ?_
  refine Qg ?_
  have hE5 : Jv code ci ch = ((x1.1.1, x1.1.2.1, x4.1), x4.2.1, x4.2.2) := Yn hx1 (Yn hx2 (Q6 h3 (Yn hx4 (rfl))))
  exact Hl [320] (congrArg (fun z => (.a [.h z.1.1, .q 0 z.1.2.1, .i z.1.2.2] : AV)) hE5.symm) (congrArg (fun z => ([.h code, .i ((z.2.1 : Nat) : Int), .i z.2.2] : List C)) hE5.symm)
 have h3d := Yg h3
 refine tn Qb [0, 2, 3, 7, 14] [2, 3, 60000] (p0) ?_
 refine ck (x2.1 == (1 : Int)) (fun h6 => ?_) (fun h6 => ?_)
 ·
  have h6d := eq_of_beq h6
  obtain ⟨x7, hx7⟩ : ∃ z : Q9 × Nat × Int, Kx code x2.2.1 x2.2.2 = z := ⟨_, rfl⟩
  refine wB 3 1 (.own false 321) x1.1.2.1 (fun hw8 hl9 => ?_)
  refine qU Qb Yo [] [7] [(3, [.o 320 x1.1.1, .slc (.own false 1344) 5 ((eL x1.1.2.1) ++ [[.i x7.1.1, .i x7.1.2.1, .b x7.1.2.2.1, .i x7.1.2.2.2.1, .h x7.1.2.2.2.2]]), .i x1.1.2.2]), (60000, [.h code, .i ((x7.2.1 : Nat) : Int), .i x7.2.2])] [3, 60000] (po 3 (.give none (.a [.i x7.1.1, .i x7.1.2.1, .b x7.1.2.2.1, .i x7.1.2.2.2.1, .o 0 x7.1.2.2.2.2]) [.h code, .i ((x7.2.1 : Nat) : Int), .i x7.2.2]) (px (Q8 (hx7 ▸ WZ code x2.2.1 x2.2.2)) (pa x1.1.2.1 [x7.1] p0))) ?_
  refine eqn [] [] [(3, [.o 320 x1.1.1, .q 1344 (x1.1.2.1 ++ [x7.1]), .i x1.1.2.2])] [3] (by rw [show ((eL x1.1.2.1) ++ [[.i x7.1.1, .i x7.1.2.1, .b x7.1.2.2.1, .i x7.1.2.2.2.1, .h x7.1.2.2.2.2]]) = (eL (x1.1.2.1 ++ [x7.1])) from Kj (rfl) (rfl)]; first | done | kernel_rfl) ?_
  refine sn Qb [0, 2] [2, 60000] (p0) ?_
  refine Qg ?_
  have hE10 : Jv code ci ch = ((x1.1.1, x1.1.2.1 ++ [x7.1], x1.1.2.2), x7.2.1, x7.2.2) := Yn hx1 (Yn hx2 (Qm h3 (Q6 h6 (Yn hx7 (rfl)))))
  exact Hl [320] (congrArg (fun z => (.a [.h z.1.1, .q 0 z.1.2.1, .i z.1.2.2] : AV)) hE10.symm) (congrArg (fun z => ([.h code, .i ((z.2.1 : Nat) : Int), .i z.2.2] : List C)) hE10.symm)
 refine tu Qb [(23, .b (x2.1 == (2 : Int)))] [] [] [] (p0) ?_
 refine ck (x2.1 == (2 : Int)) (fun h11 => ?_) (fun h11 => ?_)
 ·
  obtain ⟨x12, hx12⟩ : ∃ z : (List Yq) × Nat × Int, Uq code x2.2.1 x2.2.2 = z := ⟨_, rfl⟩
  refine rn Qb [0, 2, 3] [2, 3, 60000] (po 1 (.give none (.h x12.1) [.h code, .i ((x12.2.1 : Nat) : Int), .i x12.2.2]) (px (Q8 (hx12 ▸ WY code x2.2.1 x2.2.2)) p0)) ?_
  refine tn Qb [0, 2] [2, 60000] (p0) ?_
  refine Qg ?_
  have hE13 : Jv code ci ch = ((x12.1, x1.1.2.1, x1.1.2.2), x12.2.1, x12.2.2) := Yn hx1 (Yn hx2 (Qm h3 (Qm h6 (Q6 h11 (Yn hx12 (rfl))))))
  exact Hl [] (congrArg (fun z => (.a [.h z.1.1, .q 0 z.1.2.1, .i z.1.2.2] : AV)) hE13.symm) (congrArg (fun z => ([.h code, .i ((z.2.1 : Nat) : Int), .i z.2.2] : List C)) hE13.symm)
 refine sn Qb [0, 2, 3, 28] [2, 3, 60000] (p0) ?_
 refine ck (x2.1 == (3 : Int)) (fun h14 => ?_) (fun h14 => ?_)
 ·
  refine mz [(28, .b (x2.1 == (3 : Int)))] [7, 23] [] [] ?_
  refine blw (fun (s0 : Ql × Nat × Int) => []) [28] (fun s0 => [(3, [.o 147206 s0.1.1, .q 147207 s0.1.2.1, .i s0.1.2.2]), (60000, [.h code, .i ((s0.2.1 : Nat) : Int), .i s0.2.2])]) [3, 60000] (fun (y0 : Ql × Nat × Int) => []) [28] (fun y0 => [(3, [.o 147356 y0.1.1, .q 147357 y0.1.2.1, .i y0.1.2.2]), (60000, [.h code, .i ((y0.2.1 : Nat) : Int), .i y0.2.2])]) [3, 60000] (fun (k0 : Nat) (s0 : Ql × Nat × Int) => whl (W9 code) k0 s0 = some (Fp (W9 code) 13 (x1.1, x2.2.1, x2.2.2))) (fun (y0 : Ql × Nat × Int) => (Fp (W9 code) 13 (x1.1, x2.2.1, x2.2.2)) = .brk y0) 13 (x1.1, x2.2.1, x2.2.2) (X2 [(320, 147206), (321, 147207)] (by kernel_rfl)) (De (UA code _ _ hsx1.1)) (fun _ h => Ej h) (fun k0 s0 hI0 => ?_) (fun y0 hD0 => ?_)
  ·
   refine Qe (sn Qb [0, 2, 3, 33] [2, 3, 60000] (pl 2 s0.1.2.1 p0) ?_)
   refine ck (decide ((s0.1.2.1.length : Int) < (12 : Int))) (fun h15 => ?_) (fun h15 => ?_)
   ·
    refine Qh ?_
    refine Qs ?_
    obtain ⟨x16, hx16⟩ : ∃ z : Q9 × Nat × Int, Zr code s0.2.1 s0.2.2 1 = z := ⟨_, rfl⟩
    refine qN Qb Yo [0, 2, 3] [2, 3, 60000] (po 2 (.give none (.a [.i x16.1.1, .i x16.1.2.1, .b x16.1.2.2.1, .i x16.1.2.2.2.1, .o 0 x16.1.2.2.2.2]) [.h code, .i ((x16.2.1 : Nat) : Int), .i x16.2.2]) (px (Q8 (hx16 ▸ Ev code s0.2.1 s0.2.2 1)) (pc 3 (D8 s0.1 x16.1) p0))) ?_
    exact Exists.intro ((((Xv s0.1 x16.1)).1), x16.2.1, x16.2.2) (And.intro (Dz [] [] [2433] [(2432, 147206), (2433, 147207)] (by kernel_rfl)) (wn hI0 (Q6 h15 (Yn hx16 (rfl)))))
   refine Q5 ?_
   exact Exists.intro _ (And.intro (X2 [(147206, 147356), (147207, 147357)] (by kernel_rfl)) (wb hI0 (Qm h15 (rfl))))
  refine sn Qb [0, 2] [2, 60000] (p0) ?_
  refine Qg ?_
  have hE17 : Jv code ci ch = (y0.1, y0.2.1, y0.2.2) := Yn hx1 (Yn hx2 (Qm h3 (Qm h6 (Qm h11 (Q6 h14 (Wc hD0 (rfl)))))))
  exact Hl [147356] (congrArg (fun z => (.a [.h z.1.1, .q 0 z.1.2.1, .i z.1.2.2] : AV)) hE17.symm) (congrArg (fun z => ([.h code, .i ((z.2.1 : Nat) : Int), .i z.2.2] : List C)) hE17.symm)
 refine Qh ?_
 refine tn Qb [0, 2] [2, 60000] (p0) ?_
 refine Qg ?_
 have hE18 : Jv code ci ch = (x1.1, x2.2.1, x2.2.2) := Yn hx1 (Yn hx2 (Qm h3 (Qm h6 (Qm h11 (Qm h14 (rfl))))))
 exact Hl [320] (congrArg (fun z => (.a [.h z.1.1, .q 0 z.1.2.1, .i z.1.2.2] : AV)) hE18.symm) (congrArg (fun z => ([.h code, .i ((z.2.1 : Nat) : Int), .i z.2.2] : List C)) hE18.symm)
def Wx (code : (List UInt8)) (ci : Nat) (ch : Int) : (List X4) × Nat × Int := (lt (α := (List X4) × Nat × Int) (Jk code ci ch) (fun x1 => (lt (α := Int × Nat × Int) (Qk code x1.2.1 x1.2.2 (x1.1.length : Int)) (fun x2 => (lt (α := Int × Nat × Int) (Qk code x2.2.1 x2.2.2 10) (fun x3 => (bif (x3.1 == (0 : Int)) then (lt (α := Int × Nat × Int) (Qk code x3.2.1 x3.2.2 12) (fun x5 => (List.set x1.1 (Int.toNat x2.1) ((x5.1 - 1), (nth x1.1 (Int.toNat x2.1)).2.1, (nth x1.1 (Int.toNat x2.1)).2.2.1, (nth x1.1 (Int.toNat x2.1)).2.2.2.1, ((nth x1.1 (Int.toNat x2.1)).2.2.2.2.1, (nth x1.1 (Int.toNat x2.1)).2.2.2.2.2.1, (nth x1.1 (Int.toNat x2.1)).2.2.2.2.2.2)), x5.2.1, x5.2.2))) else (bif (x3.1 == (1 : Int)) then (lt (α := Int × Nat × Int) (Zb code x3.2.1 x3.2.2 [-1, 0, x2.1, 8, 9223372036854775807]) (fun x11 => (List.set x1.1 (Int.toNat x2.1) ((nth x1.1 (Int.toNat x2.1)).1, x11.1, (nth x1.1 (Int.toNat x2.1)).2.2.1, (nth x1.1 (Int.toNat x2.1)).2.2.2.1, ((nth x1.1 (Int.toNat x2.1)).2.2.2.2.1, (nth x1.1 (Int.toNat x2.1)).2.2.2.2.2.1, (nth x1.1 (Int.toNat x2.1)).2.2.2.2.2.2)), x11.2.1, x11.2.2))) else (bif (x3.1 == (2 : Int)) then (lt (α := ByteArray × Nat × Int) (Yc code x3.2.1 x3.2.2 [⟨#[]⟩, ⟨#[97]⟩, ⟨#[100, 97]⟩, ⟨#[97, 98, 99, 100, 101, 102, 103]⟩, ⟨#[65]⟩]) (fun x17 => (List.set x1.1 (Int.toNat x2.1) ((nth x1.1 (Int.toNat x2.1)).1, (nth x1.1 (Int.toNat x2.1)).2.1, (nth x1.1 (Int.toNat x2.1)).2.2.1, x17.1, ((nth x1.1 (Int.toNat x2.1)).2.2.2.2.1, (nth x1.1 (Int.toNat x2.1)).2.2.2.2.2.1, (nth x1.1 (Int.toNat x2.1)).2.2.2.2.2.2)), x17.2.1, x17.2.2))) else (bif (x3.1 == (3 : Int)) then (lt (α := X4 × Nat × Int) (Zn code x3.2.1 x3.2.2) (fun x23 => (x1.1 ++ [x23.1], x23.2.1, x23.2.2))) else (bif (x3.1 == (4 : Int)) then (lt (α := Kg × Nat × Int) (Vh code x3.2.1 x3.2.2) (fun x28 => (List.set x1.1 (Int.toNat x2.1) ((nth x1.1 (Int.toNat x2.1)).1, (nth x1.1 (Int.toNat x2.1)).2.1, (nth x1.1 (Int.toNat x2.1)).2.2.1, (nth x1.1 (Int.toNat x2.1)).2.2.2.1, x28.1), x28.2.1, x28.2.2))) else (bif (x3.1 == (5 : Int)) then ([], x3.2.1, x3.2.2) else (x1.1, x3.2.1, x3.2.2)))))))))))))
theorem UB (code : (List UInt8)) (ci : Nat) (ch : Int) : AGive Tryz.prog 121 [.h code, .i ((ci : Nat) : Int), .i ch] [] (.o 0 (((Wx code ci ch)).1)) [.h code, .i ((((Wx code ci ch)).2.1 : Nat) : Int), .i (((Wx code ci ch)).2.2)] := by
 refine Ky (tt := tt) Qb Tryz.func121 (fn := Tryz.f121) rfl (by unfold Dq; kernel_rfl) (Nat.le_of_ble_eq_true rfl) (Nat.le_of_ble_eq_true rfl) rfl rfl fun w0 F0 hG => ?_
 refine sn Qb [0, 2] [60000] (p0) ?_
 obtain ⟨x1, hx1⟩ : ∃ z : (List X4) × Nat × Int, Jk code ci ch = z := ⟨_, rfl⟩
 have hbx1 := hx1 ▸ JW code ci ch
 refine tn Qb [0, 2, 3] [60000] (po 1 (.give none (.o 0 x1.1) [.h code, .i ((x1.2.1 : Nat) : Int), .i x1.2.2]) (px (Q8 (hx1 ▸ Db code ci ch)) p0)) ?_
 obtain ⟨x2, hx2⟩ : ∃ z : Int × Nat × Int, Qk code x1.2.1 x1.2.2 (x1.1.length : Int) = z := ⟨_, rfl⟩
 have hbx2 := hx2 ▸ Q0 code x1.2.1 x1.2.2 (x1.1.length : Int)
 refine tu Qb [(2, .e 0), (3, .o 384 x1.1), (4, .i x2.1)] [] [(60000, [.h code, .i ((x2.2.1 : Nat) : Int), .i x2.2.2])] [60000] (pl 2 x1.1 (po 3 (.give none (.i x2.1) [.h code, .i ((x2.2.1 : Nat) : Int), .i x2.2.2]) (px (Q8 (hx2 ▸ Xc code x1.2.1 x1.2.2 (x1.1.length : Int))) p0))) ?_
 refine Qe ?_
 obtain ⟨x3, hx3⟩ : ∃ z : Int × Nat × Int, Qk code x2.2.1 x2.2.2 10 = z := ⟨_, rfl⟩
 have hbx3 := hx3 ▸ Q0 code x2.2.1 x2.2.2 10
 refine sn Qb [0, 2, 3, 4, 12] [60000] (po 1 (.give none (.i x3.1) [.h code, .i ((x3.2.1 : Nat) : Int), .i x3.2.2]) (px (Q8 (hx3 ▸ Xc code x2.2.1 x2.2.2 10)) p0)) ?_
 refine Qs ?_
 refine tn Qb [0, 2, 3, 4, 12, 13] [60000] (p0) ?_
 refine ck (x3.1 == (0 : Int)) (fun h4 => ?_) (fun h4 => ?_)
 ·
  have h4d := eq_of_beq h4
  obtain ⟨x5, hx5⟩ : ∃ z : Int × Nat × Int, Qk code x3.2.1 x3.2.2 12 = z := ⟨_, rfl⟩
  have hbx5 := hx5 ▸ Q0 code x3.2.1 x3.2.2 12
  refine wT 3 0 (.own true 384) x1.1 (fun hw7 hl8 => ?_)
  have hx6 := ng x1.1 (Int.toNat x2.1)
  refine qu Qb [(3, .one (.slc (.own true 384) 7 (setRow (eL x1.1) (Int.toNat x2.1) 0 [.i (x5.1 - 1)])))] [3, 4] [(60000, [.h code, .i ((x5.2.1 : Nat) : Int), .i x5.2.2])] [60000] (po 3 (.give none (.i x5.1) [.h code, .i ((x5.2.1 : Nat) : Int), .i x5.2.2]) (px (Q8 (hx5 ▸ Xc code x3.2.1 x3.2.2 12)) (pe 4 (Jn (IntWalk.i64_in (x5.1 - 1) (by omega))) (pG 5 x2.1 hx6 p0)))) ?_
  refine eqn [(3, .o 384 (List.set x1.1 (Int.toNat x2.1) ((x5.1 - 1), (nth x1.1 (Int.toNat x2.1)).2.1, (nth x1.1 (Int.toNat x2.1)).2.2.1, (nth x1.1 (Int.toNat x2.1)).2.2.2.1, ((nth x1.1 (Int.toNat x2.1)).2.2.2.2.1, (nth x1.1 (Int.toNat x2.1)).2.2.2.2.2.1, (nth x1.1 (Int.toNat x2.1)).2.2.2.2.2.2))))] [3] [] [] (by rw [Zw (y := ((x5.1 - 1), (nth x1.1 (Int.toNat x2.1)).2.1, (nth x1.1 (Int.toNat x2.1)).2.2.1, (nth x1.1 (Int.toNat x2.1)).2.2.2.1, ((nth x1.1 (Int.toNat x2.1)).2.2.2.2.1, (nth x1.1 (Int.toNat x2.1)).2.2.2.2.2.1, (nth x1.1 (Int.toNat x2.1)).2.2.2.2.2.2))) hx6 rfl]; first | done | kernel_rfl) ?_
  refine sn Qb [0, 2] [60000] (p0) ?_
  refine Qg ?_
  have hE9 : Wx code ci ch = (List.set x1.1 (Int.toNat x2.1) ((x5.1 - 1), (nth x1.1 (Int.toNat x2.1)).2.1, (nth x1.1 (Int.toNat x2.1)).2.2.1, (nth x1.1 (Int.toNat x2.1)).2.2.2.1, ((nth x1.1 (Int.toNat x2.1)).2.2.2.2.1, (nth x1.1 (Int.toNat x2.1)).2.2.2.2.2.1, (nth x1.1 (Int.toNat x2.1)).2.2.2.2.2.2)), x5.2.1, x5.2.2) := Yn hx1 (Yn hx2 (Yn hx3 (Q6 h4 (Yn hx5 (rfl)))))
  exact Hl [] (congrArg (fun z => (.o 0 z.1 : AV)) hE9.symm) (congrArg (fun z => ([.h code, .i ((z.2.1 : Nat) : Int), .i z.2.2] : List C)) hE9.symm)
 have h4d := Yg h4
 refine tu Qb [(12, .i x3.1), (22, .b (x3.1 == (1 : Int)))] [] [(60000, [.h code, .i ((x3.2.1 : Nat) : Int), .i x3.2.2])] [60000] (p0) ?_
 refine ck (x3.1 == (1 : Int)) (fun h10 => ?_) (fun h10 => ?_)
 ·
  have h10d := eq_of_beq h10
  obtain ⟨x11, hx11⟩ : ∃ z : Int × Nat × Int, Zb code x3.2.1 x3.2.2 [-1, 0, x2.1, 8, 9223372036854775807] = z := ⟨_, rfl⟩
  refine wT 3 0 (.own true 384) x1.1 (fun hw13 hl14 => ?_)
  have hx12 := ng x1.1 (Int.toNat x2.1)
  refine ru Qb [(3, .one (.slc (.own true 384) 7 (setRow (eL x1.1) (Int.toNat x2.1) 1 [.i x11.1])))] [3, 4, 12, 22] [(60000, [.h code, .i ((x11.2.1 : Nat) : Int), .i x11.2.2])] [60000] (po 5 (.give none (.i x11.1) [.h code, .i ((x11.2.1 : Nat) : Int), .i x11.2.2]) (px (Q8 (hx11 ▸ V7 code x3.2.1 x3.2.2 [-1, 0, x2.1, 8, 9223372036854775807] (Nat.zero_lt_succ _))) (pG 6 x2.1 hx12 p0))) ?_
  refine eqn [(3, .o 384 (List.set x1.1 (Int.toNat x2.1) ((nth x1.1 (Int.toNat x2.1)).1, x11.1, (nth x1.1 (Int.toNat x2.1)).2.2.1, (nth x1.1 (Int.toNat x2.1)).2.2.2.1, ((nth x1.1 (Int.toNat x2.1)).2.2.2.2.1, (nth x1.1 (Int.toNat x2.1)).2.2.2.2.2.1, (nth x1.1 (Int.toNat x2.1)).2.2.2.2.2.2))))] [3] [] [] (by rw [Zw (y := ((nth x1.1 (Int.toNat x2.1)).1, x11.1, (nth x1.1 (Int.toNat x2.1)).2.2.1, (nth x1.1 (Int.toNat x2.1)).2.2.2.1, ((nth x1.1 (Int.toNat x2.1)).2.2.2.2.1, (nth x1.1 (Int.toNat x2.1)).2.2.2.2.2.1, (nth x1.1 (Int.toNat x2.1)).2.2.2.2.2.2))) hx12 rfl]; first | done | kernel_rfl) ?_
  refine sn Qb [0, 2] [60000] (p0) ?_
  refine Qg ?_
  have hE15 : Wx code ci ch = (List.set x1.1 (Int.toNat x2.1) ((nth x1.1 (Int.toNat x2.1)).1, x11.1, (nth x1.1 (Int.toNat x2.1)).2.2.1, (nth x1.1 (Int.toNat x2.1)).2.2.2.1, ((nth x1.1 (Int.toNat x2.1)).2.2.2.2.1, (nth x1.1 (Int.toNat x2.1)).2.2.2.2.2.1, (nth x1.1 (Int.toNat x2.1)).2.2.2.2.2.2)), x11.2.1, x11.2.2) := Yn hx1 (Yn hx2 (Yn hx3 (Qm h4 (Q6 h10 (Yn hx11 (rfl))))))
  exact Hl [] (congrArg (fun z => (.o 0 z.1 : AV)) hE15.symm) (congrArg (fun z => ([.h code, .i ((z.2.1 : Nat) : Int), .i z.2.2] : List C)) hE15.symm)
 have h10d := Yg h10
 refine sn Qb [0, 2, 3, 4, 12, 32] [60000] (p0) ?_
 refine ck (x3.1 == (2 : Int)) (fun h16 => ?_) (fun h16 => ?_)
 ·
  have h16d := eq_of_beq h16
  obtain ⟨x17, hx17⟩ : ∃ z : ByteArray × Nat × Int, Yc code x3.2.1 x3.2.2 [⟨#[]⟩, ⟨#[97]⟩, ⟨#[100, 97]⟩, ⟨#[97, 98, 99, 100, 101, 102, 103]⟩, ⟨#[65]⟩] = z := ⟨_, rfl⟩
  refine wT 3 0 (.own true 384) x1.1 (fun hw19 hl20 => ?_)
  have hx18 := ng x1.1 (Int.toNat x2.1)
  refine qu Qb [(3, .one (.slc (.own true 384) 7 (setRow (eL x1.1) (Int.toNat x2.1) 3 [.s x17.1])))] [3, 4, 12, 22] [(60000, [.h code, .i ((x17.2.1 : Nat) : Int), .i x17.2.2])] [60000] (po 4 (.give none (.s x17.1) [.h code, .i ((x17.2.1 : Nat) : Int), .i x17.2.2]) (px (Q8 (hx17 ▸ Kp code x3.2.1 x3.2.2 [⟨#[]⟩, ⟨#[97]⟩, ⟨#[100, 97]⟩, ⟨#[97, 98, 99, 100, 101, 102, 103]⟩, ⟨#[65]⟩] (Nat.zero_lt_succ _))) (pG 5 x2.1 hx18 p0))) ?_
  refine eqn [(3, .o 384 (List.set x1.1 (Int.toNat x2.1) ((nth x1.1 (Int.toNat x2.1)).1, (nth x1.1 (Int.toNat x2.1)).2.1, (nth x1.1 (Int.toNat x2.1)).2.2.1, x17.1, ((nth x1.1 (Int.toNat x2.1)).2.2.2.2.1, (nth x1.1 (Int.toNat x2.1)).2.2.2.2.2.1, (nth x1.1 (Int.toNat x2.1)).2.2.2.2.2.2))))] [3] [] [] (by rw [Zw (y := ((nth x1.1 (Int.toNat x2.1)).1, (nth x1.1 (Int.toNat x2.1)).2.1, (nth x1.1 (Int.toNat x2.1)).2.2.1, x17.1, ((nth x1.1 (Int.toNat x2.1)).2.2.2.2.1, (nth x1.1 (Int.toNat x2.1)).2.2.2.2.2.1, (nth x1.1 (Int.toNat x2.1)).2.2.2.2.2.2))) hx18 rfl]; first | done | kernel_rfl) ?_
  refine sn Qb [0, 2] [60000] (p0) ?_
  refine Qg ?_
  have hE21 : Wx code ci ch = (List.set x1.1 (Int.toNat x2.1) ((nth x1.1 (Int.toNat x2.1)).1, (nth x1.1 (Int.toNat x2.1)).2.1, (nth x1.1 (Int.toNat x2.1)).2.2.1, x17.1, ((nth x1.1 (Int.toNat x2.1)).2.2.2.2.1, (nth x1.1 (Int.toNat x2.1)).2.2.2.2.2.1, (nth x1.1 (Int.toNat x2.1)).2.2.2.2.2.2)), x17.2.1, x17.2.2) := Yn hx1 (Yn hx2 (Yn hx3 (Qm h4 (Qm h10 (Q6 h16 (Yn hx17 (rfl)))))))
  exact Hl [] (congrArg (fun z => (.o 0 z.1 : AV)) hE21.symm) (congrArg (fun z => ([.h code, .i ((z.2.1 : Nat) : Int), .i z.2.2] : List C)) hE21.symm)
 have h16d := Yg h16
 refine tn Qb [0, 2, 3, 4, 12, 41] [60000] (p0) ?_
 refine ck (x3.1 == (3 : Int)) (fun h22 => ?_) (fun h22 => ?_)
 ·
  have h22d := eq_of_beq h22
  obtain ⟨x23, hx23⟩ : ∃ z : X4 × Nat × Int, Zn code x3.2.1 x3.2.2 = z := ⟨_, rfl⟩
  refine wT 3 0 (.own true 384) x1.1 (fun hw24 hl25 => ?_)
  refine qu Qb [(3, .one (.slc (.own true 3008) 7 ((eL x1.1) ++ [[.i x23.1.1, .i x23.1.2.1, .i x23.1.2.2.1, .s x23.1.2.2.2.1, .i x23.1.2.2.2.2.1, .i x23.1.2.2.2.2.2.1, .s x23.1.2.2.2.2.2.2]])))] [3, 4, 12, 22] [(60000, [.h code, .i ((x23.2.1 : Nat) : Int), .i x23.2.2])] [60000] (po 2 (.give none (.a [.i x23.1.1, .i x23.1.2.1, .i x23.1.2.2.1, .s x23.1.2.2.2.1, .i x23.1.2.2.2.2.1, .i x23.1.2.2.2.2.2.1, .s x23.1.2.2.2.2.2.2]) [.h code, .i ((x23.2.1 : Nat) : Int), .i x23.2.2]) (px (Q8 (hx23 ▸ Ik code x3.2.1 x3.2.2)) (pa x1.1 [x23.1] p0))) ?_
  refine eqn [(3, .o 3008 (x1.1 ++ [x23.1]))] [3] [] [] (by rw [show ((eL x1.1) ++ [[.i x23.1.1, .i x23.1.2.1, .i x23.1.2.2.1, .s x23.1.2.2.2.1, .i x23.1.2.2.2.2.1, .i x23.1.2.2.2.2.2.1, .s x23.1.2.2.2.2.2.2]]) = (eL (x1.1 ++ [x23.1])) from Kj (rfl) (rfl)]; first | done | kernel_rfl) ?_
  refine sn Qb [0, 2] [60000] (p0) ?_
  refine Qg ?_
  have hE26 : Wx code ci ch = (x1.1 ++ [x23.1], x23.2.1, x23.2.2) := Yn hx1 (Yn hx2 (Yn hx3 (Qm h4 (Qm h10 (Qm h16 (Q6 h22 (Yn hx23 (rfl))))))))
  exact Hl [] (congrArg (fun z => (.o 0 z.1 : AV)) hE26.symm) (congrArg (fun z => ([.h code, .i ((z.2.1 : Nat) : Int), .i z.2.2] : List C)) hE26.symm)
 have h22d := Yg h22
 refine tu Qb [(48, .b (x3.1 == (4 : Int)))] [22] [] [] (p0) ?_
 refine ck (x3.1 == (4 : Int)) (fun h27 => ?_) (fun h27 => ?_)
 ·
  have h27d := eq_of_beq h27
  obtain ⟨x28, hx28⟩ : ∃ z : Kg × Nat × Int, Vh code x3.2.1 x3.2.2 = z := ⟨_, rfl⟩
  refine wT 3 0 (.own true 384) x1.1 (fun hw30 hl31 => ?_)
  have hx29 := ng x1.1 (Int.toNat x2.1)
  refine ru Qb [(3, .one (.slc (.own true 384) 7 (setRow (eL x1.1) (Int.toNat x2.1) 4 [.i x28.1.1, .i x28.1.2.1, .s x28.1.2.2])))] [3, 4, 12, 48] [(60000, [.h code, .i ((x28.2.1 : Nat) : Int), .i x28.2.2])] [60000] (po 3 (.give none (.a [.i x28.1.1, .i x28.1.2.1, .s x28.1.2.2]) [.h code, .i ((x28.2.1 : Nat) : Int), .i x28.2.2]) (px (Q8 (hx28 ▸ Rv code x3.2.1 x3.2.2)) (pG 4 x2.1 hx29 p0))) ?_
  refine eqn [(3, .o 384 (List.set x1.1 (Int.toNat x2.1) ((nth x1.1 (Int.toNat x2.1)).1, (nth x1.1 (Int.toNat x2.1)).2.1, (nth x1.1 (Int.toNat x2.1)).2.2.1, (nth x1.1 (Int.toNat x2.1)).2.2.2.1, x28.1)))] [3] [] [] (by rw [Zw (y := ((nth x1.1 (Int.toNat x2.1)).1, (nth x1.1 (Int.toNat x2.1)).2.1, (nth x1.1 (Int.toNat x2.1)).2.2.1, (nth x1.1 (Int.toNat x2.1)).2.2.2.1, x28.1)) hx29 rfl]; first | done | kernel_rfl) ?_
  refine sn Qb [0, 2] [60000] (p0) ?_
  refine Qg ?_
  have hE32 : Wx code ci ch = (List.set x1.1 (Int.toNat x2.1) ((nth x1.1 (Int.toNat x2.1)).1, (nth x1.1 (Int.toNat x2.1)).2.1, (nth x1.1 (Int.toNat x2.1)).2.2.1, (nth x1.1 (Int.toNat x2.1)).2.2.2.1, x28.1), x28.2.1, x28.2.2) := Yn hx1 (Yn hx2 (Yn hx3 (Qm h4 (Qm h10 (Qm h16 (Qm h22 (Q6 h27 (Yn hx28 (rfl)))))))))
  exact Hl [] (congrArg (fun z => (.o 0 z.1 : AV)) hE32.symm) (congrArg (fun z => ([.h code, .i ((z.2.1 : Nat) : Int), .i z.2.2] : List C)) hE32.symm)
 refine sn Qb [0, 2, 3, 56] [60000] (p0) ?_
 refine ck (x3.1 == (5 : Int)) (fun h33 => ?_) (fun h33 => ?_)
 ·
  refine qn Qb [0, 2, 3] [60000] (p0) ?_
  refine tu Qb [] [3, 4, 12, 48] [] [] (p0) ?_
  refine opn [(false, 2, 0, true, 384000, 7)] ?_
  refine Qg ?_
  have hE34 : Wx code ci ch = ([], x3.2.1, x3.2.2) := Yn hx1 (Yn hx2 (Yn hx3 (Qm h4 (Qm h10 (Qm h16 (Qm h22 (Qm h27 (Q6 h33 (rfl)))))))))
  exact Hl [] (congrArg (fun z => (.o 0 z.1 : AV)) hE34.symm) (congrArg (fun z => ([.h code, .i ((z.2.1 : Nat) : Int), .i z.2.2] : List C)) hE34.symm)
 refine Qh ?_
 refine tn Qb [0, 2] [60000] (p0) ?_
 refine Qg ?_
 have hE35 : Wx code ci ch = (x1.1, x3.2.1, x3.2.2) := Yn hx1 (Yn hx2 (Yn hx3 (Qm h4 (Qm h10 (Qm h16 (Qm h22 (Qm h27 (Qm h33 (rfl)))))))))
 exact Hl [] (congrArg (fun z => (.o 0 z.1 : AV)) hE35.symm) (congrArg (fun z => ([.h code, .i ((z.2.1 : Nat) : Int), .i z.2.2] : List C)) hE35.symm)
def Ua (code : (List UInt8)) (s0 : (List Yd) × Nat × Int) : Rd ((List Yd) × Nat × Int) ((List Yd) × Nat × Int) ((List Yd) × Nat × Int) := (lt (α := Int × Nat × Int) (Qk code s0.2.1 s0.2.2 2) (fun x17 => (bif decide ((s0.1.length : Int) < (5 + x17.1)) then (lt (α := (List X4) × Nat × Int) (Jk code x17.2.1 x17.2.2) (fun x20 => (.next (s0.1 ++ [((nth ([⟨#[100, 97]⟩, ⟨#[100, 98]⟩, ⟨#[100, 99]⟩, ⟨#[100, 100]⟩, ⟨#[100, 101]⟩, ⟨#[100, 102]⟩] : (List ByteArray)) (Int.toNat (s0.1.length : Int))), x20.1)], x20.2.1, x20.2.2)))) else (.brk (s0.1, x17.2.1, x17.2.2)))))
def Wy (code : (List UInt8)) (ci : Nat) (ch : Int) : (List Yd) × Nat × Int := (lt (α := (List Yd) × Nat × Int) (Kf code ci ch) (fun x1 => (lt (α := Int × Nat × Int) (Qk code x1.2.1 x1.2.2 (x1.1.length : Int)) (fun x2 => (lt (α := Int × Nat × Int) (Qk code x2.2.1 x2.2.2 10) (fun x3 => (bif (x3.1 == (0 : Int)) then (lt (α := ByteArray × Nat × Int) (Yc code x3.2.1 x3.2.2 [⟨#[]⟩, ⟨#[65]⟩, ⟨#[122, 122]⟩, ⟨#[97, 98, 99, 100, 101, 102, 103]⟩]) (fun x5 => (List.set x1.1 (Int.toNat x2.1) (x5.1, (nth x1.1 (Int.toNat x2.1)).2), x5.2.1, x5.2.2))) else (bif (x3.1 == (1 : Int)) then (lt (α := (List X4) × Nat × Int) (Wx code x3.2.1 x3.2.2) (fun x11 => (List.set x1.1 (Int.toNat x2.1) ((nth x1.1 (Int.toNat x2.1)).1, x11.1), x11.2.1, x11.2.2))) else (bif (x3.1 == (2 : Int)) then (Out.on (Fp (Ua code) 7 (x1.1, x3.2.1, x3.2.2)) (fun y0 => (y0.1, y0.2.1, y0.2.2))) else (bif (x3.1 == (3 : Int)) then ([], x3.2.1, x3.2.2) else (x1.1, x3.2.1, x3.2.2)))))))))))
theorem UC (code : List UInt8) (d : List Yd) (ci : Nat) (ch : Int) : (whl (Ua code) 7 (d, ci, ch)).isSome = true :=
  AI (fun _ => True) (fun s => (s.1.length : Int)) 6 (fun s s' _ h => by
    unfold Ua lt at h
    have hb := Q0 code s.2.1 s.2.2 2
    generalize Qk code s.2.1 s.2.2 2 = x at h hb
    by_cases hc : (s.1.length : Int) < 5 + x.1
    · simp only [decide_eq_true hc, cond_true] at h
      have h := Rd.next.inj h
      rw [← h]
      refine ⟨by omega, by simp, trivial⟩
    simp only [decide_eq_false hc, cond_false] at h
    cases h) 6 _ trivial (by show (6 : Int) ≤ (d.length : Int) + 6; omega)
theorem UD (code : (List UInt8)) (ci : Nat) (ch : Int) : AGive Tryz.prog 76 [.h code, .i ((ci : Nat) : Int), .i ch] [] (.o 0 (((Wy code ci ch)).1)) [.h code, .i ((((Wy code ci ch)).2.1 : Nat) : Int), .i (((Wy code ci ch)).2.2)] := by
 refine Ky (tt := tt) Qb Tryz.func76 (fn := Tryz.f76) rfl (by unfold Dq; kernel_rfl) (Nat.le_of_ble_eq_true rfl) (Nat.le_of_ble_eq_true rfl) rfl rfl fun w0 F0 hG => ?_
 refine sn Qb [0, 2] [60000] (p0) ?_
 obtain ⟨x1, hx1⟩ : ∃ z : (List Yd) × Nat × Int, Kf code ci ch = z := ⟨_, rfl⟩
 have hlx1 := Qal code ci ch
 rw [hx1] at hlx1
 refine tn Qb [0, 2, 3] [60000] (po 1 (.give none (.o 0 x1.1) [.h code, .i ((x1.2.1 : Nat) : Int), .i x1.2.2]) (px (Q8 (hx1 ▸ O9 code ci ch)) p0)) ?_
 obtain ⟨x2, hx2⟩ : ∃ z : Int × Nat × Int, Qk code x1.2.1 x1.2.2 (x1.1.length : Int) = z := ⟨_, rfl⟩
 have hbx2 := hx2 ▸ Q0 code x1.2.1 x1.2.2 (x1.1.length : Int)
 refine tu Qb [(2, .e 0), (3, .o 384 x1.1), (4, .i x2.1)] [] [(60000, [.h code, .i ((x2.2.1 : Nat) : Int), .i x2.2.2])] [60000] (pl 2 x1.1 (po 3 (.give none (.i x2.1) [.h code, .i ((x2.2.1 : Nat) : Int), .i x2.2.2]) (px (Q8 (hx2 ▸ Xc code x1.2.1 x1.2.2 (x1.1.length : Int))) p0))) ?_
 refine Qe ?_
 obtain ⟨x3, hx3⟩ : ∃ z : Int × Nat × Int, Qk code x2.2.1 x2.2.2 10 = z := ⟨_, rfl⟩
 have hbx3 := hx3 ▸ Q0 code x2.2.1 x2.2.2 10
 refine sn Qb [0, 2, 3, 4, 12] [60000] (po 1 (.give none (.i x3.1) [.h code, .i ((x3.2.1 : Nat) : Int), .i x3.2.2]) (px (Q8 (hx3 ▸ Xc code x2.2.1 x2.2.2 10)) p0)) ?_
 refine Qs ?_
 refine tn Qb [0, 2, 3, 4, 12, 13] [60000] (p0) ?_
 refine ck (x3.1 == (0 : Int)) (fun h4 => ?_) (fun h4 => ?_)
 ·
  have h4d := eq_of_beq h4
  obtain ⟨x5, hx5⟩ : ∃ z : ByteArray × Nat × Int, Yc code x3.2.1 x3.2.2 [⟨#[]⟩, ⟨#[65]⟩, ⟨#[122, 122]⟩, ⟨#[97, 98, 99, 100, 101, 102, 103]⟩] = z := ⟨_, rfl⟩
  refine wT 3 0 (.own true 384) x1.1 (fun hw7 hl8 => ?_)
  have hx6 := ng x1.1 (Int.toNat x2.1)
  refine qu Qb [(3, .one (.slc (.own true 384) 2 (setRow (eL x1.1) (Int.toNat x2.1) 0 [.s x5.1])))] [3, 4] [(60000, [.h code, .i ((x5.2.1 : Nat) : Int), .i x5.2.2])] [60000] (po 4 (.give none (.s x5.1) [.h code, .i ((x5.2.1 : Nat) : Int), .i x5.2.2]) (px (Q8 (hx5 ▸ Kp code x3.2.1 x3.2.2 [⟨#[]⟩, ⟨#[65]⟩, ⟨#[122, 122]⟩, ⟨#[97, 98, 99, 100, 101, 102, 103]⟩] (Nat.zero_lt_succ _))) (pG 5 x2.1 hx6 p0))) ?_
  refine eqn [(3, .o 384 (List.set x1.1 (Int.toNat x2.1) (x5.1, (nth x1.1 (Int.toNat x2.1)).2)))] [3] [] [] (by rw [Zw (y := (x5.1, (nth x1.1 (Int.toNat x2.1)).2)) hx6 rfl]; first | done | kernel_rfl) ?_
  refine sn Qb [0, 2] [60000] (p0) ?_
  refine Qg ?_
  have hE9 : Wy code ci ch = (List.set x1.1 (Int.toNat x2.1) (x5.1, (nth x1.1 (Int.toNat x2.1)).2), x5.2.1, x5.2.2) := Yn hx1 (Yn hx2 (Yn hx3 (Q6 h4 (Yn hx5 (rfl)))))
  exact Hl [] (congrArg (fun z => (.o 0 z.1 : AV)) hE9.symm) (congrArg (fun z => ([.h code, .i ((z.2.1 : Nat) : Int), .i z.2.2] : List C)) hE9.symm)
 have h4d := Yg h4
 refine tu Qb [(12, .i x3.1), (22, .b (x3.1 == (1 : Int)))] [] [(60000, [.h code, .i ((x3.2.1 : Nat) : Int), .i x3.2.2])] [60000] (p0) ?_
 refine ck (x3.1 == (1 : Int)) (fun h10 => ?_) (fun h10 => ?_)
 ·
  have h10d := eq_of_beq h10
  obtain ⟨x11, hx11⟩ : ∃ z : (List X4) × Nat × Int, Wx code x3.2.1 x3.2.2 = z := ⟨_, rfl⟩
  refine wT 3 0 (.own true 384) x1.1 (fun hw13 hl14 => ?_)
  have hx12 := ng x1.1 (Int.toNat x2.1)
  refine ru Qb [(3, .one (.slc (.own true 384) 2 (setRow (eL x1.1) (Int.toNat x2.1) 1 [.h x11.1])))] [3, 4, 12, 22] [(60000, [.h code, .i ((x11.2.1 : Nat) : Int), .i x11.2.2])] [60000] (po 3 (.give none (.o 0 x11.1) [.h code, .i ((x11.2.1 : Nat) : Int), .i x11.2.2]) (px (Q8 (hx11 ▸ UB code x3.2.1 x3.2.2)) (pG 4 x2.1 hx12 p0))) ?_
  refine eqn [(3, .o 384 (List.set x1.1 (Int.toNat x2.1) ((nth x1.1 (Int.toNat x2.1)).1, x11.1)))] [3] [] [] (by rw [Zw (y := ((nth x1.1 (Int.toNat x2.1)).1, x11.1)) hx12 rfl]; first | done | kernel_rfl) ?_
  refine sn Qb [0, 2] [60000] (p0) ?_
  refine Qg ?_
  have hE15 : Wy code ci ch = (List.set x1.1 (Int.toNat x2.1) ((nth x1.1 (Int.toNat x2.1)).1, x11.1), x11.2.1, x11.2.2) := Yn hx1 (Yn hx2 (Yn hx3 (Qm h4 (Q6 h10 (Yn hx11 (rfl))))))
  exact Hl [] (congrArg (fun z => (.o 0 z.1 : AV)) hE15.symm) (congrArg (fun z => ([.h code, .i ((z.2.1 : Nat) : Int), .i z.2.2] : List C)) hE15.symm)
 have h10d := Yg h10
 refine sn Qb [0, 2, 3, 12, 30] [60000] (p0) ?_
 refine ck (x3.1 == (2 : Int)) (fun h16 => ?_) (fun h16 => ?_)
 ·
  have h16d := eq_of_beq h16
  refine mz [(30, .b (x3.1 == (2 : Int)))] [4, 22] [] [] ?_
  refine blw (fun (s0 : (List Yd) × Nat × Int) => [(3, .o 147202 s0.1)]) [3, 12, 30] (fun s0 => [(60000, [.h code, .i ((s0.2.1 : Nat) : Int), .i s0.2.2])]) [60000] (fun (y0 : (List Yd) × Nat × Int) => [(3, .o 147352 y0.1)]) [3, 12, 30] (fun y0 => [(60000, [.h code, .i ((y0.2.1 : Nat) : Int), .i y0.2.2])]) [60000] (fun (k0 : Nat) (s0 : (List Yd) × Nat × Int) => whl (Ua code) k0 s0 = some (Fp (Ua code) 7 (x1.1, x3.2.1, x3.2.2))) (fun (y0 : (List Yd) × Nat × Int) => (Fp (Ua code) 7 (x1.1, x3.2.1, x3.2.2)) = .brk y0) 7 (x1.1, x3.2.1, x3.2.2) (X2 [(384, 147202)] (by kernel_rfl)) (De (UC code _ _ _)) (fun _ h => Ej h) (fun k0 s0 hI0 => ?_) (fun y0 hD0 => ?_)
  ·
   refine Qe ?_
   obtain ⟨x17, hx17⟩ : ∃ z : Int × Nat × Int, Qk code s0.2.1 s0.2.2 2 = z := ⟨_, rfl⟩
   have hbx17 := hx17 ▸ Q0 code s0.2.1 s0.2.2 2
   refine sn Qb [0, 2, 3, 37] [60000] (pl 1 s0.1 (po 3 (.give none (.i x17.1) [.h code, .i ((x17.2.1 : Nat) : Int), .i x17.2.2]) (px (Q8 (hx17 ▸ Xc code s0.2.1 s0.2.2 2)) (pe 4 (Jn (IntWalk.i64_in (5 + x17.1) (by omega))) p0)))) ?_
   refine ck (decide ((s0.1.length : Int) < (5 + x17.1))) (fun h18 => ?_) (fun h18 => ?_)
   ·
    have h18d := of_decide_eq_true h18
    refine Qh ?_
    refine Qs ?_
    have hx19 := ng ([⟨#[100, 97]⟩, ⟨#[100, 98]⟩, ⟨#[100, 99]⟩, ⟨#[100, 100]⟩, ⟨#[100, 101]⟩, ⟨#[100, 102]⟩] : (List ByteArray)) (Int.toNat (s0.1.length : Int)) (by simp only [List.length_cons, List.length_nil]; omega)
    obtain ⟨x20, hx20⟩ : ∃ z : (List X4) × Nat × Int, Jk code x17.2.1 x17.2.2 = z := ⟨_, rfl⟩
    have hbx20 := hx20 ▸ JW code x17.2.1 x17.2.2
    refine wT 3 0 (.own true 147202) s0.1 (fun hw21 hl22 => ?_)
    refine qU Qb Yo [(3, .one (.slc (.own true 3072) 2 ((eL s0.1) ++ [[.s (nth ([⟨#[100, 97]⟩, ⟨#[100, 98]⟩, ⟨#[100, 99]⟩, ⟨#[100, 100]⟩, ⟨#[100, 101]⟩, ⟨#[100, 102]⟩] : (List ByteArray)) (Int.toNat (s0.1.length : Int))), .h x20.1]])))] [3] [(60000, [.h code, .i ((x20.2.1 : Nat) : Int), .i x20.2.2])] [60000] (pl 3 s0.1 (pG 4 (s0.1.length : Int) hx19 (po 7 (.give none (.o 0 x20.1) [.h code, .i ((x20.2.1 : Nat) : Int), .i x20.2.2]) (px (Q8 (hx20 ▸ Db code x17.2.1 x17.2.2)) (pa s0.1 [((nth ([⟨#[100, 97]⟩, ⟨#[100, 98]⟩, ⟨#[100, 99]⟩, ⟨#[100, 100]⟩, ⟨#[100, 101]⟩, ⟨#[100, 102]⟩] : (List ByteArray)) (Int.toNat (s0.1.length : Int))), x20.1)] p0))))) ?_
    exact Exists.intro (s0.1 ++ [((nth ([⟨#[100, 97]⟩, ⟨#[100, 98]⟩, ⟨#[100, 99]⟩, ⟨#[100, 100]⟩, ⟨#[100, 101]⟩, ⟨#[100, 102]⟩] : (List ByteArray)) (Int.toNat (s0.1.length : Int))), x20.1)], x20.2.1, x20.2.2) (And.intro (X2 [(3072, 147202)] (by rw [show ((eL s0.1) ++ [[.s (nth ([⟨#[100, 97]⟩, ⟨#[100, 98]⟩, ⟨#[100, 99]⟩, ⟨#[100, 100]⟩, ⟨#[100, 101]⟩, ⟨#[100, 102]⟩] : (List ByteArray)) (Int.toNat (s0.1.length : Int))), .h x20.1]]) = (eL (s0.1 ++ [((nth ([⟨#[100, 97]⟩, ⟨#[100, 98]⟩, ⟨#[100, 99]⟩, ⟨#[100, 100]⟩, ⟨#[100, 101]⟩, ⟨#[100, 102]⟩] : (List ByteArray)) (Int.toNat (s0.1.length : Int))), x20.1)])) from Kj (rfl) (rfl)]; first | done | kernel_rfl)) (wn hI0 (Yn hx17 (Q6 h18 (Yn hx20 (rfl))))))
   refine Q5 ?_
   exact Exists.intro (s0.1, x17.2.1, x17.2.2) (And.intro (X2 [(147202, 147352)] (by kernel_rfl)) (wb hI0 (Yn hx17 (Qm h18 (rfl)))))
  refine sn Qb [0, 2] [60000] (p0) ?_
  refine Qg ?_
  have hE23 : Wy code ci ch = (y0.1, y0.2.1, y0.2.2) := Yn hx1 (Yn hx2 (Yn hx3 (Qm h4 (Qm h10 (Q6 h16 (Wc hD0 (rfl)))))))
  exact Hl [] (congrArg (fun z => (.o 0 z.1 : AV)) hE23.symm) (congrArg (fun z => ([.h code, .i ((z.2.1 : Nat) : Int), .i z.2.2] : List C)) hE23.symm)
 refine tn Qb [0, 2, 3, 49] [60000] (p0) ?_
 refine ck (x3.1 == (3 : Int)) (fun h24 => ?_) (fun h24 => ?_)
 ·
  refine qu Qb [(3, .e 0)] [3, 4, 12, 22] [] [] (p0) ?_
  refine su Qb [] [3] [] [] (p0) ?_
  refine opn [(false, 2, 0, true, 384000, 2)] ?_
  refine Qg ?_
  have hE25 : Wy code ci ch = ([], x3.2.1, x3.2.2) := Yn hx1 (Yn hx2 (Yn hx3 (Qm h4 (Qm h10 (Qm h16 (Q6 h24 (rfl)))))))
  exact Hl [] (congrArg (fun z => (.o 0 z.1 : AV)) hE25.symm) (congrArg (fun z => ([.h code, .i ((z.2.1 : Nat) : Int), .i z.2.2] : List C)) hE25.symm)
 refine Qh ?_
 refine tu Qb [(2, .o 384 x1.1)] [2, 3, 4, 12, 22] [] [] (p0) ?_
 refine Qg ?_
 have hE26 : Wy code ci ch = (x1.1, x3.2.1, x3.2.2) := Yn hx1 (Yn hx2 (Yn hx3 (Qm h4 (Qm h10 (Qm h16 (Qm h24 (rfl)))))))
 exact Hl [] (congrArg (fun z => (.o 0 z.1 : AV)) hE26.symm) (congrArg (fun z => ([.h code, .i ((z.2.1 : Nat) : Int), .i z.2.2] : List C)) hE26.symm)
def Vi (code : (List UInt8)) (ci : Nat) (ch : Int) : Ql × (List Yd) × Nat × Int := (lt (α := Ql × Nat × Int) (Z2 code ci ch) (fun x1 => (lt (α := Bool × Nat × Int) (Y2 code x1.2.1 x1.2.2 12) (fun x2 => (lt (α := Ql × Nat × Int) (bif x2.1 then (lt (α := Ql × Nat × Int) (Jv code x2.2.1 x2.2.2) (fun x3 => (x3.1, x3.2.1, x3.2.2))) else (x1.1, x2.2.1, x2.2.2)) (fun x3 => (lt (α := Bool × Nat × Int) (Y2 code x3.2.1 x3.2.2 5) (fun x6 => (bif x6.1 then (lt (α := (List Yd) × Nat × Int) (Wy code x6.2.1 x6.2.2) (fun x8 => (x3.1, x8.1, x8.2.1, x8.2.2))) else (lt (α := (List Yd) × Nat × Int) (Ka code x6.2.1 x6.2.2) (fun x10 => (x3.1, x10.1, x10.2.1, x10.2.2))))))))))))
theorem KA (code : (List UInt8)) (ci : Nat) (ch : Int) : AGive Tryz.prog 47 [.h code, .i ((ci : Nat) : Int), .i ch] [] (.tup [(true, [.h ((((Vi code ci ch)).1).1), .q 0 ((((Vi code ci ch)).1).2.1), .i ((((Vi code ci ch)).1).2.2)]), (false, [.h (((Vi code ci ch)).2.1)])]) [.h code, .i ((((Vi code ci ch)).2.2.1 : Nat) : Int), .i (((Vi code ci ch)).2.2.2)] := by
 refine Ky (tt := tt) Qb Tryz.func47 (fn := Tryz.f47) rfl (by unfold Dq; kernel_rfl) (Nat.le_of_ble_eq_true rfl) (Nat.le_of_ble_eq_true rfl) rfl rfl fun w0 F0 hG => ?_
 refine sn Qb [0, 2, 3] [2, 60000] (p0) ?_
 obtain ⟨x1, hx1⟩ : ∃ z : Ql × Nat × Int, Z2 code ci ch = z := ⟨_, rfl⟩
 refine tn Qb [0, 2, 3, 4] [2, 4, 60000] (po 1 (.give none (.a [.o 0 x1.1.1, .q 1 x1.1.2.1, .i x1.1.2.2]) [.h code, .i ((x1.2.1 : Nat) : Int), .i x1.2.2]) (px (Q8 (hx1 ▸ Gc code ci ch)) p0)) ?_
 refine Qe ?_
 obtain ⟨x2, hx2⟩ : ∃ z : Bool × Nat × Int, Y2 code x1.2.1 x1.2.2 12 = z := ⟨_, rfl⟩
 refine tu Qb [(2, .p 2 0), (3, .e 0), (4, .p 4 0), (8, .b x2.1)] [] [(2, [.e 2, .e 5, .i 0]), (4, [.o 384 x1.1.1, .q 385 x1.1.2.1, .i x1.1.2.2]), (60000, [.h code, .i ((x2.2.1 : Nat) : Int), .i x2.2.2])] [60000] (po 1 (.give none (.b x2.1) [.h code, .i ((x2.2.1 : Nat) : Int), .i x2.2.2]) (px (Q8 (hx2 ▸ K5 code x1.2.1 x1.2.2 12)) p0)) ?_
 obtain ⟨x3, hx3⟩ : ∃ z : Ql × Nat × Int, (bif x2.1 then (lt (α := Ql × Nat × Int) (Jv code x2.2.1 x2.2.2) (fun x3 => (x3.1, x3.2.1, x3.2.2))) else (x1.1, x2.2.1, x2.2.2)) = z := ⟨_, rfl⟩
 refine jn [] [8] [(4, [.h x3.1.1, .q 448512 x3.1.2.1, .i x3.1.2.2]), (60000, [.h code, .i ((x3.2.1 : Nat) : Int), .i x3.2.2])] [4, 60000] x2.1 (fun h4 => ?_) (fun h4 => ?_) ?_
 ·
  refine ckt h4 ?_
  obtain ⟨x5, hx5⟩ : ∃ z : Ql × Nat × Int, Jv code x2.2.1 x2.2.2 = z := ⟨_, rfl⟩
  refine rn Qb [0, 2, 3, 4] [2, 4, 60000] (po 1 (.give none (.a [.h x5.1.1, .q 0 x5.1.2.1, .i x5.1.2.2]) [.h code, .i ((x5.2.1 : Nat) : Int), .i x5.2.2]) (px (Q8 (hx5 ▸ Lr code x2.2.1 x2.2.2)) p0)) ?_
  obtain rfl : x3 = (x5.1, x5.2.1, x5.2.2) := hx3.symm.trans (show (bif x2.1 then (lt (α := Ql × Nat × Int) (Jv code x2.2.1 x2.2.2) (fun x3 => (x3.1, x3.2.1, x3.2.2))) else (x1.1, x2.2.1, x2.2.2)) = (x5.1, x5.2.1, x5.2.2) from Q6 h4 (Yn hx5 (rfl)))
  exact ⟨rfl, X2 [(640, 448512)] (by kernel_rfl)⟩
 ·
  refine ckf h4 ?_
  refine Qh ?_
  obtain rfl : x3 = (x1.1, x2.2.1, x2.2.2) := hx3.symm.trans (show (bif x2.1 then (lt (α := Ql × Nat × Int) (Jv code x2.2.1 x2.2.2) (fun x3 => (x3.1, x3.2.1, x3.2.2))) else (x1.1, x2.2.1, x2.2.2)) = (x1.1, x2.2.1, x2.2.2) from Qm h4 (rfl))
  exact ⟨rfl, Dz [] [384] [] [(385, 448512)] (by kernel_rfl)⟩
 refine Qe ?_
 obtain ⟨x6, hx6⟩ : ∃ z : Bool × Nat × Int, Y2 code x3.2.1 x3.2.2 5 = z := ⟨_, rfl⟩
 refine sn Qb [0, 2, 3, 4, 12] [2, 4, 60000] (po 1 (.give none (.b x6.1) [.h code, .i ((x6.2.1 : Nat) : Int), .i x6.2.2]) (px (Q8 (hx6 ▸ K5 code x3.2.1 x3.2.2 5)) p0)) ?_
 refine ck x6.1 (fun h7 => ?_) (fun h7 => ?_)
 ·
  obtain ⟨x8, hx8⟩ : ∃ z : (List Yd) × Nat × Int, Wy code x6.2.1 x6.2.2 = z := ⟨_, rfl⟩
  refine tN Qb Yo [0, 2, 3, 4] [2, 4, 60000] (po 2 (.give none (.o 0 x8.1) [.h code, .i ((x8.2.1 : Nat) : Int), .i x8.2.2]) (px (Q8 (hx8 ▸ UD code x6.2.1 x6.2.2)) p0)) ?_
  refine Qg ?_
  have hE9 : Vi code ci ch = (x3.1, x8.1, x8.2.1, x8.2.2) := Yn hx1 (Yn hx2 (Yn hx3 (Yn hx6 (Q6 h7 (Yn hx8 (rfl))))))
  exact Hl [960] (congrArg (fun z => (.tup [(true, [.h z.1.1, .q 0 z.1.2.1, .i z.1.2.2]), (false, [.h z.2.1])] : AV)) hE9.symm) (congrArg (fun z => ([.h code, .i ((z.2.2.1 : Nat) : Int), .i z.2.2.2] : List C)) hE9.symm)
 refine Qh ?_
 obtain ⟨x10, hx10⟩ : ∃ z : (List Yd) × Nat × Int, Ka code x6.2.1 x6.2.2 = z := ⟨_, rfl⟩
 have hbx10 := hx10 ▸ RS code x6.2.1 x6.2.2
 refine tN Qb Yo [0, 2, 3] [2, 60000] (po 2 (.give none (.h x10.1) [.h code, .i ((x10.2.1 : Nat) : Int), .i x10.2.2]) (px (Q8 (hx10 ▸ Pc code x6.2.1 x6.2.2)) p0)) ?_
 refine Qg ?_
 have hE11 : Vi code ci ch = (x3.1, x10.1, x10.2.1, x10.2.2) := Yn hx1 (Yn hx2 (Yn hx3 (Yn hx6 (Qm h7 (Yn hx10 (rfl))))))
 exact Hl [] (congrArg (fun z => (.tup [(true, [.h z.1.1, .q 0 z.1.2.1, .i z.1.2.2]), (false, [.h z.2.1])] : AV)) hE11.symm) (congrArg (fun z => ([.h code, .i ((z.2.2.1 : Nat) : Int), .i z.2.2.2] : List C)) hE11.symm)
end Go.Proofs.YtkbfhiamdcoieaaGreatDoor
namespace Go.Proofs.YtkbfhiamdcoieaaGreatDoor
open Go.RowKit
theorem EM (k : Nat) : (nth ([⟨#[100, 97]⟩, ⟨#[100, 98]⟩, ⟨#[100, 99]⟩, ⟨#[100, 100]⟩] : List ByteArray) k).size ≤ 2 := by
  match k with
  | 0 | 1 | 2 | 3 => exact Nat.le_refl 2
  | n + 4 => exact Nat.zero_le 2
theorem UE (code : List UInt8) (ci : Nat) (ch : Int) : ∀ a, a ∈ (Kf code ci ch).1 → a.1.size ≤ 2 := by
  unfold Kf
  obtain ⟨t, ht⟩ := O1 (f := Zp code) (fun s r => by
    unfold Zp lt
    generalize Qk code s.2.2.1 s.2.2.2 4 = x
    simp only
    generalize decide (s.2.1 < 1 + x.1) = c
    cases c <;> simp) 5 ([], 0, ci, ch)
  have := Si (f := Zp code) (I := fun s => ∀ a, a ∈ s.1 → a.1.size ≤ 2) (J := fun t => ∀ a, a ∈ t.1 → a.1.size ≤ 2) (fun s s' hi h => by
    unfold Zp lt at h
    generalize Qk code s.2.2.1 s.2.2.2 4 = x at h
    simp only at h
    revert h
    generalize decide (s.2.1 < 1 + x.1) = c
    intro h
    cases c with
    | true =>
      simp only [cond_true] at h
      have h := Rd.next.inj h
      rw [← h]
      intro a ha
      rcases List.mem_append.1 ha with ha | ha
      · exact hi a ha
      rw [List.mem_singleton.1 ha]; exact EM _
    | false => simp at h) (fun s t hi h => by
    unfold Zp lt at h
    generalize Qk code s.2.2.1 s.2.2.2 4 = x at h
    simp only at h
    revert h
    generalize decide (s.2.1 < 1 + x.1) = c
    intro h
    cases c with
    | true => simp at h
    | false =>
      simp only [cond_false] at h
      have h := Rd.brk.inj h
      rw [← h]
      exact hi) (n := 5) (s := ([], 0, ci, ch)) (t := t) (by intro a ha; simp at ha) (Il code ci ch) ht
  rw [ht]
  exact this
theorem LX (code : List UInt8) (ci : Nat) (ch : Int) (k : Nat) : (nth (Ka code ci ch).1 k).1.size ≤ 2 := by
  have key : ∀ a, a ∈ (Ka code ci ch).1 → a.1.size ≤ 2 := by
    unfold Ka lt
    have h11 := UE code ci ch
    generalize Kf code ci ch = x at h11
    obtain ⟨t, ht⟩ := O1 (f := Ju) (fun s r => by
      unfold Ju
      generalize (decide ((s.length : Int) > (0 : Int)) && (!(Kb s))) = c
      cases c <;> simp) (List.length x.1 + 1) x.1
    have hj := Si (f := Ju) (I := fun s => ∀ a, a ∈ s → a.1.size ≤ 2) (J := fun t => ∀ a, a ∈ t → a.1.size ≤ 2) (fun s s' hi h => by
      unfold Ju at h
      revert h
      generalize (decide ((s.length : Int) > (0 : Int)) && (!(Kb s))) = c
      intro h
      cases c with
      | true =>
        simp only [cond_true] at h
        have h := Rd.next.inj h
        rw [← h]
        exact fun a ha => hi a (List.mem_of_mem_take ha)
      | false => simp at h) (fun s t hi h => by
      unfold Ju at h
      revert h
      generalize (decide ((s.length : Int) > (0 : Int)) && (!(Kb s))) = c
      intro h
      cases c with
      | true => simp at h
      | false =>
        simp only [cond_false] at h
        have h := Rd.brk.inj h
        rw [← h]; exact hi) (n := List.length x.1 + 1) (s := x.1) (t := t) h11 (Pb code x.1) ht
    simp only [ht, Out.on]
    cases ((t.length : Int) == 0) with
    | true =>
      intro a ha
      obtain rfl := List.mem_singleton.1 ha
      exact Nat.le_refl 2
    | false => exact hj
  by_cases hk : k < (Ka code ci ch).1.length
  · exact key _ (List.mem_of_getElem? (K9 hk))
  have : nth (Ka code ci ch).1 k = default := by simp [nth, List.getD, List.getElem?_eq_none (Nat.le_of_not_lt hk)]
  rw [this]; exact Nat.zero_le 2
/-! ### loops, without their end -/
def RdP {R S T : Type} (I : S → Prop) (J : T → Prop) : Rd R S T → Prop
  | .next s => I s
  | .brk t => J t
  | .ret _ => False
theorem DA {R S T : Type} [Inhabited T] {f : S → Rd R S T} (I : S → Prop) (J : T → Prop) (h : ∀ s, I s → RdP I J (f s)) (hd : J default) (n : Nat) (s : S) (hi : I s) : ∃ t, Fp f n s = .brk t ∧ J t := by
  have key : ∀ (n : Nat) (s : S), I s → whl f n s = none ∨ ∃ t, whl f n s = some (.brk t) ∧ J t := by
    intro n
    induction n with
    | zero => exact fun s _ => .inl rfl
    | succ n ih =>
      intro s hi
      have hs := h s hi
      simp only [whl]
      cases hf : f s with
      | next s' => rw [hf] at hs; exact ih s' hs
      | brk t => rw [hf] at hs; exact .inr ⟨t, rfl, hs⟩
      | ret r => rw [hf] at hs; exact hs.elim
  unfold Fp
  rcases key n s hi with h | ⟨t, h, ht⟩
  · rw [h]; exact ⟨default, rfl, hd⟩
  rw [h]; exact ⟨t, rfl, ht⟩
/-! ### names of directories -/
theorem Qbv {d : List Yd} (h : TxD d) (i : Nat) : (nth d i).1.size ≤ 1000 := by
  by_cases hi : i < d.length
  · exact h _ (List.mem_of_getElem? (K9 hi))
  rw [show nth d i = default by simp [nth, List.getD, List.getElem?_eq_none (by omega : d.length ≤ i)]]
  exact Nat.zero_le _
theorem RT {d : List Yd} (h : TxD d) (i : Nat) (y : Yd) (hy : y.1.size ≤ 1000) : TxD (List.set d i y) := fun a ha => by
  rcases List.mem_or_eq_of_mem_set ha with ha | rfl
  · exact h a ha
  exact hy
theorem Qbw {d : List Yd} (h : TxD d) (y : Yd) (hy : y.1.size ≤ 1000) : TxD (d ++ [y]) := fun a ha => by
  rcases List.mem_append.1 ha with ha | ha
  · exact h a ha
  rw [List.mem_singleton.1 ha]; exact hy
theorem LY (k : Nat) : (nth ([⟨#[100, 97]⟩, ⟨#[100, 98]⟩, ⟨#[100, 99]⟩, ⟨#[100, 100]⟩, ⟨#[100, 101]⟩, ⟨#[100, 102]⟩] : List ByteArray) k).size ≤ 1000 := by
  match k with
  | 0 | 1 | 2 | 3 | 4 | 5 => exact (by decide : (2 : Nat) ≤ 1000)
  | n + 6 => exact Nat.zero_le 1000
theorem Rf (code : List UInt8) (ci : Nat) (ch : Int) {list : List ByteArray} (hp : 0 < list.length) (h : list.all (fun x => decide (x.size ≤ 1000)) = true) : (Yc code ci ch list).1.size ≤ 1000 := of_decide_eq_true (List.all_eq_true.1 h _ (JX code ci ch hp))
theorem Qbx (code : List UInt8) (ci : Nat) (ch : Int) : TxD (Kf code ci ch).1 := fun a ha => Nat.le_trans (UE code ci ch a ha) (by decide)
theorem RU (code : List UInt8) (ci : Nat) (ch : Int) : TxD (Ka code ci ch).1 := fun a ha => by
  obtain ⟨i, hi⟩ := List.getElem?_of_mem ha
  have := LX code ci ch i
  rw [Ip hi] at this
  exact Nat.le_trans this (by decide)
theorem LZ (code : List UInt8) (ci : Nat) (ch : Int) : TxD (Wy code ci ch).1 := by
  unfold Wy
  refine Z8 (P := fun z : List Yd × Nat × Int => TxD z.1) (fun x : List Yd × Nat × Int => TxD x.1) (Qbx code ci ch) fun x1 h1 => ?_
  refine Z8 (P := fun z : List Yd × Nat × Int => TxD z.1) (fun _ => True) trivial fun x2 _ => ?_
  refine Z8 (P := fun z : List Yd × Nat × Int => TxD z.1) (fun _ => True) trivial fun x3 _ => ?_
  cases (x3.1 == (0 : Int)) with
  | true =>
    simp only [cond_true]
    exact Z8 (P := fun z : List Yd × Nat × Int => TxD z.1) (fun x : ByteArray × Nat × Int => x.1.size ≤ 1000) (Rf code _ _ (Nat.zero_lt_succ _) rfl) fun x5 h5 => RT h1 _ _ h5
  | false =>
    simp only [cond_false]
    cases (x3.1 == (1 : Int)) with
    | true =>
      simp only [cond_true]
      exact Z8 (P := fun z : List Yd × Nat × Int => TxD z.1) (fun _ => True) trivial fun x11 _ => RT h1 _ _ (Qbv h1 _)
    | false =>
      simp only [cond_false]
      cases (x3.1 == (2 : Int)) with
      | true =>
        simp only [cond_true]
        obtain ⟨t, h2, h3⟩ := DA (f := Ua code) (fun s => TxD s.1) (fun t => TxD t.1) (fun s hs => by
          unfold Ua
          refine Z8 (P := RdP _ _) (fun _ => True) trivial fun x17 _ => ?_
          generalize decide ((_ : Int) < _) = c
          cases c with
          | false => exact hs
          | true =>
            simp only [cond_true]
            exact Z8 (P := RdP _ _) (fun _ => True) trivial fun x20 _ => Qbw hs _ (LY _)) (fun a ha => by cases ha) 7 (x1.1, x3.2.1, x3.2.2) h1
        rw [h2]
        exact h3
      | false =>
        simp only [cond_false]
        cases (x3.1 == (3 : Int)) with
        | true => exact fun a ha => by cases ha
        | false => exact h1
/-! ### texts of files -/
theorem UF : A4.all (fun l => l.all fun a => decide (a.2.2.2.size ≤ 1000)) = true := by kernel_rfl
theorem MA : A4.all (fun l => (stA l ⟨#[97]⟩ (Xd ⟨#[114, 101, 100]⟩)).all fun a => decide (a.2.2.2.size ≤ 1000)) = true := by kernel_rfl
theorem MB (code : List UInt8) (ci : Nat) (ch id : Int) : TxA (Zr code ci ch id).1.2.2.2.2 := fun a ha => of_decide_eq_true (List.all_eq_true.1 (List.all_eq_true.1 UF _ (CY code ci ch id).h6) a ha)
theorem AW (code : List UInt8) (ci : Nat) (ch : Int) : (K8 code ci ch).1.2.2.size ≤ 1000 := by
  unfold K8
  refine Z8 (P := fun z : Kg × Nat × Int => z.1.2.2.size ≤ 1000) (fun _ => True) trivial fun x1 _ => ?_
  cases (x1.1 == (0 : Int)) with
  | true => exact Nat.zero_le _
  | false =>
    simp only [cond_false]
    refine Z8 (P := fun z : Kg × Nat × Int => z.1.2.2.size ≤ 1000) (fun _ => True) trivial fun x4 _ => ?_
    cases x4 with
    | true =>
      simp only [cond_true]
      exact Z8 (P := fun z : Kg × Nat × Int => z.1.2.2.size ≤ 1000) (fun _ => True) trivial fun x7 _ => Nat.zero_le _
    | false =>
      simp only [cond_false]
      exact Z8 (P := fun z : Kg × Nat × Int => z.1.2.2.size ≤ 1000) (fun x : ByteArray × Nat × Int => x.1.size ≤ 1000) (Rf code _ _ (Nat.zero_lt_succ _) rfl) fun x9 h9 => h9
theorem MC (code : List UInt8) (ci : Nat) (ch : Int) : (Vh code ci ch).1.2.2.size ≤ 1000 := by
  unfold Vh
  refine Z8 (P := fun z : Kg × Nat × Int => z.1.2.2.size ≤ 1000) (fun x : Kg × Nat × Int => x.1.2.2.size ≤ 1000) (AW code ci ch) fun x1 h1 => ?_
  refine Z8 (P := fun z : Kg × Nat × Int => z.1.2.2.size ≤ 1000) (fun _ => True) trivial fun x2 _ => ?_
  cases (x2.1 == (0 : Int)) with
  | true =>
    simp only [cond_true]
    exact Z8 (P := fun z : Kg × Nat × Int => z.1.2.2.size ≤ 1000) (fun _ => True) trivial fun x4 _ => h1
  | false =>
    simp only [cond_false]
    cases (x2.1 == (1 : Int)) with
    | true =>
      simp only [cond_true]
      exact Z8 (P := fun z : Kg × Nat × Int => z.1.2.2.size ≤ 1000) (fun _ => True) trivial fun x4 _ => h1
    | false =>
      simp only [cond_false]
      cases (x2.1 == (2 : Int)) with
      | true =>
        simp only [cond_true]
        exact Z8 (P := fun z : Kg × Nat × Int => z.1.2.2.size ≤ 1000) (fun x : ByteArray × Nat × Int => x.1.size ≤ 1000) (Rf code _ _ (Nat.zero_lt_succ _) rfl) fun x10 h10 => h10
      | false => exact h1
theorem MD (code : List UInt8) (ci : Nat) (ch : Int) : TxA (Kx code ci ch).1.2.2.2.2 := by
  unfold Kx
  refine Z8 (P := fun z : Q9 × Nat × Int => TxA z.1.2.2.2.2) (fun _ => True) trivial fun x1 _ => ?_
  refine Z8 (P := fun z : Q9 × Nat × Int => TxA z.1.2.2.2.2) (fun x : Q9 × Nat × Int => FOk (1 + x1.1) A4 x.1) (CY code _ _ _) fun x2 h2 => ?_
  have h2' : TxA x2.1.2.2.2.2 := fun a ha => of_decide_eq_true (List.all_eq_true.1 (List.all_eq_true.1 UF _ h2.h6) a ha)
  refine Z8 (P := fun z : Q9 × Nat × Int => TxA z.1.2.2.2.2) (fun _ => True) trivial fun x3 _ => ?_
  cases (x3.1 == (0 : Int)) with
  | true =>
    simp only [cond_true]
    exact Z8 (P := fun z : Q9 × Nat × Int => TxA z.1.2.2.2.2) (fun _ => True) trivial fun x5 _ => h2'
  | false =>
    simp only [cond_false]
    cases (x3.1 == (1 : Int)) with
    | true =>
      simp only [cond_true]
      exact Z8 (P := fun z : Q9 × Nat × Int => TxA z.1.2.2.2.2) (fun _ => True) trivial fun x5 _ => h2'
    | false =>
      simp only [cond_false]
      cases (x3.1 == (2 : Int)) with
      | true =>
        simp only [cond_true]
        exact Z8 (P := fun z : Q9 × Nat × Int => TxA z.1.2.2.2.2) (fun _ => True) trivial fun x5 _ => h2'
      | false =>
        simp only [cond_false]
        cases (x3.1 == (3 : Int)) with
        | true =>
          simp only [cond_true]
          refine Z8 (P := fun z : Q9 × Nat × Int => TxA z.1.2.2.2.2) (fun _ => True) trivial fun x14 _ => ?_
          refine Z8 (P := fun z : Q9 × Nat × Int => TxA z.1.2.2.2.2) (fun x : Kg × Nat × Int => x.1.2.2.size ≤ 1000) (MC code _ _) fun x15 h15 => ?_
          intro a ha
          rcases List.mem_append.1 ha with ha | ha
          · exact h2' a ha
          rw [List.mem_singleton.1 ha]; exact h15
        | false =>
          simp only [cond_false]
          cases (x3.1 == (4 : Int)) with
          | true =>
            simp only [cond_true]
            rw [YV]
            exact fun a ha => of_decide_eq_true (List.all_eq_true.1 (List.all_eq_true.1 MA _ h2.h6) a ha)
          | false => exact h2'
/-! ### texts of stores -/
theorem QK {s : Ql} {f : Q9} (h : TxS s) (hf : TxA f.2.2.2.2) : TxS (Xv s f).1 := by
  unfold Xv
  rw [EH]
  generalize (_ || _ : Bool) = c
  cases c with
  | true => exact h
  | false =>
    intro g hg
    rcases List.mem_append.1 hg with hg | hg
    · exact h g hg
    rw [List.mem_singleton.1 hg]; exact hf
theorem UG {s : Ql} (h : TxS s) (id : Int) : TxS (Yw s id).1 := by
  unfold Yw
  rw [EH]
  generalize (_ || _ : Bool) = c
  cases c with
  | true => exact h
  | false =>
    intro g hg
    rcases List.mem_append.1 hg with hg | hg
    · exact h g (List.mem_of_mem_take hg)
    exact h g (List.mem_of_mem_drop hg)
theorem ME (code : List UInt8) (ci : Nat) (ch : Int) : TxS (Z2 code ci ch).1 := by
  unfold Z2
  obtain ⟨t, h2, h3⟩ := DA (f := Jj code) (fun s => TxS s.2.1) (fun t => TxS t.1) (fun s hs => by
    unfold Jj
    refine Z8 (P := RdP _ _) (fun _ => True) trivial fun x1 _ => ?_
    generalize decide ((_ : Int) < _) = c
    cases c with
    | false => exact hs
    | true =>
      simp only [cond_true]
      exact Z8 (P := RdP _ _) (fun x : Q9 × Nat × Int => TxA x.1.2.2.2.2) (MB code _ _ _) fun x3 h3 => QK hs h3) (fun f hf => by cases hf) 8 (0, (Z9 Qv), ci, ch) (fun f hf => by cases hf)
  rw [h2]
  simp only [Out.on]
  generalize decide ((_ : Int) > _) = c
  cases c with
  | false => exact h3
  | true =>
    simp only [cond_true]
    refine Z8 (P := fun z : Ql × Nat × Int => TxS z.1) (fun _ => True) trivial fun x5 _ => ?_
    cases x5.1 with
    | false => exact h3
    | true => exact UG h3 _
theorem UH (code : List UInt8) (ci : Nat) (ch : Int) : TxS (Jv code ci ch).1 := by
  unfold Jv
  refine Z8 (P := fun z : Ql × Nat × Int => TxS z.1) (fun x : Ql × Nat × Int => TxS x.1) (ME code ci ch) fun x1 h1 => ?_
  refine Z8 (P := fun z : Ql × Nat × Int => TxS z.1) (fun _ => True) trivial fun x2 _ => ?_
  cases (x2.1 == (0 : Int)) with
  | true =>
    simp only [cond_true]
    exact Z8 (P := fun z : Ql × Nat × Int => TxS z.1) (fun _ => True) trivial fun x4 _ => h1
  | false =>
    simp only [cond_false]
    cases (x2.1 == (1 : Int)) with
    | true =>
      simp only [cond_true]
      refine Z8 (P := fun z : Ql × Nat × Int => TxS z.1) (fun x : Q9 × Nat × Int => TxA x.1.2.2.2.2) (MD code _ _) fun x7 h7 => ?_
      intro g hg
      rcases List.mem_append.1 hg with hg | hg
      · exact h1 g hg
      rw [List.mem_singleton.1 hg]; exact h7
    | false =>
      simp only [cond_false]
      cases (x2.1 == (2 : Int)) with
      | true =>
        simp only [cond_true]
        exact Z8 (P := fun z : Ql × Nat × Int => TxS z.1) (fun _ => True) trivial fun x12 _ => h1
      | false =>
        simp only [cond_false]
        cases (x2.1 == (3 : Int)) with
        | true =>
          simp only [cond_true]
          obtain ⟨t, h2, h3⟩ := DA (f := W9 code) (fun s => TxS s.1) (fun t => TxS t.1) (fun s hs => by
            unfold W9
            generalize decide ((_ : Int) < _) = c
            cases c with
            | false => exact hs
            | true =>
              simp only [cond_true]
              exact Z8 (P := RdP _ _) (fun x : Q9 × Nat × Int => TxA x.1.2.2.2.2) (MB code _ _ _) fun x3 h3 => QK hs h3) (fun f hf => by cases hf) 13 (x1.1, x2.2.1, x2.2.2) h1
          rw [h2]
          exact h3
        | false => exact h1
theorem Qby (code : List UInt8) (ci : Nat) (ch : Int) : TxS (Vi code ci ch).1 ∧ TxD (Vi code ci ch).2.1 := by
  unfold Vi
  refine Z8 (P := fun z : Ql × List Yd × Nat × Int => TxS z.1 ∧ TxD z.2.1) (fun x : Ql × Nat × Int => TxS x.1) (ME code ci ch) fun x1 h1 => ?_
  refine Z8 (P := fun z : Ql × List Yd × Nat × Int => TxS z.1 ∧ TxD z.2.1) (fun _ => True) trivial fun x2 _ => ?_
  refine Z8 (P := fun z : Ql × List Yd × Nat × Int => TxS z.1 ∧ TxD z.2.1) (fun x : Ql × Nat × Int => TxS x.1) ?_ fun x3 h3 => ?_
  · skip
    cases x2.1 with
    | true => exact UH code _ _
    | false => exact h1
  refine Z8 (P := fun z : Ql × List Yd × Nat × Int => TxS z.1 ∧ TxD z.2.1) (fun _ => True) trivial fun x6 _ => ?_
  cases x6.1 with
  | true => exact ⟨h3, LZ code _ _⟩
  | false => exact ⟨h3, RU code _ _⟩
open GoE (enc wide)
def Jl (s_ : Ql) (f : Q9) : Ql × Bool := (bif ((!(Qw (Qf s_))) || (decide ((Q2 (Qf s_) f.1) < (0 : Int)) || (!(Xi ((Qf s_).1) f)))) then ((Qf s_), false) else (((Qf s_).1, List.set ((Qf s_).2.1) (Int.toNat (Q2 (Qf s_) f.1)) (Qn f), (Qf s_).2.2), true))
theorem Rg (s_ : Ql) (f : Q9) : ACalls Tryz.prog 117 [.a [.h s_.1, .h s_.2.1, .i s_.2.2], .a [.i f.1, .i f.2.1, .b f.2.2.1, .i f.2.2.2.1, .h f.2.2.2.2]] (.tup [(true, [.o 0 ((((Jl s_ f)).1).1), .o 1 ((((Jl s_ f)).1).2.1), .i ((((Jl s_ f)).1).2.2)]), (false, [.b (((Jl s_ f)).2)])]) := by
 refine en Qb Tryz.func117 fun w0 F0 hG => ?_
 refine sn Qb [2, 3, 4, 5] [2, 3, 4] (p0) ?_
 refine tn Qb [2, 3, 4, 5] [2, 3, 4] (pc 1 (Ih s_) p0) ?_
 refine tu Qb [(2, .p 2 0), (3, .p 3 0), (4, .p 4 0), (5, .b false), (6, .i (Q2 (Qf s_) f.1))] [0, 1] [(2, [.o 512 ((Qf s_).1), .o 513 ((Qf s_).2.1), .i ((Qf s_).2.2)]), (3, [.i f.1, .i f.2.1, .b f.2.2.1, .i f.2.2.2.1, .h f.2.2.2.2]), (4, [.e 2, .e 5, .i 0])] [] (pc 3 (Dh (Qf s_) f.1) p0) ?_
 refine Qe (Qe (jn [(26, .b ((!(Qw (Qf s_))) || (decide ((Q2 (Qf s_) f.1) < (0 : Int)) || (!(Xi ((Qf s_).1) f)))))] [] [] [] (!(Qw (Qf s_))) (fun h1 => ?_) (fun h1 => ?_) ?_))
 ·
  have h1n : (Qw (Qf s_)) = false := Vr h1
  refine ru Qb [(26, .b true)] [] [] [] (pc 1 (cb h1n (Za (Qf s_))) (pe 2 (show .b (!false) = .b true from rfl) p0)) ?_
  exact ⟨rfl, Qd (by rw [h1]; first | done | kernel_rfl)⟩
 ·
  have h1n : (Qw (Qf s_)) = true := Ze h1
  refine Xl (decide ((Q2 (Qf s_) f.1) < (0 : Int))) (fun h2 => ?_) (fun h2 => ?_)
  ·
   refine ru Qb [(26, .b true)] [] [] [] (pc 1 (cb h1n (Za (Qf s_))) (pe 2 (show .b (!true) = .b false from rfl) (pt 5 h2 p0))) ?_
   exact ⟨rfl, Qd (by rw [h1, h2]; first | done | kernel_rfl)⟩
  have h2p := T4 (Qf s_) f.1
  refine rn Qb [2, 3, 4, 5, 6, 26] [2, 3, 4] (pc 1 (cb h1n (Za (Qf s_))) (pe 2 (show .b (!true) = .b false from rfl) (pf 5 h2 (pc 11 (Wh ((Qf s_).1) f) p0)))) ?_
  exact ⟨rfl, Qd (by rw [h1, h2]; first | done | kernel_rfl)⟩
 refine ck ((!(Qw (Qf s_))) || (decide ((Q2 (Qf s_) f.1) < (0 : Int)) || (!(Xi ((Qf s_).1) f)))) (fun h3 => ?_) (fun h3 => ?_)
 ·
  refine sn Qb [2, 3, 4, 5, 6] [2, 3, 4] (p0) ?_
  refine Qg ?_
  exact pz [] (show Jl s_ f = _ from Q6 h3 (rfl)) (fun z => .tup [(true, [.o 0 z.1.1, .o 1 z.1.2.1, .i z.1.2.2]), (false, [.b z.2])])
 have h3r : ((decide ((Q2 (Qf s_) f.1) < (0 : Int)) || (!(Xi ((Qf s_).1) f)))) = false := Px h3
 have h3rl : (decide ((Q2 (Qf s_) f.1) < (0 : Int))) = false := Pw h3r
 have h3rlp := T4 (Qf s_) f.1
 have h3rld := of_decide_eq_false h3rl
 refine Qh ?_
 refine wB 2 1 (.own true 513) ((Qf s_).2.1) (fun hw5 hl6 => ?_)
 have hx4 := ng ((Qf s_).2.1) (Int.toNat (Q2 (Qf s_) f.1))
 refine sU Qb Yo [] [3, 6, 26] [(2, [.o 512 ((Qf s_).1), .slc (.own true 513) 5 (setRow (eL ((Qf s_).2.1)) (Int.toNat (Q2 (Qf s_) f.1)) 0 [.i ((Qn f).1), .i ((Qn f).2.1), .b ((Qn f).2.2.1), .i ((Qn f).2.2.2.1), .h ((Qn f).2.2.2.2)]), .i ((Qf s_).2.2)])] [2, 3] (pc 4 (Cg f) (pG 5 (Q2 (Qf s_) f.1) hx4 p0)) ?_
 refine eqn [] [] [(2, [.o 512 ((Qf s_).1), .o 513 (List.set ((Qf s_).2.1) (Int.toNat (Q2 (Qf s_) f.1)) (Qn f)), .i ((Qf s_).2.2)])] [2] (by rw [Zw (y := (Qn f)) hx4 rfl]; first | done | kernel_rfl) ?_
 refine sn Qb [4, 5] [4] (p0) ?_
 refine Qg ?_
 exact pz [] (show Jl s_ f = _ from Qm h3 (rfl)) (fun z => .tup [(true, [.o 0 z.1.1, .o 1 z.1.2.1, .i z.1.2.2]), (false, [.b z.2])])
def Kq (code : (List UInt8)) (u : Int) (s0 : Int × Ql × Nat × Int) : Rd (Ql × Nat × Int) (Int × Ql × Nat × Int) (Ql × Nat × Int) := (lt (α := Int × Nat × Int) (Qk code s0.2.2.1 s0.2.2.2 4) (fun x1 => (bif decide (s0.1 < IntKind.i64.wrap (1 + x1.1)) then (lt (α := Q9 × Nat × Int) (Zr code x1.2.1 x1.2.2 1) (fun x3 => (lt (α := Int × Nat × Int) (Qk code x3.2.1 x3.2.2 3) (fun x4 => (bif (x4.1 == (0 : Int)) then (.next (IntKind.i64.wrap (s0.1 + 1), (((Xv s0.2.1 (x3.1.1, Int.tmod (IntKind.i64.wrap (u + 1)) 3, false, x3.1.2.2.2.1, x3.1.2.2.2.2))).1), x4.2.1, x4.2.2)) else (bif (x4.1 == (1 : Int)) then (lt (α := Int × Nat × Int) (Qk code x4.2.1 x4.2.2 (IntKind.i64.wrap ((s0.2.1.2.1.length : Int) + 1))) (fun x7 => (bif (decide (x7.1 < (s0.2.1.2.1.length : Int)) && (!(J8 (nth s0.2.1.2.1 (Int.toNat x7.1)) u))) then (.next (IntKind.i64.wrap (s0.1 + 1), (((Jl s0.2.1 ((nth s0.2.1.2.1 (Int.toNat x7.1)).1, Int.tmod (IntKind.i64.wrap (u + 1)) 3, false, x3.1.2.2.2.1, x3.1.2.2.2.2))).1), x7.2.1, x7.2.2)) else (.next (IntKind.i64.wrap (s0.1 + 1), s0.2.1, x7.2.1, x7.2.2))))) else (lt (α := Int × Nat × Int) (Qk code x4.2.1 x4.2.2 (IntKind.i64.wrap ((s0.2.1.2.1.length : Int) + 1))) (fun x16 => (bif (decide (x16.1 < (s0.2.1.2.1.length : Int)) && (!(J8 (nth s0.2.1.2.1 (Int.toNat x16.1)) u))) then (.next (IntKind.i64.wrap (s0.1 + 1), (((Yw s0.2.1 ((nth s0.2.1.2.1 (Int.toNat x16.1)).1))).1), x16.2.1, x16.2.2)) else (.next (IntKind.i64.wrap (s0.1 + 1), s0.2.1, x16.2.1, x16.2.2))))))))))) else (.brk (s0.2.1, x1.2.1, x1.2.2)))))
def K6 (code : (List UInt8)) (ci : Nat) (ch : Int) (s_ : Ql) (u : Int) : Ql × Nat × Int := (Out.on (Fp (Kq code u) 5 (0, s_, ci, ch)) (fun y0 => (y0.1, y0.2.1, y0.2.2)))
theorem QM (code : List UInt8) (s_ : Ql) (u : Int) (ci : Nat) (ch : Int) : (whl (Kq code u) 5 (0, s_, ci, ch)).isSome = true :=
  BV (fun s => s.1) 4 (fun s s' h0 h => by
    unfold Kq lt at h
    have hb := Q0 code s.2.2.1 s.2.2.2 4
    generalize Qk code s.2.2.1 s.2.2.2 4 = x at h hb
    have e : IntKind.i64.wrap (1 + x.1) = 1 + x.1 := IntWalk.i64_in _ (by omega)
    simp only [e] at h
    by_cases hc : s.1 < 1 + x.1
    · simp only [decide_eq_true hc, cond_true] at h
      simp only [cond_eq_ite] at h
      have key : s'.1 = IntKind.i64.wrap (s.1 + 1) := by
        repeat' split at h
        all_goals (have h := Rd.next.inj h; rw [← h])
      exact ⟨by omega, key.trans (IntWalk.i64_in _ (by omega))⟩
    simp only [decide_eq_false hc, cond_false] at h
    cases h) 4 _ (Int.le_refl 0) (by show (4 : Int) ≤ 0 + 4; omega)
theorem QN (code : (List UInt8)) (ci : Nat) (ch : Int) (s_ : Ql) (u : Int) (hu : 0 ≤ u ∧ u ≤ 2) : AGive Tryz.prog 73 [.h code, .i ((ci : Nat) : Int), .i ch] [.a [.h s_.1, .h s_.2.1, .i s_.2.2], .i u] (.a [.h ((((K6 code ci ch s_ u)).1).1), .h ((((K6 code ci ch s_ u)).1).2.1), .i ((((K6 code ci ch s_ u)).1).2.2)]) [.h code, .i ((((K6 code ci ch s_ u)).2.1 : Nat) : Int), .i (((K6 code ci ch s_ u)).2.2)] := by
 refine Ky (tt := tt) Qb Tryz.func73 (fn := Tryz.f73) rfl (by unfold Dq; kernel_rfl) (Nat.le_of_ble_eq_true rfl) (Nat.le_of_ble_eq_true rfl) rfl rfl fun w0 F0 hG => ?_
 have huw : IntKind.i64.wrap (u + 1) = u + 1 := IntWalk.i64_in _ (by omega)
 refine sn Qb [0, 2, 4, 6] [4, 6, 60000] (p0) ?_
 refine Qe (tn Qb [0, 2, 4, 6, 7] [4, 6, 60000] (p0) ?_)
 refine mz [(4, .p 4 0), (6, .p 6 0), (7, .i 0)] [1] [(4, [.h s_.1, .h s_.2.1, .i s_.2.2]), (6, [.e 2, .e 5, .i 0])] [] ?_
 refine blw (fun (s0 : Int × Ql × Nat × Int) => [(7, .i s0.1)]) [7] (fun s0 => [(4, [.h s0.2.1.1, .h s0.2.1.2.1, .i s0.2.1.2.2]), (60000, [.h code, .i ((s0.2.2.1 : Nat) : Int), .i s0.2.2.2])]) [4, 60000] (fun (y0 : Ql × Nat × Int) => []) [2, 7] (fun y0 => [(4, [.h y0.1.1, .h y0.1.2.1, .i y0.1.2.2]), (60000, [.h code, .i ((y0.2.1 : Nat) : Int), .i y0.2.2])]) [4, 60000] (fun (k0 : Nat) (s0 : Int × Ql × Nat × Int) => whl (Kq code u) k0 s0 = some (Fp (Kq code u) 5 (0, s_, ci, ch))) (fun (y0 : Ql × Nat × Int) => (Fp (Kq code u) 5 (0, s_, ci, ch)) = .brk y0) 5 (0, s_, ci, ch) (Qd (by kernel_rfl)) (De (QM code s_ u ci ch)) (fun _ h => Ej h) (fun k0 s0 hI0 => ?_) (fun y0 hD0 => ?_)
 ·
  refine Qe ?_
  obtain ⟨x1, hx1⟩ : ∃ z : Int × Nat × Int, Qk code s0.2.2.1 s0.2.2.2 4 = z := ⟨_, rfl⟩
  have hbx1 := hx1 ▸ Q0 code s0.2.2.1 s0.2.2.2 4
  refine sn Qb [0, 2, 4, 6, 7, 15] [4, 6, 60000] (po 2 (.give none (.i x1.1) [.h code, .i ((x1.2.1 : Nat) : Int), .i x1.2.2]) (px (Q8 (hx1 ▸ Xc code s0.2.2.1 s0.2.2.2 4)) p0)) ?_
  refine ck (decide (s0.1 < IntKind.i64.wrap (1 + x1.1))) (fun h2 => ?_) (fun h2 => ?_)
  ·
   have h2d := of_decide_eq_true h2
   refine Qh ?_
   refine Qe (Qs ?_)
   obtain ⟨x3, hx3⟩ : ∃ z : Q9 × Nat × Int, Zr code x1.2.1 x1.2.2 1 = z := ⟨_, rfl⟩
   refine tn Qb [0, 2, 4, 6, 7, 8] [4, 6, 8, 60000] (po 1 (.give none (.a [.i x3.1.1, .i x3.1.2.1, .b x3.1.2.2.1, .i x3.1.2.2.2.1, .o 0 x3.1.2.2.2.2]) [.h code, .i ((x3.2.1 : Nat) : Int), .i x3.2.2]) (px (Q8 (hx3 ▸ Ev code x1.2.1 x1.2.2 1)) p0)) ?_
   refine tu Qb [(8, .p 8 0)] [] [(8, [.i x3.1.1, .i x3.1.2.1, .b false, .i x3.1.2.2.2.1, .o 1216 x3.1.2.2.2.2]), (60000, [.h code, .i ((x3.2.1 : Nat) : Int), .i x3.2.2])] [60000] (p0) ?_
   refine sn Qb [0, 2, 4, 6, 7, 8] [4, 6, 8, 60000] (px (SX (n := 3) (by omega)) (px (FV (k := .i64) (n := Int.tmod (IntKind.i64.wrap (u + 1)) 3) (ZR (by omega))) p0)) ?_
   obtain ⟨x4, hx4⟩ : ∃ z : Int × Nat × Int, Qk code x3.2.1 x3.2.2 3 = z := ⟨_, rfl⟩
   have hbx4 := hx4 ▸ Q0 code x3.2.1 x3.2.2 3
   refine tn Qb [0, 2, 4, 6, 7, 8, 26] [4, 6, 8, 60000] (po 1 (.give none (.i x4.1) [.h code, .i ((x4.2.1 : Nat) : Int), .i x4.2.2]) (px (Q8 (hx4 ▸ Xc code x3.2.1 x3.2.2 3)) p0)) ?_
   refine Qs ?_
   refine tu Qb [(26, .i x4.1), (59, .b (x4.1 == (0 : Int)))] [] [(8, [.i x3.1.1, .i (Int.tmod (IntKind.i64.wrap (u + 1)) 3), .b false, .i x3.1.2.2.2.1, .o 1216 x3.1.2.2.2.2]), (60000, [.h code, .i ((x4.2.1 : Nat) : Int), .i x4.2.2])] [8, 60000] (p0) ?_
   refine ck (x4.1 == (0 : Int)) (fun h5 => ?_) (fun h5 => ?_)
   ·
    refine rn Qb [0, 2, 4, 6, 7] [4, 6, 60000] (pc 2 (D8 s0.2.1 (x3.1.1, Int.tmod (IntKind.i64.wrap (u + 1)) 3, false, x3.1.2.2.2.1, x3.1.2.2.2.2)) p0) ?_
    refine qn Qb [0, 2, 4, 6, 7] [4, 6, 60000] (p0) ?_
    exact Exists.intro (IntKind.i64.wrap (s0.1 + 1), (((Xv s0.2.1 (x3.1.1, Int.tmod (IntKind.i64.wrap (u + 1)) 3, false, x3.1.2.2.2.1, x3.1.2.2.2.2))).1), x4.2.1, x4.2.2) (And.intro (Dz [] [4096, 4097] [] [] (by kernel_rfl)) (wn hI0 (Yn hx1 (Q6 h2 (Yn hx3 (Yn hx4 (Q6 h5 (rfl))))))))
   have h5d := Yg h5
   refine sn Qb [0, 2, 4, 6, 7, 8, 68] [4, 6, 8, 60000] (p0) ?_
   refine ck (x4.1 == (1 : Int)) (fun h6 => ?_) (fun h6 => ?_)
   ·
    have h6d := eq_of_beq h6
    obtain ⟨x7, hx7⟩ : ∃ z : Int × Nat × Int, Qk code x4.2.1 x4.2.2 (IntKind.i64.wrap ((s0.2.1.2.1.length : Int) + 1)) = z := ⟨_, rfl⟩
    have hbx7 := hx7 ▸ Q0 code x4.2.1 x4.2.2 (IntKind.i64.wrap ((s0.2.1.2.1.length : Int) + 1))
    refine tn Qb [0, 2, 4, 6, 7, 8, 9] [4, 6, 8, 60000] (pl 3 s0.2.1.2.1 (po 5 (.give none (.i x7.1) [.h code, .i ((x7.2.1 : Nat) : Int), .i x7.2.2]) (px (Q8 (hx7 ▸ Xc code x4.2.1 x4.2.2 (IntKind.i64.wrap ((s0.2.1.2.1.length : Int) + 1)))) p0))) ?_
    refine Qe (mz [(9, .i x7.1)] [26, 59] [(60000, [.h code, .i ((x7.2.1 : Nat) : Int), .i x7.2.2])] [60000] ?_)
    refine jn [(90, .b (decide (x7.1 < (s0.2.1.2.1.length : Int)) && (!(J8 (nth s0.2.1.2.1 (Int.toNat x7.1)) u))))] [] [] [] (decide (x7.1 < (s0.2.1.2.1.length : Int))) (fun h8 => ?_) (fun h8 => ?_) ?_
    ·
     have h8d := of_decide_eq_true h8
     refine wB 4 1 .sh s0.2.1.2.1 (fun hw10 hl11 => ?_)
     have hx9 := ng s0.2.1.2.1 (Int.toNat x7.1)
     refine rn Qb [0, 2, 4, 6, 7, 8, 9, 90] [4, 6, 8, 60000] (pl 3 s0.2.1.2.1 (pt 4 h8 (pg 9 x7.1 hx9 (pc 12 (Cf (nth s0.2.1.2.1 (Int.toNat x7.1)) u) p0)))) ?_
     exact ⟨rfl, Qd (by rw [h8]; first | done | kernel_rfl)⟩
    ·
     refine ru Qb [(90, .b false)] [] [] [] (pl 3 s0.2.1.2.1 (pf 4 h8 p0)) ?_
     exact ⟨rfl, Qd (by rw [h8]; first | done | kernel_rfl)⟩
    refine ck (decide (x7.1 < (s0.2.1.2.1.length : Int)) && (!(J8 (nth s0.2.1.2.1 (Int.toNat x7.1)) u))) (fun h12 => ?_) (fun h12 => ?_)
    ·
     have h12l : (decide (x7.1 < (s0.2.1.2.1.length : Int))) = true := M9 h12
     have h12ld := of_decide_eq_true h12l
     refine wB 4 1 .sh s0.2.1.2.1 (fun hw14 hl15 => ?_)
     have hx13 := ng s0.2.1.2.1 (Int.toNat x7.1)
     refine sn Qb [0, 2, 4, 6, 7, 8] [4, 6, 8, 60000] (pg 3 x7.1 hx13 p0) ?_
     refine qn Qb [0, 2, 4, 6, 7] [4, 6, 60000] (pc 2 (Rg s0.2.1 ((nth s0.2.1.2.1 (Int.toNat x7.1)).1, Int.tmod (IntKind.i64.wrap (u + 1)) 3, false, x3.1.2.2.2.1, x3.1.2.2.2.2)) p0) ?_
     refine qu Qb [(7, .i (IntKind.i64.wrap (s0.1 + 1)))] [7, 8, 9, 90] [(4, [.o 6464 ((((Jl s0.2.1 ((nth s0.2.1.2.1 (Int.toNat x7.1)).1, Int.tmod (IntKind.i64.wrap (u + 1)) 3, false, x3.1.2.2.2.1, x3.1.2.2.2.2))).1).1), .o 6465 ((((Jl s0.2.1 ((nth s0.2.1.2.1 (Int.toNat x7.1)).1, Int.tmod (IntKind.i64.wrap (u + 1)) 3, false, x3.1.2.2.2.1, x3.1.2.2.2.2))).1).2.1), .i ((((Jl s0.2.1 ((nth s0.2.1.2.1 (Int.toNat x7.1)).1, Int.tmod (IntKind.i64.wrap (u + 1)) 3, false, x3.1.2.2.2.1, x3.1.2.2.2.2))).1).2.2)])] [4, 8] (p0) ?_
     exact Exists.intro (IntKind.i64.wrap (s0.1 + 1), (((Jl s0.2.1 ((nth s0.2.1.2.1 (Int.toNat x7.1)).1, Int.tmod (IntKind.i64.wrap (u + 1)) 3, false, x3.1.2.2.2.1, x3.1.2.2.2.2))).1), x7.2.1, x7.2.2) (And.intro (Dz [] [6464, 6465] [] [] (by kernel_rfl)) (wn hI0 (Yn hx1 (Q6 h2 (Yn hx3 (Yn hx4 (Qm h5 (Q6 h6 (Yn hx7 (Q6 h12 (rfl)))))))))))
    refine Qh ?_
    refine rn Qb [0, 2, 4, 6, 7] [4, 6, 60000] (p0) ?_
    exact Exists.intro (IntKind.i64.wrap (s0.1 + 1), s0.2.1, x7.2.1, x7.2.2) (And.intro (Qd (by kernel_rfl)) (wn hI0 (Yn hx1 (Q6 h2 (Yn hx3 (Yn hx4 (Qm h5 (Q6 h6 (Yn hx7 (Qm h12 (rfl)))))))))))
   have h6d := Yg h6
   obtain ⟨x16, hx16⟩ : ∃ z : Int × Nat × Int, Qk code x4.2.1 x4.2.2 (IntKind.i64.wrap ((s0.2.1.2.1.length : Int) + 1)) = z := ⟨_, rfl⟩
   have hbx16 := hx16 ▸ Q0 code x4.2.1 x4.2.2 (IntKind.i64.wrap ((s0.2.1.2.1.length : Int) + 1))
   refine tn Qb [0, 2, 4, 6, 7, 10] [4, 6, 60000] (pl 3 s0.2.1.2.1 (po 5 (.give none (.i x16.1) [.h code, .i ((x16.2.1 : Nat) : Int), .i x16.2.2]) (px (Q8 (hx16 ▸ Xc code x4.2.1 x4.2.2 (IntKind.i64.wrap ((s0.2.1.2.1.length : Int) + 1)))) p0))) ?_
   refine Qe (mz [(10, .i x16.1)] [8, 26, 59] [(60000, [.h code, .i ((x16.2.1 : Nat) : Int), .i x16.2.2])] [8, 60000] ?_)
   refine jn [(47, .b (decide (x16.1 < (s0.2.1.2.1.length : Int)) && (!(J8 (nth s0.2.1.2.1 (Int.toNat x16.1)) u))))] [] [] [] (decide (x16.1 < (s0.2.1.2.1.length : Int))) (fun h17 => ?_) (fun h17 => ?_) ?_
   ·
    have h17d := of_decide_eq_true h17
    refine wB 4 1 .sh s0.2.1.2.1 (fun hw19 hl20 => ?_)
    have hx18 := ng s0.2.1.2.1 (Int.toNat x16.1)
    refine rn Qb [0, 2, 4, 6, 7, 10, 47] [4, 6, 60000] (pl 3 s0.2.1.2.1 (pt 4 h17 (pg 9 x16.1 hx18 (pc 12 (Cf (nth s0.2.1.2.1 (Int.toNat x16.1)) u) p0)))) ?_
    exact ⟨rfl, Qd (by rw [h17]; first | done | kernel_rfl)⟩
   ·
    refine ru Qb [(47, .b false)] [] [] [] (pl 3 s0.2.1.2.1 (pf 4 h17 p0)) ?_
    exact ⟨rfl, Qd (by rw [h17]; first | done | kernel_rfl)⟩
   refine ck (decide (x16.1 < (s0.2.1.2.1.length : Int)) && (!(J8 (nth s0.2.1.2.1 (Int.toNat x16.1)) u))) (fun h21 => ?_) (fun h21 => ?_)
   ·
    have h21l : (decide (x16.1 < (s0.2.1.2.1.length : Int))) = true := M9 h21
    have h21ld := of_decide_eq_true h21l
    refine wB 4 1 .sh s0.2.1.2.1 (fun hw23 hl24 => ?_)
    have hx22 := ng s0.2.1.2.1 (Int.toNat x16.1)
    refine rN Qb Yo [0, 2, 4, 6, 7] [4, 6, 60000] (pg 4 x16.1 hx22 (pc 7 (Iv s0.2.1 ((nth s0.2.1.2.1 (Int.toNat x16.1)).1)) p0)) ?_
    refine qn Qb [0, 2, 4, 6, 7] [4, 6, 60000] (p0) ?_
    exact Exists.intro (IntKind.i64.wrap (s0.1 + 1), (((Yw s0.2.1 ((nth s0.2.1.2.1 (Int.toNat x16.1)).1))).1), x16.2.1, x16.2.2) (And.intro (Dz [] [3584, 3585] [] [] (by kernel_rfl)) (wn hI0 (Yn hx1 (Q6 h2 (Yn hx3 (Yn hx4 (Qm h5 (Qm h6 (Yn hx16 (Q6 h21 (rfl)))))))))))
   refine Qh ?_
   refine rn Qb [0, 2, 4, 6, 7] [4, 6, 60000] (p0) ?_
   exact Exists.intro (IntKind.i64.wrap (s0.1 + 1), s0.2.1, x16.2.1, x16.2.2) (And.intro (Qd (by kernel_rfl)) (wn hI0 (Yn hx1 (Q6 h2 (Yn hx3 (Yn hx4 (Qm h5 (Qm h6 (Yn hx16 (Qm h21 (rfl)))))))))))
  refine Q5 ?_
  exact Exists.intro (s0.2.1, x1.2.1, x1.2.2) (And.intro (Qd (by kernel_rfl)) (wb hI0 (Yn hx1 (Qm h2 (rfl)))))
 refine sn Qb [0, 6] [6, 60000] (p0) ?_
 refine Qg ?_
 have hE25 : K6 code ci ch s_ u = (y0.1, y0.2.1, y0.2.2) := Wc hD0 (rfl)
 exact Hl [] (congrArg (fun z => (.a [.h z.1.1, .h z.1.2.1, .i z.1.2.2] : AV)) hE25.symm) (congrArg (fun z => ([.h code, .i ((z.2.1 : Nat) : Int), .i z.2.2] : List C)) hE25.symm)
def Xh (code : (List UInt8)) : Ql × Ql × Int := (lt (α := Nat × Int) (Um code) (fun x1 => (lt (α := Ql × Nat × Int) (Z2 code x1.1 x1.2) (fun x2 => (lt (α := Int × Nat × Int) (Qk code x2.2.1 x2.2.2 3) (fun x3 => (lt (α := Bool × Nat × Int) (Y2 code x3.2.1 x3.2.2 3) (fun x4 => (bif x4.1 then (lt (α := Ql × Nat × Int) (Jv code x4.2.1 x4.2.2) (fun x6 => (lt (α := Int × Nat × Int) (Uf code x6.2.1 x6.2.2) (fun x7 => (x2.1, x6.1, x7.1))))) else (lt (α := Ql × Nat × Int) (K6 code x4.2.1 x4.2.2 x2.1 x3.1) (fun x9 => (x2.1, x9.1, x3.1))))))))))))
theorem Iy (code : (List UInt8)) : ACalls Tryz.prog 45 [.h code] (.tup [(true, [.h ((((Xh code)).1).1), .h ((((Xh code)).1).2.1), .i ((((Xh code)).1).2.2)]), (true, [.h ((((Xh code)).2.1).1), .h ((((Xh code)).2.1).2.1), .i ((((Xh code)).2.1).2.2)]), (false, [.i (((Xh code)).2.2)])]) := by
 refine en Qb Tryz.func45 fun w0 F0 hG => ?_
 refine sn Qb [0, 2, 3, 4] [2, 3] (p0) ?_
 obtain ⟨x1, hx1⟩ : ∃ z : Nat × Int, Um code = z := ⟨_, rfl⟩
 refine tn Qb [2, 3, 4, 5] [2, 3, 9] (po 1 (.new [.h code, .i ((x1.1 : Nat) : Int), .i x1.2]) (px (BM (hx1 ▸ Fy code)) p0)) ?_
 obtain ⟨x2, hx2⟩ : ∃ z : Ql × Nat × Int, Z2 code x1.1 x1.2 = z := ⟨_, rfl⟩
 refine tu Qb [(2, .p 2 0), (3, .p 3 0), (4, .i 0), (5, .p 9 0), (6, .p 6 0)] [0] [(2, [.e 2, .e 5, .i 0]), (3, [.e 2, .e 5, .i 0]), (6, [.o 704 x2.1.1, .q 705 x2.1.2.1, .i x2.1.2.2]), (9, [.h code, .i ((x2.2.1 : Nat) : Int), .i x2.2.2])] [] (po 1 (.give none (.a [.o 0 x2.1.1, .q 1 x2.1.2.1, .i x2.1.2.2]) [.h code, .i ((x2.2.1 : Nat) : Int), .i x2.2.2]) (px (Q8 (hx2 ▸ Gc code x1.1 x1.2)) p0)) ?_
 obtain ⟨x3, hx3⟩ : ∃ z : Int × Nat × Int, Qk code x2.2.1 x2.2.2 3 = z := ⟨_, rfl⟩
 have hbx3 := hx3 ▸ Q0 code x2.2.1 x2.2.2 3
 refine sn Qb [2, 3, 4, 5, 6, 7] [2, 3, 6, 9] (po 1 (.give none (.i x3.1) [.h code, .i ((x3.2.1 : Nat) : Int), .i x3.2.2]) (px (Q8 (hx3 ▸ Xc code x2.2.1 x2.2.2 3)) p0)) ?_
 refine Qe ?_
 obtain ⟨x4, hx4⟩ : ∃ z : Bool × Nat × Int, Y2 code x3.2.1 x3.2.2 3 = z := ⟨_, rfl⟩
 refine tn Qb [2, 3, 4, 5, 6, 7, 15] [2, 3, 6, 9] (po 1 (.give none (.b x4.1) [.h code, .i ((x4.2.1 : Nat) : Int), .i x4.2.2]) (px (Q8 (hx4 ▸ K5 code x3.2.1 x3.2.2 3)) p0)) ?_
 refine ck x4.1 (fun h5 => ?_) (fun h5 => ?_)
 ·
  obtain ⟨x6, hx6⟩ : ∃ z : Ql × Nat × Int, Jv code x4.2.1 x4.2.2 = z := ⟨_, rfl⟩
  obtain ⟨x7, hx7⟩ : ∃ z : Int × Nat × Int, Uf code x6.2.1 x6.2.2 = z := ⟨_, rfl⟩
  refine tU Qb Yo [(4, .i x7.1), (7, .i x3.1)] [4] [(2, [.o 704 x2.1.1, .q 705 x2.1.2.1, .i x2.1.2.2]), (3, [.h x6.1.1, .q 1152 x6.1.2.1, .i x6.1.2.2]), (9, [.h code, .i ((x7.2.1 : Nat) : Int), .i x7.2.2])] [2, 3, 9] (po 2 (.give none (.a [.h x6.1.1, .q 0 x6.1.2.1, .i x6.1.2.2]) [.h code, .i ((x6.2.1 : Nat) : Int), .i x6.2.2]) (px (Q8 (hx6 ▸ Lr code x4.2.1 x4.2.2)) (po 4 (.give none (.i x7.1) [.h code, .i ((x7.2.1 : Nat) : Int), .i x7.2.2]) (px (Q8 (hx7 ▸ Im code x6.2.1 x6.2.2)) p0)))) ?_
  refine Qg ?_
  exact pz [704, 705, 1152] (show Xh code = _ from Yn hx1 (Yn hx2 (Yn hx3 (Yn hx4 (Q6 h5 (Yn hx6 (Yn hx7 (rfl)))))))) (fun z => .tup [(true, [.h z.1.1, .h z.1.2.1, .i z.1.2.2]), (true, [.h z.2.1.1, .h z.2.1.2.1, .i z.2.1.2.2]), (false, [.i z.2.2])])
 refine Qh ?_
 obtain ⟨x8, hx8⟩ : ∃ z : Ql × Nat × Int, K6 code x4.2.1 x4.2.2 x2.1 x3.1 = z := ⟨_, rfl⟩
 refine mz [(7, .i x3.1), (15, .b x4.1)] [] [(9, [.h code, .i ((x4.2.1 : Nat) : Int), .i x4.2.2])] [9] ?_
 refine Fs (A6 [704, 705] rfl) ?_
 obtain ⟨x9, hx9⟩ : ∃ z : Ql × Nat × Int, K6 code x4.2.1 x4.2.2 x2.1 x3.1 = z := ⟨_, rfl⟩
 refine sN Qb Yo [2, 3, 4] [2, 3] (po 4 (.give none (.a [.h x9.1.1, .h x9.1.2.1, .i x9.1.2.2]) [.h code, .i ((x9.2.1 : Nat) : Int), .i x9.2.2]) (px (Q8 (hx9 ▸ QN code x4.2.1 x4.2.2 x2.1 x3.1 (by omega))) p0)) ?_
 refine Qg ?_
 exact pz [] (show Xh code = _ from Yn hx1 (Yn hx2 (Yn hx3 (Yn hx4 (Qm h5 (Yn hx9 (rfl))))))) (fun z => .tup [(true, [.h z.1.1, .h z.1.2.1, .i z.1.2.2]), (true, [.h z.2.1.1, .h z.2.1.2.1, .i z.2.1.2.2]), (false, [.i z.2.2])])
def Xw (code : (List UInt8)) : Ql × Ql × (List Yd) × Int := (lt (α := Nat × Int) (Um code) (fun x1 => (lt (α := (List Yd) × Nat × Int) (Ka code x1.1 x1.2) (fun x2 => ((((Xh code)).1), (((Xh code)).2.1), x2.1, ((Xh code)).2.2)))))
theorem Me (code : (List UInt8)) : ACalls Tryz.prog 22 [.h code] (.tup [(true, [.h ((((Xw code)).1).1), .h ((((Xw code)).1).2.1), .i ((((Xw code)).1).2.2)]), (true, [.h ((((Xw code)).2.1).1), .h ((((Xw code)).2.1).2.1), .i ((((Xw code)).2.1).2.2)]), (false, [.h (((Xw code)).2.2.1)]), (false, [.i (((Xw code)).2.2.2)])]) := by
 refine en Qb Tryz.func22 fun w0 F0 hG => ?_
 refine sn Qb [0, 2, 3, 4, 5] [2, 3] (p0) ?_
 obtain ⟨x1, hx1⟩ : ∃ z : Nat × Int, Um code = z := ⟨_, rfl⟩
 refine tn Qb [0, 2, 3, 4, 5, 6] [2, 3, 11] (po 1 (.new [.h code, .i ((x1.1 : Nat) : Int), .i x1.2]) (px (BM (hx1 ▸ Fy code)) p0)) ?_
 refine tu Qb [(2, .p 2 0), (3, .p 3 0), (4, .e 0), (5, .i 0), (6, .p 11 0), (7, .p 7 0), (8, .p 8 0), (9, .i (((Xh code)).2.2))] [0] [(2, [.e 2, .e 5, .i 0]), (3, [.e 2, .e 5, .i 0]), (7, [.h ((((Xh code)).1).1), .h ((((Xh code)).1).2.1), .i ((((Xh code)).1).2.2)]), (8, [.h ((((Xh code)).2.1).1), .h ((((Xh code)).2.1).2.1), .i ((((Xh code)).2.1).2.2)]), (11, [.h code, .i ((x1.1 : Nat) : Int), .i x1.2])] [] (pc 1 (Iy code) p0) ?_
 obtain ⟨x2, hx2⟩ : ∃ z : (List Yd) × Nat × Int, Ka code x1.1 x1.2 = z := ⟨_, rfl⟩
 have hbx2 := hx2 ▸ RS code x1.1 x1.2
 refine sN Qb Yo [2, 3, 4, 5] [2, 3] (po 3 (.give none (.h x2.1) [.h code, .i ((x2.2.1 : Nat) : Int), .i x2.2.2]) (px (Q8 (hx2 ▸ Pc code x1.1 x1.2)) p0)) ?_
 refine Qg ?_
 exact pz [] (show Xw code = _ from Yn hx1 (Yn hx2 (rfl))) (fun z => .tup [(true, [.h z.1.1, .h z.1.2.1, .i z.1.2.2]), (true, [.h z.2.1.1, .h z.2.1.2.1, .i z.2.1.2.2]), (false, [.h z.2.2.1]), (false, [.i z.2.2.2])])
def Qa (code : (List UInt8)) : Ql × Ql × (List Yd) × Int := ((((Xw code)).1), (((Xw code)).2.1), ((Xw code)).2.2.1, ((Xw code)).2.2.2)
theorem Lt (code : (List UInt8)) : ACalls Tryz.prog 5 [.h code] (.tup [(true, [.h ((((Qa code)).1).1), .h ((((Qa code)).1).2.1), .i ((((Qa code)).1).2.2)]), (true, [.h ((((Qa code)).2.1).1), .h ((((Qa code)).2.1).2.1), .i ((((Qa code)).2.1).2.2)]), (false, [.h (((Qa code)).2.2.1)]), (false, [.i (((Qa code)).2.2.2)])]) := by
 refine en Qb Tryz.func5 fun w0 F0 hG => ?_
 refine sn Qb [0, 2, 3, 4, 5] [2, 3] (p0) ?_
 refine tn Qb [2, 3, 4, 5] [2, 3] (pc 1 (Me code) p0) ?_
 refine Qg ?_
 exact pz [] (show Qa code = ((((Xw code)).1), (((Xw code)).2.1), ((Xw code)).2.2.1, ((Xw code)).2.2.2) from rfl) (fun z => .tup [(true, [.h z.1.1, .h z.1.2.1, .i z.1.2.2]), (true, [.h z.2.1.1, .h z.2.1.2.1, .i z.2.1.2.2]), (false, [.h z.2.2.1]), (false, [.i z.2.2.2])])
def Xy (code : (List UInt8)) : Ql × (List Yd) × Int := (lt (α := Nat × Int) (Um code) (fun x1 => (lt (α := Ql × (List Yd) × Nat × Int) (Vi code x1.1 x1.2) (fun x2 => (lt (α := Int × Nat × Int) (Uf code x2.2.2.1 x2.2.2.2) (fun x3 => (x2.1, x2.2.1, x3.1)))))))
theorem Gd (code : (List UInt8)) : ACalls Tryz.prog 23 [.h code] (.tup [(true, [.h ((((Xy code)).1).1), .q 0 ((((Xy code)).1).2.1), .i ((((Xy code)).1).2.2)]), (false, [.h (((Xy code)).2.1)]), (false, [.i (((Xy code)).2.2)])]) := by
 refine en Qb Tryz.func23 fun w0 F0 hG => ?_
 refine sn Qb [0, 2, 3, 4] [2] (p0) ?_
 obtain ⟨x1, hx1⟩ : ∃ z : Nat × Int, Um code = z := ⟨_, rfl⟩
 refine tn Qb [2, 3, 4, 5] [2, 9] (po 1 (.new [.h code, .i ((x1.1 : Nat) : Int), .i x1.2]) (px (BM (hx1 ▸ Fy code)) p0)) ?_
 obtain ⟨x2, hx2⟩ : ∃ z : Ql × (List Yd) × Nat × Int, Vi code x1.1 x1.2 = z := ⟨_, rfl⟩
 refine tu Qb [(2, .p 2 0), (3, .e 0), (4, .i 0), (5, .p 9 0), (6, .p 6 0), (7, .h x2.2.1)] [0] [(2, [.e 2, .e 5, .i 0]), (6, [.h x2.1.1, .q 768 x2.1.2.1, .i x2.1.2.2]), (9, [.h code, .i ((x2.2.2.1 : Nat) : Int), .i x2.2.2.2])] [] (po 1 (.give none (.tup [(true, [.h x2.1.1, .q 0 x2.1.2.1, .i x2.1.2.2]), (false, [.h x2.2.1])]) [.h code, .i ((x2.2.2.1 : Nat) : Int), .i x2.2.2.2]) (px (Q8 (hx2 ▸ KA code x1.1 x1.2)) p0)) ?_
 obtain ⟨x3, hx3⟩ : ∃ z : Int × Nat × Int, Uf code x2.2.2.1 x2.2.2.2 = z := ⟨_, rfl⟩
 refine sN Qb Yo [2, 3, 4] [2] (po 3 (.give none (.i x3.1) [.h code, .i ((x3.2.1 : Nat) : Int), .i x3.2.2]) (px (Q8 (hx3 ▸ Im code x2.2.2.1 x2.2.2.2)) p0)) ?_
 refine Qg ?_
 exact pz [] (show Xy code = _ from Yn hx1 (Yn hx2 (Yn hx3 (rfl)))) (fun z => .tup [(true, [.h z.1.1, .q 0 z.1.2.1, .i z.1.2.2]), (false, [.h z.2.1]), (false, [.i z.2.2])])
def Qc (code : (List UInt8)) : Ql × (List Yd) × Int := ((((Xy code)).1), ((Xy code)).2.1, ((Xy code)).2.2)
theorem Mf (code : (List UInt8)) : ACalls Tryz.prog 6 [.h code] (.tup [(true, [.h ((((Qc code)).1).1), .q 0 ((((Qc code)).1).2.1), .i ((((Qc code)).1).2.2)]), (false, [.h (((Qc code)).2.1)]), (false, [.i (((Qc code)).2.2)])]) := by
 refine en Qb Tryz.func6 fun w0 F0 hG => ?_
 refine sn Qb [0, 2, 3, 4] [2] (p0) ?_
 refine tn Qb [2, 3, 4] [2] (pc 1 (Gd code) p0) ?_
 refine Qg ?_
 exact pz [] (show Qc code = ((((Xy code)).1), ((Xy code)).2.1, ((Xy code)).2.2) from rfl) (fun z => .tup [(true, [.h z.1.1, .q 0 z.1.2.1, .i z.1.2.2]), (false, [.h z.2.1]), (false, [.i z.2.2])])
def Ja (code : (List UInt8)) : Ql × Int := (lt (α := Nat × Int) (Um code) (fun x1 => (lt (α := Ql × Nat × Int) (Jv code x1.1 x1.2) (fun x2 => (lt (α := Int × Nat × Int) (Uf code x2.2.1 x2.2.2) (fun x3 => (x2.1, x3.1)))))))
theorem Iz (code : (List UInt8)) : ACalls Tryz.prog 24 [.h code] (.tup [(true, [.h ((((Ja code)).1).1), .q 0 ((((Ja code)).1).2.1), .i ((((Ja code)).1).2.2)]), (false, [.i (((Ja code)).2)])]) := by
 refine en Qb Tryz.func24 fun w0 F0 hG => ?_
 refine sn Qb [0, 2, 3] [2] (p0) ?_
 obtain ⟨x1, hx1⟩ : ∃ z : Nat × Int, Um code = z := ⟨_, rfl⟩
 refine tn Qb [2, 3, 4] [2, 6] (po 1 (.new [.h code, .i ((x1.1 : Nat) : Int), .i x1.2]) (px (BM (hx1 ▸ Fy code)) p0)) ?_
 obtain ⟨x2, hx2⟩ : ∃ z : Ql × Nat × Int, Jv code x1.1 x1.2 = z := ⟨_, rfl⟩
 obtain ⟨x3, hx3⟩ : ∃ z : Int × Nat × Int, Uf code x2.2.1 x2.2.2 = z := ⟨_, rfl⟩
 refine tu Qb [(2, .p 2 0), (3, .i x3.1)] [0] [(2, [.h x2.1.1, .q 512 x2.1.2.1, .i x2.1.2.2])] [] (po 1 (.give none (.a [.h x2.1.1, .q 0 x2.1.2.1, .i x2.1.2.2]) [.h code, .i ((x2.2.1 : Nat) : Int), .i x2.2.2]) (px (Q8 (hx2 ▸ Lr code x1.1 x1.2)) (po 3 (.give none (.i x3.1) [.h code, .i ((x3.2.1 : Nat) : Int), .i x3.2.2]) (px (Q8 (hx3 ▸ Im code x2.2.1 x2.2.2)) p0)))) ?_
 refine Qg ?_
 exact pz [] (show Ja code = _ from Yn hx1 (Yn hx2 (Yn hx3 (rfl)))) (fun z => .tup [(true, [.h z.1.1, .q 0 z.1.2.1, .i z.1.2.2]), (false, [.i z.2])])
def Qj (code : (List UInt8)) : Ql × Int := ((((Ja code)).1), ((Ja code)).2)
theorem Lu (code : (List UInt8)) : ACalls Tryz.prog 7 [.h code] (.tup [(true, [.h ((((Qj code)).1).1), .q 0 ((((Qj code)).1).2.1), .i ((((Qj code)).1).2.2)]), (false, [.i (((Qj code)).2)])]) := by
 refine en Qb Tryz.func7 fun w0 F0 hG => ?_
 refine sn Qb [0, 2, 3] [2] (p0) ?_
 refine tn Qb [2, 3] [2] (pc 1 (Iz code) p0) ?_
 refine Qg ?_
 exact pz [] (show Qj code = ((((Ja code)).1), ((Ja code)).2) from rfl) (fun z => .tup [(true, [.h z.1.1, .q 0 z.1.2.1, .i z.1.2.2]), (false, [.i z.2])])
end Go.Proofs.YtkbfhiamdcoieaaGreatDoor
namespace Go.Proofs.YtkbfhiamdcoieaaGreatDoor
open Go.RowKit
theorem EN {s : Ql} {f : Q9} (h : TxS s) (hf : TxA f.2.2.2.2) : TxS (Jl s f).1 := by
  unfold Jl
  rw [EH]
  generalize (_ || _ : Bool) = c
  cases c with
  | true => exact h
  | false =>
    intro g hg
    rcases List.mem_or_eq_of_mem_set hg with hg | rfl
    · exact h g hg
    exact hf
theorem AX {code : List UInt8} {u : Int} (s : Int × Ql × Nat × Int) (h : TxS s.2.1) : RdP (fun s => TxS s.2.1) (fun t => TxS t.1) (Kq code u s) := by
  unfold Kq
  refine Z8 (P := RdP _ _) (fun _ => True) trivial fun x1 _ => ?_
  generalize decide ((_ : Int) < _) = c
  cases c with
  | false => exact h
  | true =>
    simp only [cond_true]
    refine Z8 (P := RdP _ _) (fun x : Q9 × Nat × Int => TxA x.1.2.2.2.2) (MB code _ _ _) fun x3 h3 => ?_
    refine Z8 (P := RdP _ _) (fun _ => True) trivial fun x4 _ => ?_
    cases (x4.1 == (0 : Int)) with
    | true => exact QK h h3
    | false =>
      simp only [cond_false]
      cases (x4.1 == (1 : Int)) with
      | true =>
        simp only [cond_true]
        refine Z8 (P := RdP _ _) (fun _ => True) trivial fun x7 _ => ?_
        generalize (_ && _ : Bool) = c
        cases c with
        | false => exact h
        | true => exact EN h h3
      | false =>
        simp only [cond_false]
        refine Z8 (P := RdP _ _) (fun _ => True) trivial fun x7 _ => ?_
        generalize (_ && _ : Bool) = c
        cases c with
        | false => exact h
        | true => exact UG h _
theorem MF (code : List UInt8) (ci : Nat) (ch : Int) {s : Ql} (u : Int) (h : TxS s) : TxS (K6 code ci ch s u).1 := by
  unfold K6
  obtain ⟨t, h2, h3⟩ := DA (f := Kq code u) (fun s => TxS s.2.1) (fun t => TxS t.1) AX (fun f hf => by cases hf) 5 (0, s, ci, ch) h
  rw [h2]
  exact h3
theorem UI (code : List UInt8) : TxS (Xh code).1 ∧ TxS (Xh code).2.1 := by
  unfold Xh
  refine Z8 (P := fun z : Ql × Ql × Int => TxS z.1 ∧ TxS z.2.1) (fun _ => True) trivial fun x1 _ => ?_
  refine Z8 (P := fun z : Ql × Ql × Int => TxS z.1 ∧ TxS z.2.1) (fun x : Ql × Nat × Int => TxS x.1) (ME code _ _) fun x2 h2 => ?_
  refine Z8 (P := fun z : Ql × Ql × Int => TxS z.1 ∧ TxS z.2.1) (fun _ => True) trivial fun x3 _ => ?_
  refine Z8 (P := fun z : Ql × Ql × Int => TxS z.1 ∧ TxS z.2.1) (fun _ => True) trivial fun x4 _ => ?_
  cases x4.1 with
  | true =>
    simp only [cond_true]
    refine Z8 (P := fun z : Ql × Ql × Int => TxS z.1 ∧ TxS z.2.1) (fun x : Ql × Nat × Int => TxS x.1) (UH code _ _) fun x6 h6 => ?_
    exact Z8 (P := fun z : Ql × Ql × Int => TxS z.1 ∧ TxS z.2.1) (fun _ => True) trivial fun x7 _ => ⟨h2, h6⟩
  | false =>
    simp only [cond_false]
    exact Z8 (P := fun z : Ql × Ql × Int => TxS z.1 ∧ TxS z.2.1) (fun x : Ql × Nat × Int => TxS x.1) (MF code _ _ _ h2) fun x8 h8 => ⟨h2, h8⟩
theorem Nn (code : List UInt8) : TxS (Qa code).1 ∧ TxS (Qa code).2.1 ∧ TxD (Qa code).2.2.1 := by
  have h := UI code
  show TxS (Xw code).1 ∧ TxS (Xw code).2.1 ∧ TxD (Xw code).2.2.1
  unfold Xw
  refine Z8 (P := fun z : Ql × Ql × List Yd × Int => TxS z.1 ∧ TxS z.2.1 ∧ TxD z.2.2.1) (fun _ => True) trivial fun x1 _ => ?_
  exact Z8 (P := fun z : Ql × Ql × List Yd × Int => TxS z.1 ∧ TxS z.2.1 ∧ TxD z.2.2.1) (fun x : List Yd × Nat × Int => TxD x.1) (RU code _ _) fun x2 h2 => ⟨h.1, h.2, h2⟩
theorem QO (code : List UInt8) : TxS (Qc code).1 ∧ TxD (Qc code).2.1 := by
  show TxS (Xy code).1 ∧ TxD (Xy code).2.1
  unfold Xy
  refine Z8 (P := fun z : Ql × List Yd × Int => TxS z.1 ∧ TxD z.2.1) (fun _ => True) trivial fun x1 _ => ?_
  refine Z8 (P := fun z : Ql × List Yd × Int => TxS z.1 ∧ TxD z.2.1) (fun x : Ql × List Yd × Nat × Int => TxS x.1 ∧ TxD x.2.1) (Qby code _ _) fun x2 h2 => ?_
  exact Z8 (P := fun z : Ql × List Yd × Int => TxS z.1 ∧ TxD z.2.1) (fun _ => True) trivial fun x3 _ => h2
open GoE (enc wide)
def QP (code : (List UInt8)) : Bool := decide ((code.length : Int) > (1048576 : Int))
theorem MG (code : (List UInt8)) : ACalls Tryz.prog 4 [.h code] (.b (QP code)) := by
 refine en Qb Tryz.func4 fun w0 F0 hG => ?_
 refine sn Qb [0, 2] [] (p0) ?_
 refine tn Qb [2] [] (pl 1 code p0) ?_
 refine Qg ?_
 exact pb [] (show QP code = decide ((code.length : Int) > (1048576 : Int)) from rfl)
def Wz (s_ : Ql) (id : Int) : Q9 := (((Y8 s_ id)).1)
theorem UJ (s_ : Ql) (id : Int) : ACalls Tryz.prog 19 [.a [.h s_.1, .h s_.2.1, .i s_.2.2], .i id] (.a [.i ((Wz s_ id).1), .i ((Wz s_ id).2.1), .b ((Wz s_ id).2.2.1), .i ((Wz s_ id).2.2.2.1), .o 0 ((Wz s_ id).2.2.2.2)]) := by
 refine en Qb Tryz.func19 fun w0 F0 hG => ?_
 refine sn Qb [1, 2, 4] [2, 4] (p0) ?_
 refine tn Qb [4, 5] [4, 5] (pc 2 (Mt s_ id) p0) ?_
 refine tu Qb [(4, .p 4 0)] [0, 1] [(4, [.i ((((Y8 s_ id)).1).1), .i ((((Y8 s_ id)).1).2.1), .b ((((Y8 s_ id)).1).2.2.1), .i ((((Y8 s_ id)).1).2.2.2.1), .o 640 ((((Y8 s_ id)).1).2.2.2.2)])] [] (p0) ?_
 refine Qg ?_
 exact pz [] (show Wz s_ id = (((Y8 s_ id)).1) from rfl) (fun z => .a [.i z.1, .i z.2.1, .b z.2.2.1, .i z.2.2.2.1, .o 0 z.2.2.2.2])
def Hk (code : (List UInt8)) (_ : Nat) (a0 : Int) (_ : Unit) : Rd (Bool) (Unit) (Unit) := (bif (!(J8 (Wz (((Qc code)).1) a0) (((Qc code)).2.2))) then (.ret false) else (.next ()))
def Cv (_ : Nat) (_ : Unit) : Unit := ()
def Fo (code : (List UInt8)) : Bool := (bif (QP code) then true else (bif ((!(Yx (Xu (((Qa code)).1) (((Qa code)).2.1) (((Qa code)).2.2.1) (((Qa code)).2.2.2)) (Zm (((Qa code)).1) (((Qa code)).2.1) (((Qa code)).2.2.1) (((Qa code)).2.2.2)))) || ((!(Yx (X9 (((Qc code)).1) (((Qc code)).2.1) (((Qc code)).2.2)) (Z5 (((Qc code)).1) (((Qc code)).2.1) (((Qc code)).2.2)))) || ((!(Zo (Zk (((Qj code)).1) (((Qj code)).2)) (Zl (((Qj code)).1) (((Qj code)).2)))) || (!(Zo (Yk (((Qc code)).1) (((Qc code)).2.1) (((Qc code)).2.2)) (K4 (((Qc code)).1) (((Qc code)).2.1) (((Qc code)).2.2))))))) then false else (Out.on (Xp (Hk code) Cv (Yk (((Qc code)).1) (((Qc code)).2.1) (((Qc code)).2.2)) 0 ()) (fun _ => (bif ((!(Qw (((Qa code)).1))) || (!(Qw (((Qa code)).2.1)))) then (((Xu (((Qa code)).1) (((Qa code)).1) (((Qa code)).2.2.1) (((Qa code)).2.2.2)).length : Int) == (0 : Int)) else ((((Xu (((Qa code)).1) (((Qa code)).2.1) (((Qa code)).2.2.1) (((Qa code)).2.2.2)).length : Int) == (0 : Int)) && ((!(Yu (((Qa code)).1) (((Qa code)).2.1) (((Qa code)).2.2.2))) || (Yx (X9 (((Qa code)).1) (((Qa code)).2.2.1) (((Qa code)).2.2.2)) (X9 (((Qa code)).2.1) (((Qa code)).2.2.1) (((Qa code)).2.2.2))))))))))
theorem Rh (code : (List UInt8)) : ACalls Tryz.prog 3 [.h code] (.b (Fo code)) := by
 refine en Qb Tryz.func3 fun w0 F0 hG => ?_
 have hl1 := (Nn code).1
 have hl2 := (Nn code).2.1
 have hl3 := (Nn code).2.2
 have hv1 := (QO code).1
 have hv2 := (QO code).2
 refine sn Qb [0, 2] [] (p0) ?_
 refine Qe (tn Qb [0, 2, 16] [] (pc 1 (MG code) p0) ?_)
 refine ck (QP code) (fun h1 => ?_) (fun h1 => ?_)
 ·
  refine tu Qb [(2, .b true)] [] [] [] (p0) ?_
  refine Qg ?_
  exact pb [] (Q6 h1 (rfl))
 refine Qh ?_
 refine tu Qb [(2, .b false), (3, .p 3 0), (4, .p 4 0), (5, .h (((Qa code)).2.2.1)), (6, .i (((Qa code)).2.2.2))] [] [(3, [.h ((((Qa code)).1).1), .h ((((Qa code)).1).2.1), .i ((((Qa code)).1).2.2)]), (4, [.h ((((Qa code)).2.1).1), .h ((((Qa code)).2.1).2.1), .i ((((Qa code)).2.1).2.2)])] [] (pc 1 (Lt code) p0) ?_
 refine sn Qb [0, 2, 3, 4, 5, 6, 7, 8, 9] [3, 4, 7] (pc 1 (Mf code) p0) ?_
 refine tn Qb [2, 3, 4, 5, 6, 7, 8, 9, 10, 11] [3, 4, 7, 10] (pc 1 (Lu code) p0) ?_
 refine tu Qb [(7, .p 7 0), (8, .h (((Qc code)).2.1)), (9, .i (((Qc code)).2.2)), (10, .p 10 0), (11, .i (((Qj code)).2)), (12, .o 2432 (X9 (((Qc code)).1) (((Qc code)).2.1) (((Qc code)).2.2)))] [0] [(7, [.h ((((Qc code)).1).1), .q 1664 ((((Qc code)).1).2.1), .i ((((Qc code)).1).2.2)]), (10, [.h ((((Qj code)).1).1), .q 2048 ((((Qj code)).1).2.1), .i ((((Qj code)).1).2.2)])] [] (pc 3 (D9 (((Qc code)).1) (((Qc code)).2.1) (((Qc code)).2.2) (by assumption) (by assumption)) p0) ?_
 refine Qe (Qe (jn [(81, .b ((!(Yx (Xu (((Qa code)).1) (((Qa code)).2.1) (((Qa code)).2.2.1) (((Qa code)).2.2.2)) (Zm (((Qa code)).1) (((Qa code)).2.1) (((Qa code)).2.2.1) (((Qa code)).2.2.2)))) || ((!(Yx (X9 (((Qc code)).1) (((Qc code)).2.1) (((Qc code)).2.2)) (Z5 (((Qc code)).1) (((Qc code)).2.1) (((Qc code)).2.2)))) || ((!(Zo (Zk (((Qj code)).1) (((Qj code)).2)) (Zl (((Qj code)).1) (((Qj code)).2)))) || (!(Zo (Yk (((Qc code)).1) (((Qc code)).2.1) (((Qc code)).2.2)) (K4 (((Qc code)).1) (((Qc code)).2.1) (((Qc code)).2.2))))))))] [10, 11, 12] [] [10] (!(Yx (Xu (((Qa code)).1) (((Qa code)).2.1) (((Qa code)).2.2.1) (((Qa code)).2.2.2)) (Zm (((Qa code)).1) (((Qa code)).2.1) (((Qa code)).2.2.1) (((Qa code)).2.2.2)))) (fun h2 => ?_) (fun h2 => ?_) ?_))
 ·
  have h2n : (Yx (Xu (((Qa code)).1) (((Qa code)).2.1) (((Qa code)).2.2.1) (((Qa code)).2.2.2)) (Zm (((Qa code)).1) (((Qa code)).2.1) (((Qa code)).2.2.1) (((Qa code)).2.2.2))) = false := Vr h2
  refine rU Qb Yo [(81, .b true)] [10, 11, 12] [] [10] (pc 4 (Kw (((Qa code)).1) (((Qa code)).2.1) (((Qa code)).2.2.1) (((Qa code)).2.2.2) (by assumption) (by assumption) (by assumption)) (pc 9 (Ac (((Qa code)).1) (((Qa code)).2.1) (((Qa code)).2.2.1) (((Qa code)).2.2.2) (by assumption) (by assumption) (by assumption)) (pc 10 (cb h2n (Vw (Xu (((Qa code)).1) (((Qa code)).2.1) (((Qa code)).2.2.1) (((Qa code)).2.2.2)) (Zm (((Qa code)).1) (((Qa code)).2.1) (((Qa code)).2.2.1) (((Qa code)).2.2.2)))) (pe 11 (show .b (!false) = .b true from rfl) p0)))) ?_
  exact ⟨rfl, Qd (by rw [h2]; first | done | kernel_rfl)⟩
 ·
  have h2n : (Yx (Xu (((Qa code)).1) (((Qa code)).2.1) (((Qa code)).2.2.1) (((Qa code)).2.2.2)) (Zm (((Qa code)).1) (((Qa code)).2.1) (((Qa code)).2.2.1) (((Qa code)).2.2.2))) = true := Ze h2
  refine Xl (!(Yx (X9 (((Qc code)).1) (((Qc code)).2.1) (((Qc code)).2.2)) (Z5 (((Qc code)).1) (((Qc code)).2.1) (((Qc code)).2.2)))) (fun h3 => ?_) (fun h3 => ?_)
  ·
   have h3n : (Yx (X9 (((Qc code)).1) (((Qc code)).2.1) (((Qc code)).2.2)) (Z5 (((Qc code)).1) (((Qc code)).2.1) (((Qc code)).2.2))) = false := Vr h3
   refine rU Qb Yo [(81, .b true)] [10, 11, 12] [] [10] (pc 4 (Kw (((Qa code)).1) (((Qa code)).2.1) (((Qa code)).2.2.1) (((Qa code)).2.2.2) (by assumption) (by assumption) (by assumption)) (pc 9 (Ac (((Qa code)).1) (((Qa code)).2.1) (((Qa code)).2.2.1) (((Qa code)).2.2.2) (by assumption) (by assumption) (by assumption)) (pc 10 (cb h2n (Vw (Xu (((Qa code)).1) (((Qa code)).2.1) (((Qa code)).2.2.1) (((Qa code)).2.2.2)) (Zm (((Qa code)).1) (((Qa code)).2.1) (((Qa code)).2.2.1) (((Qa code)).2.2.2)))) (pe 11 (show .b (!true) = .b false from rfl) (pc 17 (Ea (((Qc code)).1) (((Qc code)).2.1) (((Qc code)).2.2) (by assumption) (by assumption)) (pc 18 (cb h3n (Vw (X9 (((Qc code)).1) (((Qc code)).2.1) (((Qc code)).2.2)) (Z5 (((Qc code)).1) (((Qc code)).2.1) (((Qc code)).2.2)))) (pe 19 (show .b (!false) = .b true from rfl) p0))))))) ?_
   exact ⟨rfl, Qd (by rw [h2, h3]; first | done | kernel_rfl)⟩
  have h3n : (Yx (X9 (((Qc code)).1) (((Qc code)).2.1) (((Qc code)).2.2)) (Z5 (((Qc code)).1) (((Qc code)).2.1) (((Qc code)).2.2))) = true := Ze h3
  refine Xl (!(Zo (Zk (((Qj code)).1) (((Qj code)).2)) (Zl (((Qj code)).1) (((Qj code)).2)))) (fun h4 => ?_) (fun h4 => ?_)
  ·
   have h4n : (Zo (Zk (((Qj code)).1) (((Qj code)).2)) (Zl (((Qj code)).1) (((Qj code)).2))) = false := Vr h4
   refine rU Qb Yo [(81, .b true)] [10, 11, 12] [] [10] (pc 4 (Kw (((Qa code)).1) (((Qa code)).2.1) (((Qa code)).2.2.1) (((Qa code)).2.2.2) (by assumption) (by assumption) (by assumption)) (pc 9 (Ac (((Qa code)).1) (((Qa code)).2.1) (((Qa code)).2.2.1) (((Qa code)).2.2.2) (by assumption) (by assumption) (by assumption)) (pc 10 (cb h2n (Vw (Xu (((Qa code)).1) (((Qa code)).2.1) (((Qa code)).2.2.1) (((Qa code)).2.2.2)) (Zm (((Qa code)).1) (((Qa code)).2.1) (((Qa code)).2.2.1) (((Qa code)).2.2.2)))) (pe 11 (show .b (!true) = .b false from rfl) (pc 17 (Ea (((Qc code)).1) (((Qc code)).2.1) (((Qc code)).2.2) (by assumption) (by assumption)) (pc 18 (cb h3n (Vw (X9 (((Qc code)).1) (((Qc code)).2.1) (((Qc code)).2.2)) (Z5 (((Qc code)).1) (((Qc code)).2.1) (((Qc code)).2.2)))) (pe 19 (show .b (!true) = .b false from rfl) (pc 24 (Gq (((Qj code)).1) (((Qj code)).2)) (pc 27 (Gr (((Qj code)).1) (((Qj code)).2)) (pc 28 (cb h4n (Ga (Zk (((Qj code)).1) (((Qj code)).2)) (Zl (((Qj code)).1) (((Qj code)).2)))) (pe 29 (show .b (!false) = .b true from rfl) p0))))))))))) ?_
   exact ⟨rfl, Qd (by rw [h2, h3, h4]; first | done | kernel_rfl)⟩
  have h4n : (Zo (Zk (((Qj code)).1) (((Qj code)).2)) (Zl (((Qj code)).1) (((Qj code)).2))) = true := Ze h4
  refine rN Qb Yo [2, 3, 4, 5, 6, 7, 8, 9, 81] [3, 4, 7] (pc 4 (Kw (((Qa code)).1) (((Qa code)).2.1) (((Qa code)).2.2.1) (((Qa code)).2.2.2) (by assumption) (by assumption) (by assumption)) (pc 9 (Ac (((Qa code)).1) (((Qa code)).2.1) (((Qa code)).2.2.1) (((Qa code)).2.2.2) (by assumption) (by assumption) (by assumption)) (pc 10 (cb h2n (Vw (Xu (((Qa code)).1) (((Qa code)).2.1) (((Qa code)).2.2.1) (((Qa code)).2.2.2)) (Zm (((Qa code)).1) (((Qa code)).2.1) (((Qa code)).2.2.1) (((Qa code)).2.2.2)))) (pe 11 (show .b (!true) = .b false from rfl) (pc 17 (Ea (((Qc code)).1) (((Qc code)).2.1) (((Qc code)).2.2) (by assumption) (by assumption)) (pc 18 (cb h3n (Vw (X9 (((Qc code)).1) (((Qc code)).2.1) (((Qc code)).2.2)) (Z5 (((Qc code)).1) (((Qc code)).2.1) (((Qc code)).2.2)))) (pe 19 (show .b (!true) = .b false from rfl) (pc 24 (Gq (((Qj code)).1) (((Qj code)).2)) (pc 27 (Gr (((Qj code)).1) (((Qj code)).2)) (pc 28 (cb h4n (Ga (Zk (((Qj code)).1) (((Qj code)).2)) (Zl (((Qj code)).1) (((Qj code)).2)))) (pe 29 (show .b (!true) = .b false from rfl) (pc 35 (Lq (((Qc code)).1) (((Qc code)).2.1) (((Qc code)).2.2)) (pc 39 (QD (((Qc code)).1) (((Qc code)).2.1) (((Qc code)).2.2)) (pc 40 (Ga (Yk (((Qc code)).1) (((Qc code)).2.1) (((Qc code)).2.2)) (K4 (((Qc code)).1) (((Qc code)).2.1) (((Qc code)).2.2))) p0)))))))))))))) ?_
  exact ⟨rfl, Qd (by rw [h2, h3, h4]; first | done | kernel_rfl)⟩
 refine ck ((!(Yx (Xu (((Qa code)).1) (((Qa code)).2.1) (((Qa code)).2.2.1) (((Qa code)).2.2.2)) (Zm (((Qa code)).1) (((Qa code)).2.1) (((Qa code)).2.2.1) (((Qa code)).2.2.2)))) || ((!(Yx (X9 (((Qc code)).1) (((Qc code)).2.1) (((Qc code)).2.2)) (Z5 (((Qc code)).1) (((Qc code)).2.1) (((Qc code)).2.2)))) || ((!(Zo (Zk (((Qj code)).1) (((Qj code)).2)) (Zl (((Qj code)).1) (((Qj code)).2)))) || (!(Zo (Yk (((Qc code)).1) (((Qc code)).2.1) (((Qc code)).2.2)) (K4 (((Qc code)).1) (((Qc code)).2.1) (((Qc code)).2.2))))))) (fun h5 => ?_) (fun h5 => ?_)
 ·
  refine su Qb [] [81] [] [] (p0) ?_
  refine Qg ?_
  exact pb [] (Qm h1 (Q6 h5 (rfl)))
 have h5l : ((!(Yx (Xu (((Qa code)).1) (((Qa code)).2.1) (((Qa code)).2.2.1) (((Qa code)).2.2.2)) (Zm (((Qa code)).1) (((Qa code)).2.1) (((Qa code)).2.2.1) (((Qa code)).2.2.2))))) = false := Pw h5
 have h5ln : (Yx (Xu (((Qa code)).1) (((Qa code)).2.1) (((Qa code)).2.2.1) (((Qa code)).2.2.2)) (Zm (((Qa code)).1) (((Qa code)).2.1) (((Qa code)).2.2.1) (((Qa code)).2.2.2))) = true := Ze h5l
 have h5r : (((!(Yx (X9 (((Qc code)).1) (((Qc code)).2.1) (((Qc code)).2.2)) (Z5 (((Qc code)).1) (((Qc code)).2.1) (((Qc code)).2.2)))) || ((!(Zo (Zk (((Qj code)).1) (((Qj code)).2)) (Zl (((Qj code)).1) (((Qj code)).2)))) || (!(Zo (Yk (((Qc code)).1) (((Qc code)).2.1) (((Qc code)).2.2)) (K4 (((Qc code)).1) (((Qc code)).2.1) (((Qc code)).2.2))))))) = false := Px h5
 have h5rl : ((!(Yx (X9 (((Qc code)).1) (((Qc code)).2.1) (((Qc code)).2.2)) (Z5 (((Qc code)).1) (((Qc code)).2.1) (((Qc code)).2.2))))) = false := Pw h5r
 have h5rln : (Yx (X9 (((Qc code)).1) (((Qc code)).2.1) (((Qc code)).2.2)) (Z5 (((Qc code)).1) (((Qc code)).2.1) (((Qc code)).2.2))) = true := Ze h5rl
 have h5rr : (((!(Zo (Zk (((Qj code)).1) (((Qj code)).2)) (Zl (((Qj code)).1) (((Qj code)).2)))) || (!(Zo (Yk (((Qc code)).1) (((Qc code)).2.1) (((Qc code)).2.2)) (K4 (((Qc code)).1) (((Qc code)).2.1) (((Qc code)).2.2)))))) = false := Px h5r
 have h5rrl : ((!(Zo (Zk (((Qj code)).1) (((Qj code)).2)) (Zl (((Qj code)).1) (((Qj code)).2))))) = false := Pw h5rr
 have h5rrln : (Zo (Zk (((Qj code)).1) (((Qj code)).2)) (Zl (((Qj code)).1) (((Qj code)).2))) = true := Ze h5rrl
 have h5rrr : ((!(Zo (Yk (((Qc code)).1) (((Qc code)).2.1) (((Qc code)).2.2)) (K4 (((Qc code)).1) (((Qc code)).2.1) (((Qc code)).2.2))))) = false := Px h5rr
 have h5rrrn : (Zo (Yk (((Qc code)).1) (((Qc code)).2.1) (((Qc code)).2.2)) (K4 (((Qc code)).1) (((Qc code)).2.1) (((Qc code)).2.2))) = true := Ze h5rrr
 refine Qh ?_
 refine sn Qb [2, 3, 4, 5, 6, 7, 9, 13] [3, 4, 7] (pc 3 (Lq (((Qc code)).1) (((Qc code)).2.1) (((Qc code)).2.2)) p0) ?_
 refine Qe (tn Qb [2, 3, 4, 5, 6, 7, 9, 13, 14] [3, 4, 7] (p0) ?_)
 refine mz [(13, .o 5440 (Yk (((Qc code)).1) (((Qc code)).2.1) (((Qc code)).2.2))), (14, .i 0)] [8, 81] [] [] ?_
 refine wT 13 0 (.own true 5440) (Yk (((Qc code)).1) (((Qc code)).2.1) (((Qc code)).2.2)) (fun hw6 hl7 => ?_)
 refine GO (Hk code) Cv (Yk (((Qc code)).1) (((Qc code)).2.1) (((Qc code)).2.2)) () (fun k0 _ => [(14, .i ((k0 : Nat) : Int))]) [14] (fun _ _ => []) [] (fun _ => []) [7, 9, 13, 14] (fun _ => []) [7] (Qd (by kernel_rfl)) (fun k0 s0 hk0 hI0 => ?_) (fun k0 s0 hk0 hI0 => ?_) (fun y0 hD0 => ?_)
 ·
  obtain ⟨a0, hx0⟩ := Xm (l := Yk (((Qc code)).1) (((Qc code)).2.1) (((Qc code)).2.2)) (i := k0) hk0
  refine Qe (su Qb [(89, .b true)] [] [] [] (pl 2 (Yk (((Qc code)).1) (((Qc code)).2.1) (((Qc code)).2.2)) (pe 3 (Qo (decide_eq_true (p := ((k0 : Nat) : Int) < ((Yk (((Qc code)).1) (((Qc code)).2.1) (((Qc code)).2.2)).length : Int)) (by omega))) p0)) ?_)
  refine ckT ?_
  refine Qh ?_
  refine Qe (Qs ?_)
  refine sN Qb Yo [2, 3, 4, 5, 6, 7, 9, 13, 14, 100] [3, 4, 7] (pN 3 hx0 (pc 5 (UJ (((Qc code)).1) a0) (pc 7 (Cf (Wz (((Qc code)).1) a0) (((Qc code)).2.2)) p0))) ?_
  refine ck (!(J8 (Wz (((Qc code)).1) a0) (((Qc code)).2.2))) (fun h8 => ?_) (fun h8 => ?_)
  ·
   have h8n : (J8 (Wz (((Qc code)).1) a0) (((Qc code)).2.2)) = false := Vr h8
   refine tu Qb [] [89] [] [] (p0) ?_
   refine Qg ?_
   have hr9 : (Xp (Hk code) Cv (Yk (((Qc code)).1) (((Qc code)).2.1) (((Qc code)).2.2)) 0 ()) = .ret false := Zx hx0 (Q6 h8 (rfl)) hI0
   exact pb [] (Qm h1 (Qm h5 (Iq hr9)))
  have h8n : (J8 (Wz (((Qc code)).1) a0) (((Qc code)).2.2)) = true := Ze h8
  refine Qh ?_
  refine qn Qb [2, 3, 4, 5, 6, 7, 9, 13, 14] [3, 4, 7] (pe 1 (Jn (Qp k0 (by omega))) p0) ?_
  exact Exists.intro _ (And.intro (Qd (by kernel_rfl)) (Qx hx0 (Qm h8 (rfl)) hI0))
 ·
  refine Qe (su Qb [(89, .b false)] [] [] [] (pl 2 (Yk (((Qc code)).1) (((Qc code)).2.1) (((Qc code)).2.2)) (pe 3 (Qo (decide_eq_false (p := ((k0 : Nat) : Int) < ((Yk (((Qc code)).1) (((Qc code)).2.1) (((Qc code)).2.2)).length : Int)) (by omega))) p0)) ?_)
  refine ckF ?_
  refine Q5 ?_
  exact Exists.intro _ (And.intro (Qd (by kernel_rfl)) (Xn hk0 (rfl) hI0))
 refine Qe (Qe (jn [(108, .b ((!(Qw (((Qa code)).1))) || (!(Qw (((Qa code)).2.1)))))] [] [] [] (!(Qw (((Qa code)).1))) (fun h10 => ?_) (fun h10 => ?_) ?_))
 ·
  have h10n : (Qw (((Qa code)).1)) = false := Vr h10
  refine ru Qb [(108, .b true)] [] [] [] (pc 1 (cb h10n (Za (((Qa code)).1))) (pe 2 (show .b (!false) = .b true from rfl) p0)) ?_
  exact ⟨rfl, Qd (by rw [h10]; first | done | kernel_rfl)⟩
 ·
  have h10n : (Qw (((Qa code)).1)) = true := Ze h10
  refine rn Qb [2, 3, 4, 5, 6, 108] [3, 4] (pc 1 (cb h10n (Za (((Qa code)).1))) (pe 2 (show .b (!true) = .b false from rfl) (pc 5 (Za (((Qa code)).2.1)) p0))) ?_
  exact ⟨rfl, Qd (by rw [h10]; first | done | kernel_rfl)⟩
 refine ck ((!(Qw (((Qa code)).1))) || (!(Qw (((Qa code)).2.1)))) (fun h11 => ?_) (fun h11 => ?_)
 ·
  refine sn Qb [2, 3, 4, 5, 6] [3, 4] (pc 4 (Kw (((Qa code)).1) (((Qa code)).1) (((Qa code)).2.2.1) (((Qa code)).2.2.2) (by assumption) (by assumption) (by assumption)) (pl 5 (Xu (((Qa code)).1) (((Qa code)).1) (((Qa code)).2.2.1) (((Qa code)).2.2.2)) p0)) ?_
  refine Qg ?_
  exact pb [] (Qm h1 (Qm h5 (Wc hD0 (Q6 h11 (rfl)))))
 have h11l : ((!(Qw (((Qa code)).1)))) = false := Pw h11
 have h11ln : (Qw (((Qa code)).1)) = true := Ze h11l
 have h11r : ((!(Qw (((Qa code)).2.1)))) = false := Px h11
 have h11rn : (Qw (((Qa code)).2.1)) = true := Ze h11r
 refine Qh ?_
 refine Qe (jn [(2, .b ((((Xu (((Qa code)).1) (((Qa code)).2.1) (((Qa code)).2.2.1) (((Qa code)).2.2.2)).length : Int) == (0 : Int)) && ((!(Yu (((Qa code)).1) (((Qa code)).2.1) (((Qa code)).2.2.2))) || (Yx (X9 (((Qa code)).1) (((Qa code)).2.2.1) (((Qa code)).2.2.2)) (X9 (((Qa code)).2.1) (((Qa code)).2.2.1) (((Qa code)).2.2.2))))))] [2, 3, 4, 5, 6, 108] [] [3, 4] (((Xu (((Qa code)).1) (((Qa code)).2.1) (((Qa code)).2.2.1) (((Qa code)).2.2.2)).length : Int) == (0 : Int)) (fun h12 => ?_) (fun h12 => ?_) ?_)
 ·
  have h12d := eq_of_beq h12
  refine Xl (!(Yu (((Qa code)).1) (((Qa code)).2.1) (((Qa code)).2.2.2))) (fun h13 => ?_) (fun h13 => ?_)
  ·
   have h13n : (Yu (((Qa code)).1) (((Qa code)).2.1) (((Qa code)).2.2.2)) = false := Vr h13
   refine rN Qb Yo [2] [] (pc 4 (Kw (((Qa code)).1) (((Qa code)).2.1) (((Qa code)).2.2.1) (((Qa code)).2.2.2) (by assumption) (by assumption) (by assumption)) (pl 5 (Xu (((Qa code)).1) (((Qa code)).2.1) (((Qa code)).2.2.1) (((Qa code)).2.2.2)) (pt 6 h12 (pc 11 (cb h13n (Cn (((Qa code)).1) (((Qa code)).2.1) (((Qa code)).2.2.2))) (pe 12 (show .b (!false) = .b true from rfl) p0))))) ?_
   exact ⟨rfl, Qd (by rw [h12, h13]; first | done | kernel_rfl)⟩
  have h13n : (Yu (((Qa code)).1) (((Qa code)).2.1) (((Qa code)).2.2.2)) = true := Ze h13
  refine rN Qb Yo [2] [] (pc 4 (Kw (((Qa code)).1) (((Qa code)).2.1) (((Qa code)).2.2.1) (((Qa code)).2.2.2) (by assumption) (by assumption) (by assumption)) (pl 5 (Xu (((Qa code)).1) (((Qa code)).2.1) (((Qa code)).2.2.1) (((Qa code)).2.2.2)) (pt 6 h12 (pc 11 (cb h13n (Cn (((Qa code)).1) (((Qa code)).2.1) (((Qa code)).2.2.2))) (pe 12 (show .b (!true) = .b false from rfl) (pc 17 (D9 (((Qa code)).1) (((Qa code)).2.2.1) (((Qa code)).2.2.2) (by assumption) (by assumption)) (pc 21 (D9 (((Qa code)).2.1) (((Qa code)).2.2.1) (((Qa code)).2.2.2) (by assumption) (by assumption)) (pc 22 (Vw (X9 (((Qa code)).1) (((Qa code)).2.2.1) (((Qa code)).2.2.2)) (X9 (((Qa code)).2.1) (((Qa code)).2.2.1) (((Qa code)).2.2.2))) p0)))))))) ?_
  exact ⟨rfl, Qd (by rw [h12, h13]; first | done | kernel_rfl)⟩
 ·
  have h12d := Yg h12
  refine rN Qb Yo [2] [] (pc 4 (Kw (((Qa code)).1) (((Qa code)).2.1) (((Qa code)).2.2.1) (((Qa code)).2.2.2) (by assumption) (by assumption) (by assumption)) (pl 5 (Xu (((Qa code)).1) (((Qa code)).2.1) (((Qa code)).2.2.1) (((Qa code)).2.2.2)) (pf 6 h12 p0))) ?_
  exact ⟨rfl, Qd (by rw [h12]; first | done | kernel_rfl)⟩
 refine Qg ?_
 exact pb [] (Qm h1 (Qm h5 (Wc hD0 (Qm h11 (rfl)))))
end Go.Proofs.YtkbfhiamdcoieaaGreatDoor
namespace Go.Proofs.YtkbfhiamdcoieaaGreatDoor
open Go.RowKit
theorem Mg (code : List UInt8) : Fo code = true := by
  unfold Fo
  cases QP code with
  | true => rfl
  | false =>
    simp only [cond_false]
    rw [EL, JU, LU, WU, Gb, Gb, O8, O8]
    simp only [Bool.not_true, Bool.or_self, cond_false]
    rw [E7 _ 0 (fun i x hi => by
      unfold Hk Wz
      rw [AU (List.mem_of_getElem? hi)]
      rfl)]
    simp only [Out.on]
    generalize Qa code = x
    cases ha : Qw x.1 with
    | false =>
      simp only [Bool.not_false, Bool.true_or, cond_true, QH]
      rfl
    | true =>
      cases hb : Qw x.2.1 with
      | false =>
        simp only [Bool.not_false, Bool.or_true, cond_true, QH]
        rfl
      | true =>
        have ha' := (Ib x.1).symm.trans ha
        have hb' := (Ib x.2.1).symm.trans hb
        simp only [Bool.not_true, Bool.or_self, cond_false]
        rw [Qbs _ _ ha' hb']
        cases hq : Yu x.1 x.2.1 x.2.2.2 with
        | false => rfl
        | true =>
          obtain ⟨h1, h2⟩ := (YT _ _ _).1 hq
          rw [AT ha' hb' h1 h2, Gb]
          rfl
end Go.Proofs.YtkbfhiamdcoieaaGreatDoor
namespace Go.Proofs.YtkbfhiamdcoieaaGreatDoor
open Go.RowKit
open GoD (rd own)
set_option maxRecDepth 1000000 in
theorem UK (w : World) (v : Value) (a : List UInt8) (h : rd w [v] a) (hbig : ¬ a.length ≤ 1048576) : Calls Tryz.prog 3 #[v] w (Ret w (.bool true)) := by
  obtain ⟨oa, cap, rfl⟩ := Mx h
  have hln := GR h
  clear h
  have hbi : 1048576 < (a.length : Int) := by omega
  go_enter Tryz.func3, Tryz.ntmps3
  go_wp2_with (first | (go_at_call 4; go_in))
  go_ret
  exact ⟨rfl, by go_grown⟩
theorem UL (w : World) (v : Value) (a : List UInt8) (h : rd w [v] a) (ht : tabOk w) : Calls Tryz.prog 3 #[v] w (Ret w (.bool true)) := by
  by_cases hbig : a.length ≤ 1048576
  · haveI : Good Tryz.prog w := ⟨fun _ _ => ht⟩
    have hc := (Rh a).run (.cons (SV h ⟨by omega, fun _ _ => trivial⟩) .nil)
    rw [Mg] at hc
    exact hc.mono fun _ _ h => NN h
  exact UK w v a h hbig
end Go.Proofs.YtkbfhiamdcoieaaGreatDoor
