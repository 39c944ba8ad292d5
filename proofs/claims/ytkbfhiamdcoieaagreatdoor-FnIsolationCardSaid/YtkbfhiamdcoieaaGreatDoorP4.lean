/- Texts of this proof, put together by a program: Cka, Ckb, Nga, Ngb, Zd, Sh, Ts, Dpa, Dpb, Dpc, Dpd, Sta, Stb, Stc, Stg, Sth, Std, Ste. -/
import Derived.Test.YtkbfhiamdcoieaaGreatDoorP3
import Derived.Test.YtkbfhiamdcoieaaGreatDoorProg
import Derived.KernelRfl
import Derived.Sort.EncStr
import Derived.Sort.Grow
import Derived.Lib.SlicesCompact
import Derived.Sort.Walk0
import Derived.Shelf.Small.Bits
import Derived.Shelf.Strconv.Itoa0
import Derived.Shelf.Strconv.Itoa1
import Derived.Shelf.LaysM
import Derived.Shelf.Strconv.Itoa2
import Derived.Shelf.Strconv.Itoa3
import Derived.Shelf.Sort.Plain
import Derived.Shelf.Slices.Turned
import Derived.Ground.Names2Prog
import Derived.Shelf.Slices.CompactI
import Derived.Shelf.Slices.CompactS
import Derived.Shelf.Slices.SearchI
import Derived.Shelf.Slices.In.SortNone
import Derived.Ground.SlgnProg
import Derived.Shelf.SlicesE.Equal
import Derived.Shelf.SlicesE.Compact
set_option linter.unusedVariables false
set_option linter.unusedSimpArgs false
namespace Go.Proofs.YtkbfhiamdcoieaaGreatDoor
open Go.RowKit
open GoE (enc wide)
def tt : List (Nat × TI) := [(3, ⟨.int .i64, 1, [.i 0], []⟩),
 (4, ⟨.bool, 1, [.b false], []⟩),
 (5, ⟨.int .u8, 1, [.int .u8 0], []⟩),
 (9, ⟨.str, 1, [.s ⟨#[]⟩], []⟩),
 (22, ⟨.sli 5, 1, [.e 1], []⟩),
 (24, ⟨.sli 84, 1, [.e 2], []⟩),
 (25, ⟨.sli 46, 1, [.e 5], []⟩),
 (27, ⟨.struct [(0, 1, false), (1, 1, false), (2, 1, false)], 3, [.e 2, .e 5, .i 0], []⟩),
 (28, ⟨.sli 55, 1, [.e 2], []⟩),
 (35, ⟨.sli 9, 1, [.e 1], []⟩),
 (40, ⟨.sli 3, 1, [.e 1], []⟩),
 (44, ⟨.sli 97, 1, [.e 4], []⟩),
 (46, ⟨.struct [(0, 1, false), (1, 1, false), (2, 1, false), (3, 1, false), (4, 1, false)], 5, [.i 0, .i 0, .b false, .i 0, .e 4], []⟩),
 (50, ⟨.sli 59, 1, [.e 2], []⟩),
 (53, ⟨.sli 106, 1, [.e 7], []⟩),
 (55, ⟨.struct [(0, 1, false), (1, 1, false)], 2, [.s ⟨#[]⟩, .e 7], []⟩),
 (59, ⟨.struct [(0, 1, false), (1, 1, false)], 2, [.s ⟨#[]⟩, .e 1], []⟩),
 (84, ⟨.struct [(0, 1, false), (1, 1, false)], 2, [.s ⟨#[]⟩, .i 0], [.str, .int]⟩),
 (95, ⟨.struct [(0, 1, false), (1, 1, false), (2, 1, false)], 3, [.i 0, .i 0, .s ⟨#[]⟩], [.int, .int, .str]⟩),
 (97, ⟨.struct [(0, 1, false), (1, 3, true)], 4, [.s ⟨#[]⟩, .i 0, .i 0, .s ⟨#[]⟩], [.str, .int, .int, .str]⟩),
 (100, ⟨.struct [(0, 1, false), (1, 1, false), (2, 1, false)], 3, [.e 1, .i 0, .i 0], []⟩),
 (106, ⟨.struct [(0, 1, false), (1, 1, false), (2, 1, false), (3, 1, false), (4, 3, true)], 7, [.i 0, .i 0, .i 0, .s ⟨#[]⟩, .i 0, .i 0, .s ⟨#[]⟩], [.int, .int, .int, .str, .int, .int, .str]⟩),
 (187, ⟨.sli 4, 1, [.e 1], []⟩)]
theorem Qb : Fz Tryz.prog tt = true := by kernel_rfl
theorem Yo : Tryz.prog.follows .mixedOrders = true := by kernel_rfl
def Ye (n : Int) (low : Int) (high_ : Int) : Bool := (decide (low ≤ n) && decide (n ≤ high_))
theorem Jw (n : Int) (low : Int) (high_ : Int) : ACalls Tryz.prog 84 [.i n, .i low, .i high_] (.b (Ye n low high_)) := by
 refine en Qb Tryz.func84 fun w0 F0 hG => ?_
 refine sn Qb [0, 1, 2, 6] [] (p0) ?_
 refine Qe (mz [(6, .b false)] [] [] [] ?_)
 refine jn [(6, .b (decide (low ≤ n) && decide (n ≤ high_)))] [0, 1, 2, 6] [] [] (decide (low ≤ n)) (fun h1 => ?_) (fun h1 => ?_) ?_
 ·
  refine rn Qb [6] [] (pt 2 h1 p0) ?_
  exact ⟨rfl, Qd (by rw [h1]; first | done | kernel_rfl)⟩
 ·
  refine rn Qb [6] [] (pf 2 h1 p0) ?_
  exact ⟨rfl, Qd (by rw [h1]; first | done | kernel_rfl)⟩
 refine Qg ?_
 exact pb [] (show Ye n low high_ = (decide (low ≤ n) && decide (n ≤ high_)) from rfl)
def Ag (s_ : ByteArray) (k0 : Nat) (_ : Unit) : Rd (Bool) (Unit) (Unit) := (bif (decide (H0 s_ ((k0 : Nat) : Int) < (97 : Int)) || decide (H0 s_ ((k0 : Nat) : Int) > (122 : Int))) then (.ret false) else (.next ()))
def Ah (_ : Nat) (_ : Unit) : Unit := ()
def Yz (s_ : ByteArray) : Bool := (Out.on (Wd (Ag s_) Ah (Int.toNat (ByteArray.size s_ : Int)) 0 ()) (fun _ => (Ye (ByteArray.size s_ : Int) 1 6)))
theorem J4 (s_ : ByteArray) : ACalls Tryz.prog 172 [.s s_] (.b (Yz s_)) := by
 refine en Qb Tryz.func172 fun w0 F0 hG => ?_
 refine sn Qb [0, 2] [] (p0) ?_
 refine Qe (tn Qb [0, 2, 5, 6] [] (p0) ?_)
 refine mz [(2, .b false), (5, .i (ByteArray.size s_ : Int)), (6, .i 0)] [] [] [] ?_
 refine stT 0 0 s_ (fun hs1 => ?_)
 refine Qb2 (Ag s_) Ah (Int.toNat (ByteArray.size s_ : Int)) () (fun k0 _ => [(6, .i ((k0 : Nat) : Int))]) [6] (fun _ => []) [5, 6] (Qd (by kernel_rfl)) (fun k0 s0 hk0 hI0 => ?_) (fun k0 s0 hk0 hI0 => ?_) (fun y0 hD0 => ?_)
 ·
  refine sn Qb [0, 2, 5, 6, 7] [] (pe 0 (Qo (decide_eq_true (p := ((k0 : Nat) : Int) < (ByteArray.size s_ : Int)) (by omega))) p0) ?_
  refine Qe (ckT ?_)
  refine Qh ?_
  refine Qe (Qs ?_)
  refine tn Qb [0, 2, 3, 5, 6] [] (p0) ?_
  refine Qe (mz [(3, .i ((k0 : Nat) : Int))] [] [] [] ?_)
  refine jn [(18, .b (decide (H0 s_ ((k0 : Nat) : Int) < (97 : Int)) || decide (H0 s_ ((k0 : Nat) : Int) > (122 : Int))))] [3] [] [] (decide (H0 s_ ((k0 : Nat) : Int) < (97 : Int))) (fun h2 => ?_) (fun h2 => ?_) ?_
  ·
   have h2d := of_decide_eq_true h2
   refine rn Qb [0, 2, 5, 6, 18] [] (px (N4 (i := ((k0 : Nat) : Int)) (n := (ByteArray.size s_)) (by omega)) (pt 3 h2 p0)) ?_
   exact ⟨rfl, Qd (by rw [h2]; first | done | kernel_rfl)⟩
  ·
   have h2d := of_decide_eq_false h2
   refine rn Qb [0, 2, 5, 6, 18] [] (px (N4 (i := ((k0 : Nat) : Int)) (n := (ByteArray.size s_)) (by omega)) (pf 3 h2 (px (N4 (i := ((k0 : Nat) : Int)) (n := (ByteArray.size s_)) (by omega)) p0))) ?_
   exact ⟨rfl, Qd (by rw [h2]; first | done | kernel_rfl)⟩
  refine ck (decide (H0 s_ ((k0 : Nat) : Int) < (97 : Int)) || decide (H0 s_ ((k0 : Nat) : Int) > (122 : Int))) (fun h3 => ?_) (fun h3 => ?_)
  ·
   refine su Qb [] [18] [] [] (p0) ?_
   refine Qg ?_
   have hr4 : (Wd (Ag s_) Ah (Int.toNat (ByteArray.size s_ : Int)) 0 ()) = .ret false := BU hk0 (Q6 h3 (rfl)) hI0
   exact pb [] (Iq hr4)
  have h3l : (decide (H0 s_ ((k0 : Nat) : Int) < (97 : Int))) = false := Pw h3
  have h3ld := of_decide_eq_false h3l
  have h3r : (decide (H0 s_ ((k0 : Nat) : Int) > (122 : Int))) = false := Px h3
  have h3rd := of_decide_eq_false h3r
  refine Qh ?_
  refine rn Qb [0, 2, 5, 6] [] (pe 0 (Jn (Qp k0 (by omega))) p0) ?_
  exact Exists.intro _ (And.intro (Qd (by kernel_rfl)) (K0 hk0 (Qm h3 (rfl)) hI0))
 ·
  refine sn Qb [0, 2, 5, 6, 7] [] (pe 0 (Qo (decide_eq_false (p := ((k0 : Nat) : Int) < (ByteArray.size s_ : Int)) (by omega))) p0) ?_
  refine Qe (ckF ?_)
  refine Q5 ?_
  exact Exists.intro _ (And.intro (Qd (by kernel_rfl)) (Bz hk0 (rfl) hI0))
 refine sn Qb [2] [] (pc 2 (Jw (ByteArray.size s_ : Int) 1 6) p0) ?_
 refine Qg ?_
 exact pb [] (Wc hD0 (rfl))
def Kl (v : Kg) : Bool := (bif (v.1 == (0 : Int)) then ((v.1 == 0) && ((v.2.1 == 0) && ((v.2.2.toList == (⟨#[]⟩ : ByteArray).toList) && true))) else (bif (v.1 == (1 : Int)) then ((Ye v.2.1 0 999) && (v.2.2.toList == (⟨#[]⟩ : ByteArray).toList)) else (bif (v.1 == (2 : Int)) then ((Yz v.2.2) && (v.2.1 == (0 : Int))) else false)))
theorem K1 (v : Kg) : ACalls Tryz.prog 155 [.a [.i v.1, .i v.2.1, .s v.2.2]] (.b (Kl v)) := by
 refine en Qb Tryz.func155 fun w0 F0 hG => ?_
 refine sn Qb [1, 2] [1] (p0) ?_
 refine Qe (tn Qb [1, 2, 4] [1] (p0) ?_)
 refine Qs ?_
 refine tu Qb [(1, .p 1 0), (2, .b false), (4, .i v.1), (5, .b (v.1 == (0 : Int)))] [0] [(1, [.i v.1, .i v.2.1, .s v.2.2])] [] (p0) ?_
 refine ck (v.1 == (0 : Int)) (fun h1 => ?_) (fun h1 => ?_)
 ·
  refine sn Qb [2] [] (p0) ?_
  refine Qg ?_
  exact pb [] (Q6 h1 (rfl))
 refine sn Qb [1, 2, 4, 10] [1] (p0) ?_
 refine ck (v.1 == (1 : Int)) (fun h2 => ?_) (fun h2 => ?_)
 ·
  refine Qe (mz [(10, .b (v.1 == (1 : Int)))] [5] [] [] ?_)
  refine jn [(2, .b ((Ye v.2.1 0 999) && (v.2.2.toList == (⟨#[]⟩ : ByteArray).toList)))] [1, 2, 4, 10] [] [1] (Ye v.2.1 0 999) (fun h3 => ?_) (fun h3 => ?_) ?_
  ·
   refine rn Qb [2] [] (pc 2 (cb h3 (Jw v.2.1 0 999)) p0) ?_
   exact ⟨rfl, Qd (by rw [h3]; first | done | kernel_rfl)⟩
  ·
   refine rn Qb [2] [] (pc 2 (cb h3 (Jw v.2.1 0 999)) p0) ?_
   exact ⟨rfl, Qd (by rw [h3]; first | done | kernel_rfl)⟩
  refine Qg ?_
  exact pb [] (Qm h1 (Q6 h2 (rfl)))
 refine tn Qb [1, 2, 20] [1] (p0) ?_
 refine ck (v.1 == (2 : Int)) (fun h4 => ?_) (fun h4 => ?_)
 ·
  refine Qe (mz [(20, .b (v.1 == (2 : Int)))] [4, 5] [] [] ?_)
  refine jn [(2, .b ((Yz v.2.2) && (v.2.1 == (0 : Int))))] [1, 2, 20] [] [1] (Yz v.2.2) (fun h5 => ?_) (fun h5 => ?_) ?_
  ·
   refine rn Qb [2] [] (pc 2 (cb h5 (J4 v.2.2)) p0) ?_
   exact ⟨rfl, Qd (by rw [h5]; first | done | kernel_rfl)⟩
  ·
   refine rn Qb [2] [] (pc 2 (cb h5 (J4 v.2.2)) p0) ?_
   exact ⟨rfl, Qd (by rw [h5]; first | done | kernel_rfl)⟩
  refine Qg ?_
  exact pb [] (Qm h1 (Qm h2 (Q6 h4 (rfl))))
 refine Qh ?_
 refine tu Qb [] [1, 4, 5] [] [1] (p0) ?_
 refine Qg ?_
 exact pb [] (Qm h1 (Qm h2 (Qm h4 (rfl))))
def Xa (x : Int) (least : Int) (most : Int) : Bool := (decide (x ≥ least) && decide (x ≤ most))
theorem Zd (x : Int) (least : Int) (most : Int) : ACalls Tryz.prog 38 [.i x, .i least, .i most] (.b (Xa x least most)) := by
 refine en Qb Tryz.func38 fun w0 F0 hG => ?_
 refine sn Qb [0, 1, 2, 6] [] (p0) ?_
 refine Qe (mz [(6, .b false)] [] [] [] ?_)
 refine jn [(6, .b (decide (x ≥ least) && decide (x ≤ most)))] [0, 1, 2, 6] [] [] (decide (x ≥ least)) (fun h1 => ?_) (fun h1 => ?_) ?_
 ·
  refine rn Qb [6] [] (pt 2 h1 p0) ?_
  exact ⟨rfl, Qd (by rw [h1]; first | done | kernel_rfl)⟩
 ·
  refine rn Qb [6] [] (pf 2 h1 p0) ?_
  exact ⟨rfl, Qd (by rw [h1]; first | done | kernel_rfl)⟩
 refine Qg ?_
 exact pb [] (show Xa x least most = (decide (x ≥ least) && decide (x ≤ most)) from rfl)
def Ud (s_ : ByteArray) (k0 : Nat) (_ : Unit) : Rd (Bool) (Unit) (Unit) := (bif (decide (H0 s_ ((k0 : Nat) : Int) < (97 : Int)) || decide (H0 s_ ((k0 : Nat) : Int) > (122 : Int))) then (.ret false) else (.next ()))
def Uz (_ : Nat) (_ : Unit) : Unit := ()
def C2 (s_ : ByteArray) (most : Int) : Bool := (Out.on (Wd (Ud s_) Uz (Int.toNat (ByteArray.size s_ : Int)) 0 ()) (fun _ => (Xa (ByteArray.size s_ : Int) 1 most)))
theorem Oh (s_ : ByteArray) (most : Int) : ACalls Tryz.prog 112 [.s s_, .i most] (.b (C2 s_ most)) := by
 refine en Qb Tryz.func112 fun w0 F0 hG => ?_
 refine sn Qb [0, 1, 4] [] (p0) ?_
 refine Qe (tn Qb [0, 1, 4, 5] [] (p0) ?_)
 refine mz [(4, .b false), (5, .i 0)] [] [] [] ?_
 refine stT 0 0 s_ (fun hs1 => ?_)
 refine Qb2 (Ud s_) Uz (Int.toNat (ByteArray.size s_ : Int)) () (fun k0 _ => [(5, .i ((k0 : Nat) : Int))]) [5] (fun _ => []) [5] (Qd (by kernel_rfl)) (fun k0 s0 hk0 hI0 => ?_) (fun k0 s0 hk0 hI0 => ?_) (fun y0 hD0 => ?_)
 ·
  refine Qe (sn Qb [0, 1, 4, 5, 9] [] (pe 3 (Qo (decide_eq_true (p := ((k0 : Nat) : Int) < (ByteArray.size s_ : Int)) (by omega))) p0) ?_)
  refine ckT ?_
  refine Qh ?_
  refine Qe (Qs ?_)
  refine Qe (mz [(9, .b true)] [] [] [] ?_)
  refine jn [(21, .b (decide (H0 s_ ((k0 : Nat) : Int) < (97 : Int)) || decide (H0 s_ ((k0 : Nat) : Int) > (122 : Int))))] [9] [] [] (decide (H0 s_ ((k0 : Nat) : Int) < (97 : Int))) (fun h2 => ?_) (fun h2 => ?_) ?_
  ·
   have h2d := of_decide_eq_true h2
   refine rn Qb [0, 1, 4, 5, 21] [] (px (N4 (i := ((k0 : Nat) : Int)) (n := (ByteArray.size s_)) (by omega)) (pt 3 h2 p0)) ?_
   exact ⟨rfl, Qd (by rw [h2]; first | done | kernel_rfl)⟩
  ·
   have h2d := of_decide_eq_false h2
   refine rn Qb [0, 1, 4, 5, 21] [] (px (N4 (i := ((k0 : Nat) : Int)) (n := (ByteArray.size s_)) (by omega)) (pf 3 h2 (px (N4 (i := ((k0 : Nat) : Int)) (n := (ByteArray.size s_)) (by omega)) p0))) ?_
   exact ⟨rfl, Qd (by rw [h2]; first | done | kernel_rfl)⟩
  refine ck (decide (H0 s_ ((k0 : Nat) : Int) < (97 : Int)) || decide (H0 s_ ((k0 : Nat) : Int) > (122 : Int))) (fun h3 => ?_) (fun h3 => ?_)
  ·
   refine su Qb [] [21] [] [] (p0) ?_
   refine Qg ?_
   have hr4 : (Wd (Ud s_) Uz (Int.toNat (ByteArray.size s_ : Int)) 0 ()) = .ret false := BU hk0 (Q6 h3 (rfl)) hI0
   exact pb [] (Iq hr4)
  have h3l : (decide (H0 s_ ((k0 : Nat) : Int) < (97 : Int))) = false := Pw h3
  have h3ld := of_decide_eq_false h3l
  have h3r : (decide (H0 s_ ((k0 : Nat) : Int) > (122 : Int))) = false := Px h3
  have h3rd := of_decide_eq_false h3r
  refine Qh ?_
  refine rn Qb [0, 1, 4, 5] [] (pe 1 (Jn (Qp k0 (by omega))) p0) ?_
  exact Exists.intro _ (And.intro (Qd (by kernel_rfl)) (K0 hk0 (Qm h3 (rfl)) hI0))
 ·
  refine Qe (sn Qb [0, 1, 4, 5, 9] [] (pe 3 (Qo (decide_eq_false (p := ((k0 : Nat) : Int) < (ByteArray.size s_ : Int)) (by omega))) p0) ?_)
  refine ckF ?_
  refine Q5 ?_
  exact Exists.intro _ (And.intro (Qd (by kernel_rfl)) (Bz hk0 (rfl) hI0))
 refine sn Qb [4] [] (pc 3 (Zd (ByteArray.size s_ : Int) 1 most) p0) ?_
 refine Qg ?_
 exact pb [] (Wc hD0 (rfl))
def Ya (s_ : ByteArray) : Bool := (C2 s_ 6)
theorem Z3 (s_ : ByteArray) : ACalls Tryz.prog 149 [.s s_] (.b (Ya s_)) := by
 refine en Qb Tryz.func149 fun w0 F0 hG => ?_
 refine sn Qb [0, 2] [] (p0) ?_
 refine tn Qb [2] [] (pc 1 (Oh s_ 6) p0) ?_
 refine Qg ?_
 exact pb [] (show Ya s_ = (C2 s_ 6) from rfl)
def Jb (v : Kg) : Bool := (bif (v.1 == (0 : Int)) then ((v.1 == 0) && ((v.2.1 == 0) && ((v.2.2.toList == (⟨#[]⟩ : ByteArray).toList) && true))) else (bif (v.1 == (1 : Int)) then ((Xa v.2.1 0 999) && (v.2.2.toList == (⟨#[]⟩ : ByteArray).toList)) else (bif (v.1 == (2 : Int)) then ((Ya v.2.2) && (v.2.1 == (0 : Int))) else false)))
theorem Zy (v : Kg) : ACalls Tryz.prog 110 [.a [.i v.1, .i v.2.1, .s v.2.2]] (.b (Jb v)) := by
 refine en Qb Tryz.func110 fun w0 F0 hG => ?_
 refine sn Qb [1, 2] [1] (p0) ?_
 refine Qe (tn Qb [1, 2, 4] [1] (p0) ?_)
 refine Qs ?_
 refine tu Qb [(1, .p 1 0), (2, .b false), (4, .i v.1), (5, .b (v.1 == (0 : Int)))] [0] [(1, [.i v.1, .i v.2.1, .s v.2.2])] [] (p0) ?_
 refine ck (v.1 == (0 : Int)) (fun h1 => ?_) (fun h1 => ?_)
 ·
  refine sn Qb [2] [] (p0) ?_
  refine Qg ?_
  exact pb [] (Q6 h1 (rfl))
 refine sn Qb [1, 2, 4, 10] [1] (p0) ?_
 refine ck (v.1 == (1 : Int)) (fun h2 => ?_) (fun h2 => ?_)
 ·
  refine Qe (mz [(10, .b (v.1 == (1 : Int)))] [5] [] [] ?_)
  refine jn [(2, .b ((Xa v.2.1 0 999) && (v.2.2.toList == (⟨#[]⟩ : ByteArray).toList)))] [1, 2, 4, 10] [] [1] (Xa v.2.1 0 999) (fun h3 => ?_) (fun h3 => ?_) ?_
  ·
   refine rn Qb [2] [] (pc 2 (cb h3 (Zd v.2.1 0 999)) p0) ?_
   exact ⟨rfl, Qd (by rw [h3]; first | done | kernel_rfl)⟩
  ·
   refine rn Qb [2] [] (pc 2 (cb h3 (Zd v.2.1 0 999)) p0) ?_
   exact ⟨rfl, Qd (by rw [h3]; first | done | kernel_rfl)⟩
  refine Qg ?_
  exact pb [] (Qm h1 (Q6 h2 (rfl)))
 refine tn Qb [1, 2, 20] [1] (p0) ?_
 refine ck (v.1 == (2 : Int)) (fun h4 => ?_) (fun h4 => ?_)
 ·
  refine Qe (mz [(20, .b (v.1 == (2 : Int)))] [4, 5] [] [] ?_)
  refine jn [(2, .b ((Ya v.2.2) && (v.2.1 == (0 : Int))))] [1, 2, 20] [] [1] (Ya v.2.2) (fun h5 => ?_) (fun h5 => ?_) ?_
  ·
   refine rn Qb [2] [] (pc 2 (cb h5 (Z3 v.2.2)) p0) ?_
   exact ⟨rfl, Qd (by rw [h5]; first | done | kernel_rfl)⟩
  ·
   refine rn Qb [2] [] (pc 2 (cb h5 (Z3 v.2.2)) p0) ?_
   exact ⟨rfl, Qd (by rw [h5]; first | done | kernel_rfl)⟩
  refine Qg ?_
  exact pb [] (Qm h1 (Qm h2 (Q6 h4 (rfl))))
 refine Qh ?_
 refine tu Qb [] [1, 4, 5] [] [1] (p0) ?_
 refine Qg ?_
 exact pb [] (Qm h1 (Qm h2 (Qm h4 (rfl))))
def Xs (s_ : ByteArray) : Bool := (C2 s_ 1)
theorem X1 (s_ : ByteArray) : ACalls Tryz.prog 67 [.s s_] (.b (Xs s_)) := by
 refine en Qb Tryz.func67 fun w0 F0 hG => ?_
 refine sn Qb [0, 2] [] (p0) ?_
 refine tn Qb [2] [] (pc 1 (Oh s_ 1) p0) ?_
 refine Qg ?_
 exact pb [] (show Xs s_ = (C2 s_ 1) from rfl)
def Yi (s_ : ByteArray) : Bool := (((ByteArray.size s_ : Int) == (1 : Int)) && (decide (H0 s_ 0 ≥ (97 : Int)) && decide (H0 s_ 0 ≤ (122 : Int))))
theorem Yr (s_ : ByteArray) : ACalls Tryz.prog 129 [.s s_] (.b (Yi s_)) := by
 refine en Qb Tryz.func129 fun w0 F0 hG => ?_
 refine sn Qb [0, 2] [] (p0) ?_
 refine Qe (mz [(2, .b false)] [] [] [] ?_)
 refine jn [(2, .b (((ByteArray.size s_ : Int) == (1 : Int)) && (decide (H0 s_ 0 ≥ (97 : Int)) && decide (H0 s_ 0 ≤ (122 : Int)))))] [0, 2] [] [] ((ByteArray.size s_ : Int) == (1 : Int)) (fun h1 => ?_) (fun h1 => ?_) ?_
 ·
  have h1d := eq_of_beq h1
  refine Xl (decide (H0 s_ 0 ≥ (97 : Int))) (fun h2 => ?_) (fun h2 => ?_)
  ·
   have h2d := of_decide_eq_true h2
   refine rn Qb [2] [] (pt 2 h1 (px (N4 (i := 0) (n := (ByteArray.size s_)) (by omega)) (pt 6 h2 (px (N4 (i := 0) (n := (ByteArray.size s_)) (by omega)) p0)))) ?_
   exact ⟨rfl, Qd (by rw [h1, h2]; first | done | kernel_rfl)⟩
  have h2d := of_decide_eq_false h2
  refine rn Qb [2] [] (pt 2 h1 (px (N4 (i := 0) (n := (ByteArray.size s_)) (by omega)) (pf 6 h2 p0))) ?_
  exact ⟨rfl, Qd (by rw [h1, h2]; first | done | kernel_rfl)⟩
 ·
  refine rn Qb [2] [] (pf 2 h1 p0) ?_
  exact ⟨rfl, Qd (by rw [h1]; first | done | kernel_rfl)⟩
 refine Qg ?_
 exact pb [] (show Yi s_ = (((ByteArray.size s_ : Int) == (1 : Int)) && (decide (H0 s_ 0 ≥ (97 : Int)) && decide (H0 s_ 0 ≤ (122 : Int)))) from rfl)
def Zf (n : X4) (at_ : Int) : Bool := (bif (n.1 == (1 : Int)) then ((n.1 == n.1) && ((n.2.1 == 0) && ((n.2.2.1 == 0) && ((n.2.2.2.1.toList == (⟨#[]⟩ : ByteArray).toList) && ((n.2.2.2.2.1 == 0) && ((n.2.2.2.2.2.1 == 0) && ((n.2.2.2.2.2.2.toList == (⟨#[]⟩ : ByteArray).toList) && true))))))) else (bif (n.1 == (2 : Int)) then (((n.1 == n.1) && ((n.2.1 == 0) && ((n.2.2.1 == 0) && ((n.2.2.2.1.toList == n.2.2.2.1.toList) && ((n.2.2.2.2.1 == 0) && ((n.2.2.2.2.2.1 == 0) && ((n.2.2.2.2.2.2.toList == (⟨#[]⟩ : ByteArray).toList) && true))))))) && (Yi n.2.2.2.1)) else (bif (bif (n.1 == (3 : Int)) then (n.1 == (3 : Int)) else (n.1 == (4 : Int))) then (((n.1 == n.1) && ((n.2.1 == 0) && ((n.2.2.1 == 0) && ((n.2.2.2.1.toList == n.2.2.2.1.toList) && ((n.2.2.2.2.1 == n.2.2.2.2.1) && ((n.2.2.2.2.2.1 == n.2.2.2.2.2.1) && ((n.2.2.2.2.2.2.toList == n.2.2.2.2.2.2.toList) && true))))))) && ((Yi n.2.2.2.1) && ((Kl n.2.2.2.2) && ((n.2.2.2.2.1 != (0 : Int)) && ((n.1 == (3 : Int)) || (n.2.2.2.2.1 == (1 : Int))))))) else (bif (n.1 == (5 : Int)) then (((n.1 == n.1) && ((n.2.1 == n.2.1) && ((n.2.2.1 == 0) && ((n.2.2.2.1.toList == (⟨#[]⟩ : ByteArray).toList) && ((n.2.2.2.2.1 == 0) && ((n.2.2.2.2.2.1 == 0) && ((n.2.2.2.2.2.2.toList == (⟨#[]⟩ : ByteArray).toList) && true))))))) && (decide (at_ > (0 : Int)) && (Ye n.2.1 0 (IntKind.i64.wrap (at_ - 1))))) else (bif (bif (n.1 == (6 : Int)) then (n.1 == (6 : Int)) else (n.1 == (7 : Int))) then (((n.1 == n.1) && ((n.2.1 == n.2.1) && ((n.2.2.1 == n.2.2.1) && ((n.2.2.2.1.toList == (⟨#[]⟩ : ByteArray).toList) && ((n.2.2.2.2.1 == 0) && ((n.2.2.2.2.2.1 == 0) && ((n.2.2.2.2.2.2.toList == (⟨#[]⟩ : ByteArray).toList) && true))))))) && (decide (at_ > (0 : Int)) && ((Ye n.2.1 0 (IntKind.i64.wrap (at_ - 1))) && (Ye n.2.2.1 0 (IntKind.i64.wrap (at_ - 1)))))) else (bif (n.1 == (8 : Int)) then (((n.1 == n.1) && ((n.2.1 == 0) && ((n.2.2.1 == 0) && ((n.2.2.2.1.toList == n.2.2.2.1.toList) && ((n.2.2.2.2.1 == 0) && ((n.2.2.2.2.2.1 == 0) && ((n.2.2.2.2.2.2.toList == (⟨#[]⟩ : ByteArray).toList) && true))))))) && (Yz n.2.2.2.1)) else (bif (n.1 == (9 : Int)) then (((n.1 == n.1) && ((n.2.1 == 0) && ((n.2.2.1 == 0) && ((n.2.2.2.1.toList == n.2.2.2.1.toList) && ((n.2.2.2.2.1 == 0) && ((n.2.2.2.2.2.1 == 0) && ((n.2.2.2.2.2.2.toList == (⟨#[]⟩ : ByteArray).toList) && true))))))) && (Yz n.2.2.2.1)) else false)))))))
theorem C3 (n : X4) (at_ : Int) : ACalls Tryz.prog 182 [.a [.i n.1, .i n.2.1, .i n.2.2.1, .s n.2.2.2.1, .i n.2.2.2.2.1, .i n.2.2.2.2.2.1, .s n.2.2.2.2.2.2], .i at_] (.b (Zf n at_)) := by
 refine en Qb Tryz.func182 fun w0 F0 hG => ?_
 refine sn Qb [1, 2, 4] [2] (p0) ?_
 refine tn Qb [1, 2, 4, 5] [2, 5] (p0) ?_
 refine Qe (tu Qb [(2, .p 2 0), (4, .b false), (5, .p 5 0), (10, .i n.1)] [0] [(2, [.i n.1, .i n.2.1, .i n.2.2.1, .s n.2.2.2.1, .i n.2.2.2.2.1, .i n.2.2.2.2.2.1, .s n.2.2.2.2.2.2]), (5, [.i n.1, .i 0, .i 0, .s ⟨#[]⟩, .i 0, .i 0, .s ⟨#[]⟩])] [] (p0) ?_)
 refine Qs ?_
 refine sn Qb [1, 2, 4, 5, 10, 11] [2, 5] (p0) ?_
 refine ck (n.1 == (1 : Int)) (fun h1 => ?_) (fun h1 => ?_)
 ·
  refine Qh ?_
  refine tn Qb [4] [] (p0) ?_
  refine Qg ?_
  exact pb [] (Q6 h1 (rfl))
 refine tn Qb [1, 2, 4, 5, 10, 13] [2, 5] (p0) ?_
 refine ck (n.1 == (2 : Int)) (fun h2 => ?_) (fun h2 => ?_)
 ·
  refine tu Qb [] [1, 10] [(5, [.i n.1, .i 0, .i 0, .s n.2.2.2.1, .i 0, .i 0, .s ⟨#[]⟩])] [5] (p0) ?_
  refine Qe (jn [(4, .b (((n.1 == n.1) && ((n.2.1 == 0) && ((n.2.2.1 == 0) && ((n.2.2.2.1.toList == n.2.2.2.1.toList) && ((n.2.2.2.2.1 == 0) && ((n.2.2.2.2.2.1 == 0) && ((n.2.2.2.2.2.2.toList == (⟨#[]⟩ : ByteArray).toList) && true))))))) && (Yi n.2.2.2.1)))] [4] [] [] ((n.1 == n.1) && ((n.2.1 == 0) && ((n.2.2.1 == 0) && ((n.2.2.2.1.toList == n.2.2.2.1.toList) && ((n.2.2.2.2.1 == 0) && ((n.2.2.2.2.2.1 == 0) && ((n.2.2.2.2.2.2.toList == (⟨#[]⟩ : ByteArray).toList) && true))))))) (fun h3 => ?_) (fun h3 => ?_) ?_)
  ·
   refine rn Qb [2, 4, 5] [2, 5] (pt 2 h3 (pc 6 (Yr n.2.2.2.1) p0)) ?_
   exact ⟨rfl, Qd (by rw [h3]; first | done | kernel_rfl)⟩
  ·
   refine ru Qb [] [] [] [] (pf 2 h3 p0) ?_
   exact ⟨rfl, Qd (by rw [h3]; first | done | kernel_rfl)⟩
  refine Qg ?_
  exact pb [] (Qm h1 (Q6 h2 (rfl)))
 refine Qe (tu Qb [(26, .b (n.1 == (3 : Int)))] [] [] [] (p0) ?_)
 refine jn [(26, .b (bif (n.1 == (3 : Int)) then (n.1 == (3 : Int)) else (n.1 == (4 : Int))))] [26] [] [] (n.1 == (3 : Int)) (fun h4 => ?_) (fun h4 => ?_) ?_
 ·
  refine ckt h4 ?_
  refine Qh ?_
  exact ⟨rfl, Qd (by rw [h4]; first | done | kernel_rfl)⟩
 ·
  refine ckf h4 ?_
  refine rn Qb [1, 2, 4, 5, 10, 26] [2, 5] (p0) ?_
  exact ⟨rfl, Qd (by rw [h4]; first | done | kernel_rfl)⟩
 refine ck (bif (n.1 == (3 : Int)) then (n.1 == (3 : Int)) else (n.1 == (4 : Int))) (fun h5 => ?_) (fun h5 => ?_)
 ·
  refine sN Qb Yo [2, 4, 5] [2, 5] (p0) ?_
  refine Qe (mz [] [1, 10, 26] [(5, [.i n.1, .i 0, .i 0, .s n.2.2.2.1, .i n.2.2.2.2.1, .i n.2.2.2.2.2.1, .s n.2.2.2.2.2.2])] [5] ?_)
  refine jn [(4, .b (((n.1 == n.1) && ((n.2.1 == 0) && ((n.2.2.1 == 0) && ((n.2.2.2.1.toList == n.2.2.2.1.toList) && ((n.2.2.2.2.1 == n.2.2.2.2.1) && ((n.2.2.2.2.2.1 == n.2.2.2.2.2.1) && ((n.2.2.2.2.2.2.toList == n.2.2.2.2.2.2.toList) && true))))))) && ((Yi n.2.2.2.1) && ((Kl n.2.2.2.2) && ((n.2.2.2.2.1 != (0 : Int)) && ((n.1 == (3 : Int)) || (n.2.2.2.2.1 == (1 : Int))))))))] [4] [] [] ((n.1 == n.1) && ((n.2.1 == 0) && ((n.2.2.1 == 0) && ((n.2.2.2.1.toList == n.2.2.2.1.toList) && ((n.2.2.2.2.1 == n.2.2.2.2.1) && ((n.2.2.2.2.2.1 == n.2.2.2.2.2.1) && ((n.2.2.2.2.2.2.toList == n.2.2.2.2.2.2.toList) && true))))))) (fun h6 => ?_) (fun h6 => ?_) ?_
  ·
   refine Xl (Yi n.2.2.2.1) (fun h7 => ?_) (fun h7 => ?_)
   ·
    refine Xl (Kl n.2.2.2.2) (fun h8 => ?_) (fun h8 => ?_)
    ·
     refine Xl (n.2.2.2.2.1 != (0 : Int)) (fun h9 => ?_) (fun h9 => ?_)
     ·
      refine Xl (n.1 == (3 : Int)) (fun h10 => ?_) (fun h10 => ?_)
      ·
       refine rn Qb [2, 4, 5] [2, 5] (pt 2 h6 (pc 6 (cb h7 (Yr n.2.2.2.1)) (pc 11 (cb h8 (K1 n.2.2.2.2)) (pt 17 h9 (pt 22 h10 p0))))) ?_
       exact ⟨rfl, Qd (by rw [h6, h7, h8, h9, h10]; first | done | kernel_rfl)⟩
      refine rn Qb [2, 4, 5] [2, 5] (pt 2 h6 (pc 6 (cb h7 (Yr n.2.2.2.1)) (pc 11 (cb h8 (K1 n.2.2.2.2)) (pt 17 h9 (pf 22 h10 p0))))) ?_
      exact ⟨rfl, Qd (by rw [h6, h7, h8, h9, h10]; first | done | kernel_rfl)⟩
     refine ru Qb [] [] [] [] (pt 2 h6 (pc 6 (cb h7 (Yr n.2.2.2.1)) (pc 11 (cb h8 (K1 n.2.2.2.2)) (pf 17 h9 p0)))) ?_
     exact ⟨rfl, Qd (by rw [h6, h7, h8, h9]; first | done | kernel_rfl)⟩
    refine ru Qb [] [] [] [] (pt 2 h6 (pc 6 (cb h7 (Yr n.2.2.2.1)) (pc 11 (cb h8 (K1 n.2.2.2.2)) p0))) ?_
    exact ⟨rfl, Qd (by rw [h6, h7, h8]; first | done | kernel_rfl)⟩
   refine ru Qb [] [] [] [] (pt 2 h6 (pc 6 (cb h7 (Yr n.2.2.2.1)) p0)) ?_
   exact ⟨rfl, Qd (by rw [h6, h7]; first | done | kernel_rfl)⟩
  ·
   refine ru Qb [] [] [] [] (pf 2 h6 p0) ?_
   exact ⟨rfl, Qd (by rw [h6]; first | done | kernel_rfl)⟩
  refine Qg ?_
  exact pb [] (Qm h1 (Qm h2 (Q6 h5 (rfl))))
 refine sn Qb [1, 2, 4, 5, 10, 65] [2, 5] (p0) ?_
 refine ck (n.1 == (5 : Int)) (fun h11 => ?_) (fun h11 => ?_)
 ·
  refine tn Qb [1, 2, 4, 5] [2, 5] (p0) ?_
  refine Qe (mz [] [10, 26] [(5, [.i n.1, .i n.2.1, .i 0, .s ⟨#[]⟩, .i 0, .i 0, .s ⟨#[]⟩])] [5] ?_)
  refine jn [(4, .b (((n.1 == n.1) && ((n.2.1 == n.2.1) && ((n.2.2.1 == 0) && ((n.2.2.2.1.toList == (⟨#[]⟩ : ByteArray).toList) && ((n.2.2.2.2.1 == 0) && ((n.2.2.2.2.2.1 == 0) && ((n.2.2.2.2.2.2.toList == (⟨#[]⟩ : ByteArray).toList) && true))))))) && (decide (at_ > (0 : Int)) && (Ye n.2.1 0 (IntKind.i64.wrap (at_ - 1))))))] [1, 4] [] [] ((n.1 == n.1) && ((n.2.1 == n.2.1) && ((n.2.2.1 == 0) && ((n.2.2.2.1.toList == (⟨#[]⟩ : ByteArray).toList) && ((n.2.2.2.2.1 == 0) && ((n.2.2.2.2.2.1 == 0) && ((n.2.2.2.2.2.2.toList == (⟨#[]⟩ : ByteArray).toList) && true))))))) (fun h12 => ?_) (fun h12 => ?_) ?_
  ·
   refine Xl (decide (at_ > (0 : Int))) (fun h13 => ?_) (fun h13 => ?_)
   ·
    refine rn Qb [2, 4, 5] [2, 5] (pt 2 h12 (pt 5 h13 (pc 12 (Jw n.2.1 0 (IntKind.i64.wrap (at_ - 1))) p0))) ?_
    exact ⟨rfl, Qd (by rw [h12, h13]; first | done | kernel_rfl)⟩
   refine ru Qb [] [1] [] [] (pt 2 h12 (pf 5 h13 p0)) ?_
   exact ⟨rfl, Qd (by rw [h12, h13]; first | done | kernel_rfl)⟩
  ·
   refine ru Qb [] [1] [] [] (pf 2 h12 p0) ?_
   exact ⟨rfl, Qd (by rw [h12]; first | done | kernel_rfl)⟩
  refine Qg ?_
  exact pb [] (Qm h1 (Qm h2 (Qm h5 (Q6 h11 (rfl)))))
 refine Qe (tn Qb [1, 2, 4, 5, 10, 84] [2, 5] (p0) ?_)
 refine mz [(84, .b (n.1 == (6 : Int)))] [26] [] [] ?_
 refine jn [(84, .b (bif (n.1 == (6 : Int)) then (n.1 == (6 : Int)) else (n.1 == (7 : Int))))] [84] [] [] (n.1 == (6 : Int)) (fun h14 => ?_) (fun h14 => ?_) ?_
 ·
  refine ckt h14 ?_
  refine Qh ?_
  exact ⟨rfl, Qd (by rw [h14]; first | done | kernel_rfl)⟩
 ·
  refine ckf h14 ?_
  refine rn Qb [1, 2, 4, 5, 10, 84] [2, 5] (p0) ?_
  exact ⟨rfl, Qd (by rw [h14]; first | done | kernel_rfl)⟩
 refine ck (bif (n.1 == (6 : Int)) then (n.1 == (6 : Int)) else (n.1 == (7 : Int))) (fun h15 => ?_) (fun h15 => ?_)
 ·
  refine sN Qb Yo [1, 2, 4, 5] [2, 5] (p0) ?_
  refine Qe (mz [] [10, 84] [(5, [.i n.1, .i n.2.1, .i n.2.2.1, .s ⟨#[]⟩, .i 0, .i 0, .s ⟨#[]⟩])] [5] ?_)
  refine jn [(4, .b (((n.1 == n.1) && ((n.2.1 == n.2.1) && ((n.2.2.1 == n.2.2.1) && ((n.2.2.2.1.toList == (⟨#[]⟩ : ByteArray).toList) && ((n.2.2.2.2.1 == 0) && ((n.2.2.2.2.2.1 == 0) && ((n.2.2.2.2.2.2.toList == (⟨#[]⟩ : ByteArray).toList) && true))))))) && (decide (at_ > (0 : Int)) && ((Ye n.2.1 0 (IntKind.i64.wrap (at_ - 1))) && (Ye n.2.2.1 0 (IntKind.i64.wrap (at_ - 1)))))))] [1, 4] [] [] ((n.1 == n.1) && ((n.2.1 == n.2.1) && ((n.2.2.1 == n.2.2.1) && ((n.2.2.2.1.toList == (⟨#[]⟩ : ByteArray).toList) && ((n.2.2.2.2.1 == 0) && ((n.2.2.2.2.2.1 == 0) && ((n.2.2.2.2.2.2.toList == (⟨#[]⟩ : ByteArray).toList) && true))))))) (fun h16 => ?_) (fun h16 => ?_) ?_
  ·
   refine Xl (decide (at_ > (0 : Int))) (fun h17 => ?_) (fun h17 => ?_)
   ·
    refine Xl (Ye n.2.1 0 (IntKind.i64.wrap (at_ - 1))) (fun h18 => ?_) (fun h18 => ?_)
    ·
     refine rn Qb [2, 4, 5] [2, 5] (pt 2 h16 (pt 5 h17 (pc 12 (cb h18 (Jw n.2.1 0 (IntKind.i64.wrap (at_ - 1)))) (pc 19 (Jw n.2.2.1 0 (IntKind.i64.wrap (at_ - 1))) p0)))) ?_
     exact ⟨rfl, Qd (by rw [h16, h17, h18]; first | done | kernel_rfl)⟩
    refine ru Qb [] [1] [] [] (pt 2 h16 (pt 5 h17 (pc 12 (cb h18 (Jw n.2.1 0 (IntKind.i64.wrap (at_ - 1)))) p0))) ?_
    exact ⟨rfl, Qd (by rw [h16, h17, h18]; first | done | kernel_rfl)⟩
   refine ru Qb [] [1] [] [] (pt 2 h16 (pf 5 h17 p0)) ?_
   exact ⟨rfl, Qd (by rw [h16, h17]; first | done | kernel_rfl)⟩
  ·
   refine ru Qb [] [1] [] [] (pf 2 h16 p0) ?_
   exact ⟨rfl, Qd (by rw [h16]; first | done | kernel_rfl)⟩
  refine Qg ?_
  exact pb [] (Qm h1 (Qm h2 (Qm h5 (Qm h11 (Q6 h15 (rfl))))))
 refine Qe (sn Qb [2, 4, 5, 10, 114] [2, 5] (p0) ?_)
 refine ck (n.1 == (8 : Int)) (fun h19 => ?_) (fun h19 => ?_)
 ·
  refine Qh ?_
  refine ckt h19 ?_
  refine tn Qb [2, 4, 5] [2, 5] (p0) ?_
  refine Qe (mz [] [1, 10, 84] [(5, [.i n.1, .i 0, .i 0, .s n.2.2.2.1, .i 0, .i 0, .s ⟨#[]⟩])] [5] ?_)
  refine jn [(4, .b (((n.1 == n.1) && ((n.2.1 == 0) && ((n.2.2.1 == 0) && ((n.2.2.2.1.toList == n.2.2.2.1.toList) && ((n.2.2.2.2.1 == 0) && ((n.2.2.2.2.2.1 == 0) && ((n.2.2.2.2.2.2.toList == (⟨#[]⟩ : ByteArray).toList) && true))))))) && (Yz n.2.2.2.1)))] [4] [] [] ((n.1 == n.1) && ((n.2.1 == 0) && ((n.2.2.1 == 0) && ((n.2.2.2.1.toList == n.2.2.2.1.toList) && ((n.2.2.2.2.1 == 0) && ((n.2.2.2.2.2.1 == 0) && ((n.2.2.2.2.2.2.toList == (⟨#[]⟩ : ByteArray).toList) && true))))))) (fun h20 => ?_) (fun h20 => ?_) ?_
  ·
   refine rn Qb [2, 4, 5] [2, 5] (pt 2 h20 (pc 6 (J4 n.2.2.2.1) p0)) ?_
   exact ⟨rfl, Qd (by rw [h20]; first | done | kernel_rfl)⟩
  ·
   refine ru Qb [] [] [] [] (pf 2 h20 p0) ?_
   exact ⟨rfl, Qd (by rw [h20]; first | done | kernel_rfl)⟩
  refine Qg ?_
  exact pb [] (Qm h1 (Qm h2 (Qm h5 (Qm h11 (Qm h15 (Q6 h19 (rfl)))))))
 refine qn Qb [2, 4, 5, 114] [2, 5] (p0) ?_
 refine ck (n.1 == (9 : Int)) (fun h21 => ?_) (fun h21 => ?_)
 ·
  refine tu Qb [] [1, 10, 84] [(5, [.i n.1, .i 0, .i 0, .s n.2.2.2.1, .i 0, .i 0, .s ⟨#[]⟩])] [5] (p0) ?_
  refine Qe (jn [(4, .b (((n.1 == n.1) && ((n.2.1 == 0) && ((n.2.2.1 == 0) && ((n.2.2.2.1.toList == n.2.2.2.1.toList) && ((n.2.2.2.2.1 == 0) && ((n.2.2.2.2.2.1 == 0) && ((n.2.2.2.2.2.2.toList == (⟨#[]⟩ : ByteArray).toList) && true))))))) && (Yz n.2.2.2.1)))] [4] [] [] ((n.1 == n.1) && ((n.2.1 == 0) && ((n.2.2.1 == 0) && ((n.2.2.2.1.toList == n.2.2.2.1.toList) && ((n.2.2.2.2.1 == 0) && ((n.2.2.2.2.2.1 == 0) && ((n.2.2.2.2.2.2.toList == (⟨#[]⟩ : ByteArray).toList) && true))))))) (fun h22 => ?_) (fun h22 => ?_) ?_)
  ·
   refine rn Qb [2, 4, 5] [2, 5] (pt 2 h22 (pc 6 (J4 n.2.2.2.1) p0)) ?_
   exact ⟨rfl, Qd (by rw [h22]; first | done | kernel_rfl)⟩
  ·
   refine ru Qb [] [] [] [] (pf 2 h22 p0) ?_
   exact ⟨rfl, Qd (by rw [h22]; first | done | kernel_rfl)⟩
  refine Qg ?_
  exact pb [] (Qm h1 (Qm h2 (Qm h5 (Qm h11 (Qm h15 (Qm h19 (Q6 h21 (rfl))))))))
 refine tu Qb [] [1, 10, 84] [] [] (p0) ?_
 refine Qg ?_
 exact pb [] (Qm h1 (Qm h2 (Qm h5 (Qm h11 (Qm h15 (Qm h19 (Qm h21 (rfl))))))))
def Jx (at_ : Int) (_ : Nat) (a0 : X4) (s0 : Int) : Rd (Int) (Int) (Int) := (bif ((a0.2.1 == at_) && (((a0.1 == (6 : Int)) || (a0.1 == (7 : Int))) || (a0.1 == (5 : Int)))) then (bif ((a0.2.2.1 == at_) && ((a0.1 == (6 : Int)) || (a0.1 == (7 : Int)))) then (.next (IntKind.i64.wrap (IntKind.i64.wrap (s0 + 1) + 1))) else (.next (IntKind.i64.wrap (s0 + 1)))) else (bif ((a0.2.2.1 == at_) && ((a0.1 == (6 : Int)) || (a0.1 == (7 : Int)))) then (.next (IntKind.i64.wrap (s0 + 1))) else (.next s0)))
def Ws (_ : Nat) (s0 : Int) : Int := s0
def Jo (q : (List X4)) (at_ : Int) : Int := (Out.on (Xp (Jx at_) Ws q 0 0) (fun y0 => y0))
theorem Ld (q : (List X4)) (at_ : Int) : ACalls Tryz.prog 183 [.h q, .i at_] (.i (Jo q at_)) := by
 refine en Qb Tryz.func183 fun w0 F0 hG => ?_
 refine sn Qb [0, 1, 4] [] (p0) ?_
 refine tn Qb [0, 1, 4, 5] [] (p0) ?_
 refine Qe (tu Qb [(4, .i 0), (5, .i 0), (9, .h q), (10, .i (q.length : Int)), (11, .i 0)] [0] [] [] (pl 1 q p0) ?_)
 refine wT 9 0 .sh q (fun hw1 hl2 => ?_)
 refine L3 (Jx at_) Ws q 0 (fun k0 s0 => [(5, .i s0), (11, .i ((k0 : Nat) : Int))]) [5, 11] (fun y0 => [(5, .i y0)]) [1, 5, 9, 10, 11] (Qd (by kernel_rfl)) (fun k0 s0 hk0 hI0 => ?_) (fun k0 s0 hk0 hI0 => ?_) (fun y0 hD0 => ?_)
 ·
  obtain ⟨a0, hx0⟩ := Xm (l := q) (i := k0) hk0
  refine su Qb [(12, .b true)] [] [] [] (pe 0 (Qo (decide_eq_true (p := ((k0 : Nat) : Int) < (q.length : Int)) (by omega))) p0) ?_
  refine Qe (ckT ?_)
  refine Qh ?_
  refine Qe (Qs ?_)
  refine sn Qb [1, 4, 5, 7, 9, 10, 11] [7] (pn 0 hx0 p0) ?_
  refine Qe (mz [(7, .p 7 0)] [12] [(7, [.i a0.1, .i a0.2.1, .i a0.2.2.1, .s a0.2.2.2.1, .i a0.2.2.2.2.1, .i a0.2.2.2.2.2.1, .s a0.2.2.2.2.2.2])] [] ?_)
  refine jn [(8, .b ((a0.1 == (6 : Int)) || (a0.1 == (7 : Int))))] [] [] [] (a0.1 == (6 : Int)) (fun h3 => ?_) (fun h3 => ?_) ?_
  ·
   refine ru Qb [(8, .b true)] [] [] [] (pt 2 h3 p0) ?_
   exact ⟨rfl, Qd (by rw [h3]; first | done | kernel_rfl)⟩
  ·
   refine rn Qb [1, 4, 5, 7, 8, 9, 10, 11] [7] (pf 2 h3 p0) ?_
   exact ⟨rfl, Qd (by rw [h3]; first | done | kernel_rfl)⟩
  refine Qe (Qe (jn [(34, .b ((a0.2.1 == at_) && (((a0.1 == (6 : Int)) || (a0.1 == (7 : Int))) || (a0.1 == (5 : Int)))))] [] [] [] (a0.2.1 == at_) (fun h4 => ?_) (fun h4 => ?_) ?_))
  ·
   refine Xl ((a0.1 == (6 : Int)) || (a0.1 == (7 : Int))) (fun h5 => ?_) (fun h5 => ?_)
   ·
    refine ru Qb [(34, .b true)] [] [] [] (pt 3 h4 (pt 5 h5 p0)) ?_
    exact ⟨rfl, Qd (by rw [h4, h5]; first | done | kernel_rfl)⟩
   refine rn Qb [1, 4, 5, 7, 8, 9, 10, 11, 34] [7] (pt 3 h4 (pf 5 h5 p0)) ?_
   exact ⟨rfl, Qd (by rw [h4, h5]; first | done | kernel_rfl)⟩
  ·
   refine ru Qb [(34, .b false)] [] [] [] (pf 3 h4 p0) ?_
   exact ⟨rfl, Qd (by rw [h4]; first | done | kernel_rfl)⟩
  refine ck ((a0.2.1 == at_) && (((a0.1 == (6 : Int)) || (a0.1 == (7 : Int))) || (a0.1 == (5 : Int)))) (fun h6 => ?_) (fun h6 => ?_)
  ·
   have h6l : ((a0.2.1 == at_)) = true := M9 h6
   have h6ld := eq_of_beq h6l
   refine rn Qb [1, 4, 5, 7, 8, 9, 10, 11] [7] (p0) ?_
   refine Qe (mz [(5, .i (IntKind.i64.wrap (s0 + 1)))] [5, 34] [] [] ?_)
   refine jn [(43, .b ((a0.2.2.1 == at_) && ((a0.1 == (6 : Int)) || (a0.1 == (7 : Int)))))] [7, 8] [] [7] (a0.2.2.1 == at_) (fun h7 => ?_) (fun h7 => ?_) ?_
   ·
    refine rn Qb [1, 4, 5, 9, 10, 11, 43] [] (pt 3 h7 p0) ?_
    exact ⟨rfl, Qd (by rw [h7]; first | done | kernel_rfl)⟩
   ·
    refine rn Qb [1, 4, 5, 9, 10, 11, 43] [] (pf 3 h7 p0) ?_
    exact ⟨rfl, Qd (by rw [h7]; first | done | kernel_rfl)⟩
   refine ck ((a0.2.2.1 == at_) && ((a0.1 == (6 : Int)) || (a0.1 == (7 : Int)))) (fun h8 => ?_) (fun h8 => ?_)
   ·
    have h8l : ((a0.2.2.1 == at_)) = true := M9 h8
    have h8ld := eq_of_beq h8l
    refine rn Qb [1, 4, 5, 9, 10, 11] [] (p0) ?_
    refine qn Qb [1, 4, 5, 9, 10, 11] [] (pe 0 (Jn (Qp k0 (by omega))) p0) ?_
    exact Exists.intro _ (And.intro (Qd (by kernel_rfl)) (Qx hx0 (Q6 h6 (Q6 h8 (rfl))) hI0))
   refine Qh ?_
   refine rn Qb [1, 4, 5, 9, 10, 11] [] (pe 0 (Jn (Qp k0 (by omega))) p0) ?_
   exact Exists.intro _ (And.intro (Qd (by kernel_rfl)) (Qx hx0 (Q6 h6 (Qm h8 (rfl))) hI0))
  refine Qh ?_
  refine Qe (jn [(43, .b ((a0.2.2.1 == at_) && ((a0.1 == (6 : Int)) || (a0.1 == (7 : Int)))))] [7, 8, 34] [] [7] (a0.2.2.1 == at_) (fun h9 => ?_) (fun h9 => ?_) ?_)
  ·
   refine rn Qb [1, 4, 5, 9, 10, 11, 43] [] (pt 3 h9 p0) ?_
   exact ⟨rfl, Qd (by rw [h9]; first | done | kernel_rfl)⟩
  ·
   refine rn Qb [1, 4, 5, 9, 10, 11, 43] [] (pf 3 h9 p0) ?_
   exact ⟨rfl, Qd (by rw [h9]; first | done | kernel_rfl)⟩
  refine ck ((a0.2.2.1 == at_) && ((a0.1 == (6 : Int)) || (a0.1 == (7 : Int)))) (fun h10 => ?_) (fun h10 => ?_)
  ·
   have h10l : ((a0.2.2.1 == at_)) = true := M9 h10
   have h10ld := eq_of_beq h10l
   refine rn Qb [1, 4, 5, 9, 10, 11] [] (p0) ?_
   refine qn Qb [1, 4, 5, 9, 10, 11] [] (pe 0 (Jn (Qp k0 (by omega))) p0) ?_
   exact Exists.intro _ (And.intro (Qd (by kernel_rfl)) (Qx hx0 (Qm h6 (Q6 h10 (rfl))) hI0))
  refine Qh ?_
  refine rn Qb [1, 4, 5, 9, 10, 11] [] (pe 0 (Jn (Qp k0 (by omega))) p0) ?_
  exact Exists.intro _ (And.intro (Qd (by kernel_rfl)) (Qx hx0 (Qm h6 (Qm h10 (rfl))) hI0))
 ·
  refine su Qb [(12, .b false)] [] [] [] (pe 0 (Qo (decide_eq_false (p := ((k0 : Nat) : Int) < (q.length : Int)) (by omega))) p0) ?_
  refine Qe (ckF ?_)
  refine Q5 ?_
  exact Exists.intro _ (And.intro (Qd (by kernel_rfl)) (Xn hk0 (rfl) hI0))
 refine sn Qb [4] [] (p0) ?_
 refine Qg ?_
 exact pi [] (Wc hD0 (rfl))
def Y0 (q : (List X4)) (k0 : Nat) (a0 : X4) (_ : Unit) : Rd (Bool) (Unit) (Unit) := (bif ((!(Zf a0 ((k0 : Nat) : Int))) || (decide (((k0 : Nat) : Int) < ((q.length : Int) - 1)) && ((Jo q ((k0 : Nat) : Int)) != (1 : Int)))) then (.ret false) else (.next ()))
def Kr (_ : Nat) (_ : Unit) : Unit := ()
def Q4 (q : (List X4)) : Bool := (Out.on (Xp (Y0 q) Kr q 0 ()) (fun _ => (Ye (q.length : Int) 1 9)))
theorem W1 (q : (List X4)) : ACalls Tryz.prog 173 [.h q] (.b (Q4 q)) := by
 refine en Qb Tryz.func173 fun w0 F0 hG => ?_
 refine sn Qb [0, 2] [] (p0) ?_
 refine Qe (tn Qb [0, 2, 5, 6, 7] [] (pl 1 q p0) ?_)
 refine mz [(2, .b false), (5, .h q), (6, .i (q.length : Int)), (7, .i 0)] [] [] [] ?_
 refine wT 0 0 .sh q (fun hw1 hl2 => ?_)
 refine L3 (Y0 q) Kr q () (fun k0 _ => [(7, .i ((k0 : Nat) : Int))]) [7] (fun _ => []) [5, 6, 7] (Qd (by kernel_rfl)) (fun k0 s0 hk0 hI0 => ?_) (fun k0 s0 hk0 hI0 => ?_) (fun y0 hD0 => ?_)
 ·
  obtain ⟨a0, hx0⟩ := Xm (l := q) (i := k0) hk0
  refine sn Qb [0, 2, 5, 6, 7, 8] [] (pe 0 (Qo (decide_eq_true (p := ((k0 : Nat) : Int) < (q.length : Int)) (by omega))) p0) ?_
  refine Qe (ckT ?_)
  refine Qh ?_
  refine Qe (Qs ?_)
  refine tn Qb [0, 2, 3, 4, 5, 6, 7] [4] (pn 1 hx0 p0) ?_
  refine Qe (mz [(3, .i ((k0 : Nat) : Int)), (4, .p 4 0)] [] [(4, [.i a0.1, .i a0.2.1, .i a0.2.2.1, .s a0.2.2.2.1, .i a0.2.2.2.2.1, .i a0.2.2.2.2.2.1, .s a0.2.2.2.2.2.2])] [] ?_)
  refine jn [(28, .b ((!(Zf a0 ((k0 : Nat) : Int))) || (decide (((k0 : Nat) : Int) < ((q.length : Int) - 1)) && ((Jo q ((k0 : Nat) : Int)) != (1 : Int)))))] [3, 4] [] [4] (!(Zf a0 ((k0 : Nat) : Int))) (fun h3 => ?_) (fun h3 => ?_) ?_
  ·
   have h3n : (Zf a0 ((k0 : Nat) : Int)) = false := Vr h3
   refine rn Qb [0, 2, 5, 6, 7, 28] [] (pc 2 (cb h3n (C3 a0 ((k0 : Nat) : Int))) (pe 3 (show .b (!false) = .b true from rfl) p0)) ?_
   exact ⟨rfl, Qd (by rw [h3]; first | done | kernel_rfl)⟩
  ·
   have h3n : (Zf a0 ((k0 : Nat) : Int)) = true := Ze h3
   refine Xl (decide (((k0 : Nat) : Int) < ((q.length : Int) - 1))) (fun h4 => ?_) (fun h4 => ?_)
   ·
    have h4d := of_decide_eq_true h4
    refine rn Qb [0, 2, 5, 6, 7, 28] [] (pc 2 (cb h3n (C3 a0 ((k0 : Nat) : Int))) (pe 3 (show .b (!true) = .b false from rfl) (pl 7 q (pe 8 (Jn (IntWalk.i64_in ((q.length : Int) - 1) (by omega))) (pt 9 h4 (pc 13 (Ld q ((k0 : Nat) : Int)) p0)))))) ?_
    exact ⟨rfl, Qd (by rw [h3, h4]; first | done | kernel_rfl)⟩
   have h4d := of_decide_eq_false h4
   refine rn Qb [0, 2, 5, 6, 7, 28] [] (pc 2 (cb h3n (C3 a0 ((k0 : Nat) : Int))) (pe 3 (show .b (!true) = .b false from rfl) (pl 7 q (pe 8 (Jn (IntWalk.i64_in ((q.length : Int) - 1) (by omega))) (pf 9 h4 p0))))) ?_
   exact ⟨rfl, Qd (by rw [h3, h4]; first | done | kernel_rfl)⟩
  refine ck ((!(Zf a0 ((k0 : Nat) : Int))) || (decide (((k0 : Nat) : Int) < ((q.length : Int) - 1)) && ((Jo q ((k0 : Nat) : Int)) != (1 : Int)))) (fun h5 => ?_) (fun h5 => ?_)
  ·
   refine su Qb [] [28] [] [] (p0) ?_
   refine Qg ?_
   have hr6 : (Xp (Y0 q) Kr q 0 ()) = .ret false := Zx hx0 (Q6 h5 (rfl)) hI0
   exact pb [] (Iq hr6)
  refine Qh ?_
  refine rn Qb [0, 2, 5, 6, 7] [] (pe 0 (Jn (Qp k0 (by omega))) p0) ?_
  exact Exists.intro _ (And.intro (Qd (by kernel_rfl)) (Qx hx0 (Qm h5 (rfl)) hI0))
 ·
  refine sn Qb [0, 2, 5, 6, 7, 8] [] (pe 0 (Qo (decide_eq_false (p := ((k0 : Nat) : Int) < (q.length : Int)) (by omega))) p0) ?_
  refine Qe (ckF ?_)
  refine Q5 ?_
  exact Exists.intro _ (And.intro (Qd (by kernel_rfl)) (Xn hk0 (rfl) hI0))
 refine sn Qb [2] [] (pl 1 q (pc 2 (Jw (q.length : Int) 1 9) p0)) ?_
 refine Qg ?_
 exact pb [] (Wc hD0 (rfl))
def K2 (n : X4) (at_ : Int) : Bool := (bif (n.1 == (1 : Int)) then ((n.1 == 1) && ((n.2.1 == 0) && ((n.2.2.1 == 0) && ((n.2.2.2.1.toList == (⟨#[]⟩ : ByteArray).toList) && ((n.2.2.2.2.1 == 0) && ((n.2.2.2.2.2.1 == 0) && ((n.2.2.2.2.2.2.toList == (⟨#[]⟩ : ByteArray).toList) && true))))))) else (bif (n.1 == (2 : Int)) then ((Xs n.2.2.2.1) && ((n.1 == n.1) && ((n.2.1 == 0) && ((n.2.2.1 == 0) && ((n.2.2.2.1.toList == n.2.2.2.1.toList) && ((n.2.2.2.2.1 == 0) && ((n.2.2.2.2.2.1 == 0) && ((n.2.2.2.2.2.2.toList == (⟨#[]⟩ : ByteArray).toList) && true)))))))) else (bif (n.1 == (3 : Int)) then ((Xs n.2.2.2.1) && ((Jb n.2.2.2.2) && ((n.2.2.2.2.1 != (0 : Int)) && ((n.2.1 == (0 : Int)) && (n.2.2.1 == (0 : Int)))))) else (bif (n.1 == (4 : Int)) then ((Xs n.2.2.2.1) && ((Jb n.2.2.2.2) && ((n.2.2.2.2.1 == (1 : Int)) && ((n.2.1 == (0 : Int)) && (n.2.2.1 == (0 : Int)))))) else (bif (n.1 == (5 : Int)) then (((Xa n.2.1 0 (IntKind.i64.wrap (at_ - 1))) && decide (at_ > (0 : Int))) && ((n.2.2.1 == (0 : Int)) && ((n.2.2.2.1.toList == (⟨#[]⟩ : ByteArray).toList) && ((n.2.2.2.2.1 == 0) && ((n.2.2.2.2.2.1 == 0) && ((n.2.2.2.2.2.2.toList == (⟨#[]⟩ : ByteArray).toList) && true)))))) else (bif (bif (n.1 == (6 : Int)) then (n.1 == (6 : Int)) else (n.1 == (7 : Int))) then ((((Xa n.2.1 0 (IntKind.i64.wrap (at_ - 1))) && decide (at_ > (0 : Int))) && (Xa n.2.2.1 0 (IntKind.i64.wrap (at_ - 1)))) && ((n.2.2.2.1.toList == (⟨#[]⟩ : ByteArray).toList) && ((n.2.2.2.2.1 == 0) && ((n.2.2.2.2.2.1 == 0) && ((n.2.2.2.2.2.2.toList == (⟨#[]⟩ : ByteArray).toList) && true))))) else (bif (n.1 == (8 : Int)) then ((Ya n.2.2.2.1) && ((n.1 == n.1) && ((n.2.1 == 0) && ((n.2.2.1 == 0) && ((n.2.2.2.1.toList == n.2.2.2.1.toList) && ((n.2.2.2.2.1 == 0) && ((n.2.2.2.2.2.1 == 0) && ((n.2.2.2.2.2.2.toList == (⟨#[]⟩ : ByteArray).toList) && true)))))))) else (bif (n.1 == (9 : Int)) then ((Ya n.2.2.2.1) && ((n.1 == n.1) && ((n.2.1 == 0) && ((n.2.2.1 == 0) && ((n.2.2.2.1.toList == n.2.2.2.1.toList) && ((n.2.2.2.2.1 == 0) && ((n.2.2.2.2.2.1 == 0) && ((n.2.2.2.2.2.2.toList == (⟨#[]⟩ : ByteArray).toList) && true)))))))) else false))))))))
theorem C4 (n : X4) (at_ : Int) : ACalls Tryz.prog 179 [.a [.i n.1, .i n.2.1, .i n.2.2.1, .s n.2.2.2.1, .i n.2.2.2.2.1, .i n.2.2.2.2.2.1, .s n.2.2.2.2.2.2], .i at_] (.b (K2 n at_)) := by
 refine en Qb Tryz.func179 fun w0 F0 hG => ?_
 refine sn Qb [1, 2, 4] [2] (p0) ?_
 refine Qe (mz [(2, .p 2 0), (4, .b false)] [0] [(2, [.i n.1, .i n.2.1, .i n.2.2.1, .s n.2.2.2.1, .i n.2.2.2.2.1, .i n.2.2.2.2.2.1, .s n.2.2.2.2.2.2])] [] ?_)
 refine jn [(5, .b ((Xa n.2.1 0 (IntKind.i64.wrap (at_ - 1))) && decide (at_ > (0 : Int))))] [] [] [] (Xa n.2.1 0 (IntKind.i64.wrap (at_ - 1))) (fun h1 => ?_) (fun h1 => ?_) ?_
 ·
  refine rn Qb [1, 2, 4, 5] [2] (pc 4 (cb h1 (Zd n.2.1 0 (IntKind.i64.wrap (at_ - 1)))) p0) ?_
  exact ⟨rfl, Qd (by rw [h1]; first | done | kernel_rfl)⟩
 ·
  refine rn Qb [1, 2, 4, 5] [2] (pc 4 (cb h1 (Zd n.2.1 0 (IntKind.i64.wrap (at_ - 1)))) p0) ?_
  exact ⟨rfl, Qd (by rw [h1]; first | done | kernel_rfl)⟩
 refine Qe (jn [(6, .b (((Xa n.2.1 0 (IntKind.i64.wrap (at_ - 1))) && decide (at_ > (0 : Int))) && (Xa n.2.2.1 0 (IntKind.i64.wrap (at_ - 1)))))] [1] [] [] ((Xa n.2.1 0 (IntKind.i64.wrap (at_ - 1))) && decide (at_ > (0 : Int))) (fun h2 => ?_) (fun h2 => ?_) ?_)
 ·
  refine rn Qb [2, 4, 5, 6] [2] (pt 0 h2 (pc 6 (Zd n.2.2.1 0 (IntKind.i64.wrap (at_ - 1))) p0)) ?_
  exact ⟨rfl, Qd (by rw [h2]; first | done | kernel_rfl)⟩
 ·
  refine rn Qb [2, 4, 5, 6] [2] (pf 0 h2 p0) ?_
  exact ⟨rfl, Qd (by rw [h2]; first | done | kernel_rfl)⟩
 refine Qe (sn Qb [2, 4, 5, 6, 25] [2] (p0) ?_)
 refine Qs ?_
 refine tn Qb [2, 4, 5, 6, 25, 26] [2] (p0) ?_
 refine ck (n.1 == (1 : Int)) (fun h3 => ?_) (fun h3 => ?_)
 ·
  refine tu Qb [(4, .b ((n.1 == 1) && ((n.2.1 == 0) && ((n.2.2.1 == 0) && ((n.2.2.2.1.toList == (⟨#[]⟩ : ByteArray).toList) && ((n.2.2.2.2.1 == 0) && ((n.2.2.2.2.2.1 == 0) && ((n.2.2.2.2.2.2.toList == (⟨#[]⟩ : ByteArray).toList) && true))))))))] [2, 4, 5, 6] [] [2] (p0) ?_
  refine Qg ?_
  exact pb [] (Q6 h3 (rfl))
 refine tu Qb [(25, .i n.1), (31, .b (n.1 == (2 : Int)))] [] [] [] (p0) ?_
 refine ck (n.1 == (2 : Int)) (fun h4 => ?_) (fun h4 => ?_)
 ·
  refine Qe (jn [(4, .b ((Xs n.2.2.2.1) && ((n.1 == n.1) && ((n.2.1 == 0) && ((n.2.2.1 == 0) && ((n.2.2.2.1.toList == n.2.2.2.1.toList) && ((n.2.2.2.2.1 == 0) && ((n.2.2.2.2.2.1 == 0) && ((n.2.2.2.2.2.2.toList == (⟨#[]⟩ : ByteArray).toList) && true)))))))))] [2, 4, 5, 6, 25, 31] [] [2] (Xs n.2.2.2.1) (fun h5 => ?_) (fun h5 => ?_) ?_)
  ·
   refine rn Qb [4] [] (pc 2 (cb h5 (X1 n.2.2.2.1)) p0) ?_
   exact ⟨rfl, Qd (by rw [h5]; first | done | kernel_rfl)⟩
  ·
   refine rn Qb [4] [] (pc 2 (cb h5 (X1 n.2.2.2.1)) p0) ?_
   exact ⟨rfl, Qd (by rw [h5]; first | done | kernel_rfl)⟩
  refine Qg ?_
  exact pb [] (Qm h3 (Q6 h4 (rfl)))
 refine sn Qb [2, 4, 5, 6, 25, 45] [2] (p0) ?_
 refine ck (n.1 == (3 : Int)) (fun h6 => ?_) (fun h6 => ?_)
 ·
  refine Qe (mz [(45, .b (n.1 == (3 : Int)))] [31] [] [] ?_)
  refine jn [(4, .b ((Xs n.2.2.2.1) && ((Jb n.2.2.2.2) && ((n.2.2.2.2.1 != (0 : Int)) && ((n.2.1 == (0 : Int)) && (n.2.2.1 == (0 : Int)))))))] [2, 4, 5, 6, 25, 45] [] [2] (Xs n.2.2.2.1) (fun h7 => ?_) (fun h7 => ?_) ?_
  ·
   refine Xl (Jb n.2.2.2.2) (fun h8 => ?_) (fun h8 => ?_)
   ·
    refine Xl (n.2.2.2.2.1 != (0 : Int)) (fun h9 => ?_) (fun h9 => ?_)
    ·
     refine Xl (n.2.1 == (0 : Int)) (fun h10 => ?_) (fun h10 => ?_)
     ·
      refine rn Qb [4] [] (pc 2 (cb h7 (X1 n.2.2.2.1)) (pc 6 (cb h8 (Zy n.2.2.2.2)) (pt 12 h9 (pt 17 h10 p0)))) ?_
      exact ⟨rfl, Qd (by rw [h7, h8, h9, h10]; first | done | kernel_rfl)⟩
     refine rn Qb [4] [] (pc 2 (cb h7 (X1 n.2.2.2.1)) (pc 6 (cb h8 (Zy n.2.2.2.2)) (pt 12 h9 (pf 17 h10 p0)))) ?_
     exact ⟨rfl, Qd (by rw [h7, h8, h9, h10]; first | done | kernel_rfl)⟩
    refine rn Qb [4] [] (pc 2 (cb h7 (X1 n.2.2.2.1)) (pc 6 (cb h8 (Zy n.2.2.2.2)) (pf 12 h9 p0))) ?_
    exact ⟨rfl, Qd (by rw [h7, h8, h9]; first | done | kernel_rfl)⟩
   refine rn Qb [4] [] (pc 2 (cb h7 (X1 n.2.2.2.1)) (pc 6 (cb h8 (Zy n.2.2.2.2)) p0)) ?_
   exact ⟨rfl, Qd (by rw [h7, h8]; first | done | kernel_rfl)⟩
  ·
   refine rn Qb [4] [] (pc 2 (cb h7 (X1 n.2.2.2.1)) p0) ?_
   exact ⟨rfl, Qd (by rw [h7]; first | done | kernel_rfl)⟩
  refine Qg ?_
  exact pb [] (Qm h3 (Qm h4 (Q6 h6 (rfl))))
 refine tn Qb [2, 4, 5, 6, 25, 71] [2] (p0) ?_
 refine ck (n.1 == (4 : Int)) (fun h11 => ?_) (fun h11 => ?_)
 ·
  refine Qe (mz [(71, .b (n.1 == (4 : Int)))] [31] [] [] ?_)
  refine jn [(4, .b ((Xs n.2.2.2.1) && ((Jb n.2.2.2.2) && ((n.2.2.2.2.1 == (1 : Int)) && ((n.2.1 == (0 : Int)) && (n.2.2.1 == (0 : Int)))))))] [2, 4, 5, 6, 25, 71] [] [2] (Xs n.2.2.2.1) (fun h12 => ?_) (fun h12 => ?_) ?_
  ·
   refine Xl (Jb n.2.2.2.2) (fun h13 => ?_) (fun h13 => ?_)
   ·
    refine Xl (n.2.2.2.2.1 == (1 : Int)) (fun h14 => ?_) (fun h14 => ?_)
    ·
     refine Xl (n.2.1 == (0 : Int)) (fun h15 => ?_) (fun h15 => ?_)
     ·
      refine rn Qb [4] [] (pc 2 (cb h12 (X1 n.2.2.2.1)) (pc 6 (cb h13 (Zy n.2.2.2.2)) (pt 12 h14 (pt 17 h15 p0)))) ?_
      exact ⟨rfl, Qd (by rw [h12, h13, h14, h15]; first | done | kernel_rfl)⟩
     refine rn Qb [4] [] (pc 2 (cb h12 (X1 n.2.2.2.1)) (pc 6 (cb h13 (Zy n.2.2.2.2)) (pt 12 h14 (pf 17 h15 p0)))) ?_
     exact ⟨rfl, Qd (by rw [h12, h13, h14, h15]; first | done | kernel_rfl)⟩
    refine rn Qb [4] [] (pc 2 (cb h12 (X1 n.2.2.2.1)) (pc 6 (cb h13 (Zy n.2.2.2.2)) (pf 12 h14 p0))) ?_
    exact ⟨rfl, Qd (by rw [h12, h13, h14]; first | done | kernel_rfl)⟩
   refine rn Qb [4] [] (pc 2 (cb h12 (X1 n.2.2.2.1)) (pc 6 (cb h13 (Zy n.2.2.2.2)) p0)) ?_
   exact ⟨rfl, Qd (by rw [h12, h13]; first | done | kernel_rfl)⟩
  ·
   refine rn Qb [4] [] (pc 2 (cb h12 (X1 n.2.2.2.1)) p0) ?_
   exact ⟨rfl, Qd (by rw [h12]; first | done | kernel_rfl)⟩
  refine Qg ?_
  exact pb [] (Qm h3 (Qm h4 (Qm h6 (Q6 h11 (rfl)))))
 refine tu Qb [(97, .b (n.1 == (5 : Int)))] [31] [] [] (p0) ?_
 refine ck (n.1 == (5 : Int)) (fun h16 => ?_) (fun h16 => ?_)
 ·
  refine Qe (jn [(4, .b (((Xa n.2.1 0 (IntKind.i64.wrap (at_ - 1))) && decide (at_ > (0 : Int))) && ((n.2.2.1 == (0 : Int)) && ((n.2.2.2.1.toList == (⟨#[]⟩ : ByteArray).toList) && ((n.2.2.2.2.1 == 0) && ((n.2.2.2.2.2.1 == 0) && ((n.2.2.2.2.2.2.toList == (⟨#[]⟩ : ByteArray).toList) && true)))))))] [2, 4, 5, 6, 25, 97] [] [2] ((Xa n.2.1 0 (IntKind.i64.wrap (at_ - 1))) && decide (at_ > (0 : Int))) (fun h17 => ?_) (fun h17 => ?_) ?_)
  ·
   refine Xl (n.2.2.1 == (0 : Int)) (fun h18 => ?_) (fun h18 => ?_)
   ·
    refine Xl (n.2.2.2.1.toList == (⟨#[]⟩ : ByteArray).toList) (fun h19 => ?_) (fun h19 => ?_)
    ·
     refine rn Qb [4] [] (pt 0 h17 (pt 4 h18 (pt 9 h19 p0))) ?_
     exact ⟨rfl, Qd (by rw [h17, h18, h19]; first | done | kernel_rfl)⟩
    refine rn Qb [4] [] (pt 0 h17 (pt 4 h18 (pf 9 h19 p0))) ?_
    exact ⟨rfl, Qd (by rw [h17, h18, h19]; first | done | kernel_rfl)⟩
   refine rn Qb [4] [] (pt 0 h17 (pf 4 h18 p0)) ?_
   exact ⟨rfl, Qd (by rw [h17, h18]; first | done | kernel_rfl)⟩
  ·
   refine rn Qb [4] [] (pf 0 h17 p0) ?_
   exact ⟨rfl, Qd (by rw [h17]; first | done | kernel_rfl)⟩
  refine Qg ?_
  exact pb [] (Qm h3 (Qm h4 (Qm h6 (Qm h11 (Q6 h16 (rfl))))))
 refine Qe (sn Qb [2, 4, 6, 25, 116] [2] (p0) ?_)
 refine mz [(116, .b (n.1 == (6 : Int)))] [5, 97] [] [] ?_
 refine jn [(116, .b (bif (n.1 == (6 : Int)) then (n.1 == (6 : Int)) else (n.1 == (7 : Int))))] [116] [] [] (n.1 == (6 : Int)) (fun h20 => ?_) (fun h20 => ?_) ?_
 ·
  refine ckt h20 ?_
  refine Qh ?_
  exact ⟨rfl, Qd (by rw [h20]; first | done | kernel_rfl)⟩
 ·
  refine ckf h20 ?_
  refine rn Qb [2, 4, 6, 25, 116] [2] (p0) ?_
  exact ⟨rfl, Qd (by rw [h20]; first | done | kernel_rfl)⟩
 refine ck (bif (n.1 == (6 : Int)) then (n.1 == (6 : Int)) else (n.1 == (7 : Int))) (fun h21 => ?_) (fun h21 => ?_)
 ·
  refine Qe (jn [(4, .b ((((Xa n.2.1 0 (IntKind.i64.wrap (at_ - 1))) && decide (at_ > (0 : Int))) && (Xa n.2.2.1 0 (IntKind.i64.wrap (at_ - 1)))) && ((n.2.2.2.1.toList == (⟨#[]⟩ : ByteArray).toList) && ((n.2.2.2.2.1 == 0) && ((n.2.2.2.2.2.1 == 0) && ((n.2.2.2.2.2.2.toList == (⟨#[]⟩ : ByteArray).toList) && true))))))] [2, 4, 6, 25, 116] [] [2] (((Xa n.2.1 0 (IntKind.i64.wrap (at_ - 1))) && decide (at_ > (0 : Int))) && (Xa n.2.2.1 0 (IntKind.i64.wrap (at_ - 1)))) (fun h22 => ?_) (fun h22 => ?_) ?_)
  ·
   refine Xl (n.2.2.2.1.toList == (⟨#[]⟩ : ByteArray).toList) (fun h23 => ?_) (fun h23 => ?_)
   ·
    refine rn Qb [4] [] (pt 0 h22 (pt 4 h23 p0)) ?_
    exact ⟨rfl, Qd (by rw [h22, h23]; first | done | kernel_rfl)⟩
   refine rn Qb [4] [] (pt 0 h22 (pf 4 h23 p0)) ?_
   exact ⟨rfl, Qd (by rw [h22, h23]; first | done | kernel_rfl)⟩
  ·
   refine rn Qb [4] [] (pf 0 h22 p0) ?_
   exact ⟨rfl, Qd (by rw [h22]; first | done | kernel_rfl)⟩
  refine Qg ?_
  exact pb [] (Qm h3 (Qm h4 (Qm h6 (Qm h11 (Qm h16 (Q6 h21 (rfl)))))))
 refine Qe (sn Qb [2, 4, 25, 131] [2] (p0) ?_)
 refine ck (n.1 == (8 : Int)) (fun h24 => ?_) (fun h24 => ?_)
 ·
  refine Qh ?_
  refine ckt h24 ?_
  refine Qe (mz [(131, .b (n.1 == (8 : Int)))] [6, 116] [] [] ?_)
  refine jn [(4, .b ((Ya n.2.2.2.1) && ((n.1 == n.1) && ((n.2.1 == 0) && ((n.2.2.1 == 0) && ((n.2.2.2.1.toList == n.2.2.2.1.toList) && ((n.2.2.2.2.1 == 0) && ((n.2.2.2.2.2.1 == 0) && ((n.2.2.2.2.2.2.toList == (⟨#[]⟩ : ByteArray).toList) && true)))))))))] [2, 4, 25, 131] [] [2] (Ya n.2.2.2.1) (fun h25 => ?_) (fun h25 => ?_) ?_
  ·
   refine rn Qb [4] [] (pc 2 (cb h25 (Z3 n.2.2.2.1)) p0) ?_
   exact ⟨rfl, Qd (by rw [h25]; first | done | kernel_rfl)⟩
  ·
   refine rn Qb [4] [] (pc 2 (cb h25 (Z3 n.2.2.2.1)) p0) ?_
   exact ⟨rfl, Qd (by rw [h25]; first | done | kernel_rfl)⟩
  refine Qg ?_
  exact pb [] (Qm h3 (Qm h4 (Qm h6 (Qm h11 (Qm h16 (Qm h21 (Q6 h24 (rfl))))))))
 refine qn Qb [2, 4, 131] [2] (p0) ?_
 refine ck (n.1 == (9 : Int)) (fun h26 => ?_) (fun h26 => ?_)
 ·
  refine Qe (mz [(131, .b (n.1 == (9 : Int)))] [6, 25, 116] [] [] ?_)
  refine jn [(4, .b ((Ya n.2.2.2.1) && ((n.1 == n.1) && ((n.2.1 == 0) && ((n.2.2.1 == 0) && ((n.2.2.2.1.toList == n.2.2.2.1.toList) && ((n.2.2.2.2.1 == 0) && ((n.2.2.2.2.2.1 == 0) && ((n.2.2.2.2.2.2.toList == (⟨#[]⟩ : ByteArray).toList) && true)))))))))] [2, 4, 131] [] [2] (Ya n.2.2.2.1) (fun h27 => ?_) (fun h27 => ?_) ?_
  ·
   refine rn Qb [4] [] (pc 2 (cb h27 (Z3 n.2.2.2.1)) p0) ?_
   exact ⟨rfl, Qd (by rw [h27]; first | done | kernel_rfl)⟩
  ·
   refine rn Qb [4] [] (pc 2 (cb h27 (Z3 n.2.2.2.1)) p0) ?_
   exact ⟨rfl, Qd (by rw [h27]; first | done | kernel_rfl)⟩
  refine Qg ?_
  exact pb [] (Qm h3 (Qm h4 (Qm h6 (Qm h11 (Qm h16 (Qm h21 (Qm h24 (Q6 h26 (rfl)))))))))
 refine Qh ?_
 refine tu Qb [] [2, 6, 25, 116] [] [2] (p0) ?_
 refine Qg ?_
 exact pb [] (Qm h3 (Qm h4 (Qm h6 (Qm h11 (Qm h16 (Qm h21 (Qm h24 (Qm h26 (rfl)))))))))
def Wt (at_ : Int) (_ : Nat) (a0 : X4) (s0 : Int) : Rd (Int) (Int) (Int) := (bif (bif ((a0.1 == (6 : Int)) || (a0.1 == (7 : Int))) then (a0.2.1 == at_) else ((a0.1 == (5 : Int)) && (a0.2.1 == at_))) then (bif (((a0.1 == (6 : Int)) || (a0.1 == (7 : Int))) && (a0.2.2.1 == at_)) then (.next (IntKind.i64.wrap (IntKind.i64.wrap (s0 + 1) + 1))) else (.next (IntKind.i64.wrap (s0 + 1)))) else (bif (((a0.1 == (6 : Int)) || (a0.1 == (7 : Int))) && (a0.2.2.1 == at_)) then (.next (IntKind.i64.wrap (s0 + 1))) else (.next s0)))
def U6 (_ : Nat) (s0 : Int) : Int := s0
def Vc (q : (List X4)) (at_ : Int) : Int := (Out.on (Xp (Wt at_) U6 q 0 0) (fun y0 => y0))
theorem Le (q : (List X4)) (at_ : Int) : ACalls Tryz.prog 180 [.h q, .i at_] (.i (Vc q at_)) := by
 refine en Qb Tryz.func180 fun w0 F0 hG => ?_
 refine sn Qb [0, 1, 4] [] (p0) ?_
 refine tn Qb [0, 1, 4, 5] [] (p0) ?_
 refine Qe (tu Qb [(4, .i 0), (5, .i 0), (6, .i 0)] [] [] [] (p0) ?_)
 refine wT 0 0 .sh q (fun hw1 hl2 => ?_)
 refine L3 (Wt at_) U6 q 0 (fun k0 s0 => [(5, .i s0), (6, .i ((k0 : Nat) : Int))]) [5, 6] (fun y0 => [(5, .i y0)]) [0, 1, 5, 6] (Qd (by kernel_rfl)) (fun k0 s0 hk0 hI0 => ?_) (fun k0 s0 hk0 hI0 => ?_) (fun y0 hD0 => ?_)
 ·
  obtain ⟨a0, hx0⟩ := Xm (l := q) (i := k0) hk0
  refine Qe (sn Qb [0, 1, 4, 5, 6, 11] [] (pl 2 q (pe 3 (Qo (decide_eq_true (p := ((k0 : Nat) : Int) < (q.length : Int)) (by omega))) p0)) ?_)
  refine ckT ?_
  refine Qh ?_
  refine Qe (Qs ?_)
  refine Qe (mz [(11, .b true)] [] [] [] ?_)
  refine jn [(7, .b ((a0.1 == (6 : Int)) || (a0.1 == (7 : Int))))] [11] [] [] (a0.1 == (6 : Int)) (fun h3 => ?_) (fun h3 => ?_) ?_
  ·
   refine rn Qb [0, 1, 4, 5, 6, 7] [] (pn 2 hx0 (pt 5 h3 p0)) ?_
   exact ⟨rfl, Qd (by rw [h3]; first | done | kernel_rfl)⟩
  ·
   refine rn Qb [0, 1, 4, 5, 6, 7] [] (pn 2 hx0 (pf 5 h3 (pn 9 hx0 p0))) ?_
   exact ⟨rfl, Qd (by rw [h3]; first | done | kernel_rfl)⟩
  refine Qe (Qe (jn [(45, .b (bif ((a0.1 == (6 : Int)) || (a0.1 == (7 : Int))) then (a0.2.1 == at_) else ((a0.1 == (5 : Int)) && (a0.2.1 == at_))))] [] [] [] ((a0.1 == (6 : Int)) || (a0.1 == (7 : Int))) (fun h4 => ?_) (fun h4 => ?_) ?_))
  ·
   refine rn Qb [0, 1, 4, 5, 6, 7, 45] [] (pt 0 h4 (pn 12 hx0 p0)) ?_
   exact ⟨rfl, Qd (by rw [h4]; first | done | kernel_rfl)⟩
  ·
   refine Xl (a0.1 == (5 : Int)) (fun h5 => ?_) (fun h5 => ?_)
   ·
    refine rn Qb [0, 1, 4, 5, 6, 7, 45] [] (pf 0 h4 (pn 4 hx0 (pt 7 h5 (pn 12 hx0 p0)))) ?_
    exact ⟨rfl, Qd (by rw [h4, h5]; first | done | kernel_rfl)⟩
   refine ru Qb [(45, .b false)] [] [] [] (pf 0 h4 (pn 4 hx0 (pf 7 h5 p0))) ?_
   exact ⟨rfl, Qd (by rw [h4, h5]; first | done | kernel_rfl)⟩
  refine ck (bif ((a0.1 == (6 : Int)) || (a0.1 == (7 : Int))) then (a0.2.1 == at_) else ((a0.1 == (5 : Int)) && (a0.2.1 == at_))) (fun h6 => ?_) (fun h6 => ?_)
  ·
   refine rn Qb [0, 1, 4, 5, 6, 7] [] (p0) ?_
   refine Qe (mz [(5, .i (IntKind.i64.wrap (s0 + 1)))] [5, 45] [] [] ?_)
   refine jn [(57, .b (((a0.1 == (6 : Int)) || (a0.1 == (7 : Int))) && (a0.2.2.1 == at_)))] [7] [] [] ((a0.1 == (6 : Int)) || (a0.1 == (7 : Int))) (fun h7 => ?_) (fun h7 => ?_) ?_
   ·
    refine rn Qb [0, 1, 4, 5, 6, 57] [] (pt 0 h7 (pn 4 hx0 p0)) ?_
    exact ⟨rfl, Qd (by rw [h7]; first | done | kernel_rfl)⟩
   ·
    refine rn Qb [0, 1, 4, 5, 6, 57] [] (pf 0 h7 p0) ?_
    exact ⟨rfl, Qd (by rw [h7]; first | done | kernel_rfl)⟩
   refine ck (((a0.1 == (6 : Int)) || (a0.1 == (7 : Int))) && (a0.2.2.1 == at_)) (fun h8 => ?_) (fun h8 => ?_)
   ·
    have h8r : ((a0.2.2.1 == at_)) = true := Pv h8
    have h8rd := eq_of_beq h8r
    refine rn Qb [0, 1, 4, 5, 6] [] (p0) ?_
    refine qn Qb [0, 1, 4, 5, 6] [] (pe 1 (Jn (Qp k0 (by omega))) p0) ?_
    exact Exists.intro _ (And.intro (Qd (by kernel_rfl)) (Qx hx0 (Q6 h6 (Q6 h8 (rfl))) hI0))
   refine Qh ?_
   refine rn Qb [0, 1, 4, 5, 6] [] (pe 1 (Jn (Qp k0 (by omega))) p0) ?_
   exact Exists.intro _ (And.intro (Qd (by kernel_rfl)) (Qx hx0 (Q6 h6 (Qm h8 (rfl))) hI0))
  refine Qh ?_
  refine Qe (jn [(57, .b (((a0.1 == (6 : Int)) || (a0.1 == (7 : Int))) && (a0.2.2.1 == at_)))] [7, 45] [] [] ((a0.1 == (6 : Int)) || (a0.1 == (7 : Int))) (fun h9 => ?_) (fun h9 => ?_) ?_)
  ·
   refine rn Qb [0, 1, 4, 5, 6, 57] [] (pt 0 h9 (pn 4 hx0 p0)) ?_
   exact ⟨rfl, Qd (by rw [h9]; first | done | kernel_rfl)⟩
  ·
   refine rn Qb [0, 1, 4, 5, 6, 57] [] (pf 0 h9 p0) ?_
   exact ⟨rfl, Qd (by rw [h9]; first | done | kernel_rfl)⟩
  refine ck (((a0.1 == (6 : Int)) || (a0.1 == (7 : Int))) && (a0.2.2.1 == at_)) (fun h10 => ?_) (fun h10 => ?_)
  ·
   have h10r : ((a0.2.2.1 == at_)) = true := Pv h10
   have h10rd := eq_of_beq h10r
   refine rn Qb [0, 1, 4, 5, 6] [] (p0) ?_
   refine qn Qb [0, 1, 4, 5, 6] [] (pe 1 (Jn (Qp k0 (by omega))) p0) ?_
   exact Exists.intro _ (And.intro (Qd (by kernel_rfl)) (Qx hx0 (Qm h6 (Q6 h10 (rfl))) hI0))
  refine Qh ?_
  refine rn Qb [0, 1, 4, 5, 6] [] (pe 1 (Jn (Qp k0 (by omega))) p0) ?_
  exact Exists.intro _ (And.intro (Qd (by kernel_rfl)) (Qx hx0 (Qm h6 (Qm h10 (rfl))) hI0))
 ·
  refine Qe (sn Qb [0, 1, 4, 5, 6, 11] [] (pl 2 q (pe 3 (Qo (decide_eq_false (p := ((k0 : Nat) : Int) < (q.length : Int)) (by omega))) p0)) ?_)
  refine ckF ?_
  refine Q5 ?_
  exact Exists.intro _ (And.intro (Qd (by kernel_rfl)) (Xn hk0 (rfl) hI0))
 refine sn Qb [4] [] (p0) ?_
 refine Qg ?_
 exact pi [] (Wc hD0 (rfl))
def Wm (q : (List X4)) (k0 : Nat) (a0 : X4) (_ : Unit) : Rd (Bool) (Unit) (Unit) := (bif ((!(K2 a0 ((k0 : Nat) : Int))) || (decide (((k0 : Nat) : Int) < ((q.length : Int) - 1)) && ((Vc q ((k0 : Nat) : Int)) != (1 : Int)))) then (.ret false) else (.next ()))
def Ut (_ : Nat) (_ : Unit) : Unit := ()
def Ym (q : (List X4)) : Bool := (Out.on (Xp (Wm q) Ut q 0 ()) (fun _ => (Xa (q.length : Int) 1 9)))
theorem Vx (q : (List X4)) : ACalls Tryz.prog 167 [.h q] (.b (Ym q)) := by
 refine en Qb Tryz.func167 fun w0 F0 hG => ?_
 refine sn Qb [0, 2] [] (p0) ?_
 refine Qe (tn Qb [0, 2, 3] [] (p0) ?_)
 refine mz [(2, .b false), (3, .i 0)] [] [] [] ?_
 refine wT 0 0 .sh q (fun hw1 hl2 => ?_)
 refine L3 (Wm q) Ut q () (fun k0 _ => [(3, .i ((k0 : Nat) : Int))]) [3] (fun _ => []) [3] (Qd (by kernel_rfl)) (fun k0 s0 hk0 hI0 => ?_) (fun k0 s0 hk0 hI0 => ?_) (fun y0 hD0 => ?_)
 ·
  obtain ⟨a0, hx0⟩ := Xm (l := q) (i := k0) hk0
  refine Qe (sn Qb [0, 2, 3, 7] [] (pl 2 q (pe 3 (Qo (decide_eq_true (p := ((k0 : Nat) : Int) < (q.length : Int)) (by omega))) p0)) ?_)
  refine ckT ?_
  refine Qh ?_
  refine Qe (Qs ?_)
  refine Qe (mz [(7, .b true)] [] [] [] ?_)
  refine jn [(29, .b ((!(K2 a0 ((k0 : Nat) : Int))) || (decide (((k0 : Nat) : Int) < ((q.length : Int) - 1)) && ((Vc q ((k0 : Nat) : Int)) != (1 : Int)))))] [7] [] [] (!(K2 a0 ((k0 : Nat) : Int))) (fun h3 => ?_) (fun h3 => ?_) ?_
  ·
   have h3n : (K2 a0 ((k0 : Nat) : Int)) = false := Vr h3
   refine rn Qb [0, 2, 3, 29] [] (pn 2 hx0 (pc 5 (cb h3n (C4 a0 ((k0 : Nat) : Int))) (pe 6 (show .b (!false) = .b true from rfl) p0))) ?_
   exact ⟨rfl, Qd (by rw [h3]; first | done | kernel_rfl)⟩
  ·
   have h3n : (K2 a0 ((k0 : Nat) : Int)) = true := Ze h3
   refine Xl (decide (((k0 : Nat) : Int) < ((q.length : Int) - 1))) (fun h4 => ?_) (fun h4 => ?_)
   ·
    have h4d := of_decide_eq_true h4
    refine rn Qb [0, 2, 3, 29] [] (pn 2 hx0 (pc 5 (cb h3n (C4 a0 ((k0 : Nat) : Int))) (pe 6 (show .b (!true) = .b false from rfl) (pl 10 q (pe 11 (Jn (IntWalk.i64_in ((q.length : Int) - 1) (by omega))) (pt 12 h4 (pc 16 (Le q ((k0 : Nat) : Int)) p0))))))) ?_
    exact ⟨rfl, Qd (by rw [h3, h4]; first | done | kernel_rfl)⟩
   have h4d := of_decide_eq_false h4
   refine rn Qb [0, 2, 3, 29] [] (pn 2 hx0 (pc 5 (cb h3n (C4 a0 ((k0 : Nat) : Int))) (pe 6 (show .b (!true) = .b false from rfl) (pl 10 q (pe 11 (Jn (IntWalk.i64_in ((q.length : Int) - 1) (by omega))) (pf 12 h4 p0)))))) ?_
   exact ⟨rfl, Qd (by rw [h3, h4]; first | done | kernel_rfl)⟩
  refine ck ((!(K2 a0 ((k0 : Nat) : Int))) || (decide (((k0 : Nat) : Int) < ((q.length : Int) - 1)) && ((Vc q ((k0 : Nat) : Int)) != (1 : Int)))) (fun h5 => ?_) (fun h5 => ?_)
  ·
   refine sn Qb [0, 2, 3] [] (p0) ?_
   refine Qg ?_
   have hr6 : (Xp (Wm q) Ut q 0 ()) = .ret false := Zx hx0 (Q6 h5 (rfl)) hI0
   exact pb [] (Iq hr6)
  refine Qh ?_
  refine rn Qb [0, 2, 3] [] (pe 1 (Jn (Qp k0 (by omega))) p0) ?_
  exact Exists.intro _ (And.intro (Qd (by kernel_rfl)) (Qx hx0 (Qm h5 (rfl)) hI0))
 ·
  refine Qe (sn Qb [0, 2, 3, 7] [] (pl 2 q (pe 3 (Qo (decide_eq_false (p := ((k0 : Nat) : Int) < (q.length : Int)) (by omega))) p0)) ?_)
  refine ckF ?_
  refine Q5 ?_
  exact Exists.intro _ (And.intro (Qd (by kernel_rfl)) (Xn hk0 (rfl) hI0))
 refine sn Qb [2] [] (pl 1 q (pc 2 (Zd (q.length : Int) 1 9) p0)) ?_
 refine Qg ?_
 exact pb [] (Wc hD0 (rfl))
end Go.Proofs.YtkbfhiamdcoieaaGreatDoor
namespace Go.Proofs.YtkbfhiamdcoieaaGreatDoor
open Go.RowKit
theorem VH (a b c : Int) : Ye a b c = Xa a b c := rfl
theorem L5 {a b c : Int} : Ye a b c = true ↔ b ≤ a ∧ a ≤ c := by simp [Ye]
theorem E8 {a b c : Int} : Xa a b c = true ↔ b ≤ a ∧ a ≤ c := by simp [Xa]
theorem GS (s : ByteArray) : Yz s = Ya s := rfl
theorem BX (s : ByteArray) : Yi s = Xs s := by
  unfold Yi Xs C2
  by_cases h : s.size = 1
  · simp only [h, Int.toNat_natCast, Wd, Ud]
    by_cases h1 : H0 s 0 < 97 <;> by_cases h2 : H0 s 0 > 122 <;> simp [h1, h2, Out.on, Xa, Uz] <;> omega
  have h1 : ((s.size : Int) == 1) = false := by simpa using fun e : (s.size : Int) = 1 => h (by omega)
  have h2 : Xa (s.size : Int) 1 1 = false := by simp [Xa]; omega
  rw [h1, h2, Bool.false_and]
  cases hf : Wd (Ud s) Uz (Int.toNat (s.size : Int)) 0 () with
  | brk t => rfl
  | ret r =>
    have key : ∀ n k, ∀ r, Wd (Ud s) Uz n k () = .ret r → r = false := by
      intro n
      induction n with
      | zero => intro k r h; simp [Wd] at h
      | succ n ih =>
        intro k r h
        simp only [Wd, Ud] at h
        cases hc : (decide (H0 s ((k : Nat) : Int) < (97 : Int)) || decide (H0 s ((k : Nat) : Int) > (122 : Int))) with
        | true => rw [hc] at h; simp only [cond_true] at h; cases h; rfl
        | false => rw [hc] at h; exact ih _ _ h
    exact (key _ _ _ hf).symm
theorem GT (v : Kg) : Kl v = Jb v := rfl
theorem NZ (n : X4) (k : Int) : Zf n k = K2 n k := by
  unfold Zf K2
  rw [BX, GT, GS]
  simp only [VH]
  by_cases h1 : n.1 = 1
  · simp [h1]
  by_cases h2 : n.1 = 2
  · simp [h1, h2, Bool.and_comm]
  by_cases h3 : n.1 = 3
  · simp [h1, h2, h3]; ac_rfl
  by_cases h4 : n.1 = 4
  · simp [h1, h2, h3, h4]; cases h : (n.2.2.2.2.1 == 1) <;> simp_all <;> ac_rfl
  by_cases h5 : n.1 = 5
  · simp [h1, h2, h3, h4, h5]; ac_rfl
  by_cases h6 : n.1 = 6
  · simp [h1, h2, h3, h4, h5, h6]; ac_rfl
  by_cases h7 : n.1 = 7
  · simp [h1, h2, h3, h4, h5, h6, h7]; ac_rfl
  by_cases h8 : n.1 = 8
  · simp [h1, h2, h3, h4, h5, h6, h7, h8, Bool.and_comm]
  by_cases h9 : n.1 = 9
  · simp [h1, h2, h3, h4, h5, h6, h7, h8, h9, Bool.and_comm]
  simp only [beq_eq_false_iff_ne.2 h1, beq_eq_false_iff_ne.2 h2, beq_eq_false_iff_ne.2 h3, beq_eq_false_iff_ne.2 h4, beq_eq_false_iff_ne.2 h5, beq_eq_false_iff_ne.2 h6, beq_eq_false_iff_ne.2 h7, beq_eq_false_iff_ne.2 h8, beq_eq_false_iff_ne.2 h9, cond_false]
theorem TN (q : List X4) (k : Int) : Jo q k = Vc q k := by
  unfold Jo Vc
  rw [B0 (f := Jx k) (g := Wt k) (e := Ws) (e' := U6) (fun i a s => by
    unfold Jx Wt
    cases (a.2.1 == k) <;> cases (a.2.2.1 == k) <;> cases (a.1 == 6) <;> cases (a.1 == 7) <;> cases (a.1 == 5) <;> rfl) (fun _ _ => rfl)]
theorem OA (q : List X4) : Q4 q = Ym q := by
  unfold Q4 Ym
  rw [B0 (f := Y0 q) (g := Wm q) (e := Kr) (e' := Ut) (fun i a s => by
    unfold Y0 Wm
    rw [NZ, TN]) (fun _ _ => rfl)]
  rfl
theorem Na {q : List X4} (h : Ym q = true) : Q4 q = true := (OA q).trans h
theorem GU {q : List X4} (h : Q4 q = true) : (∃ t, Xp (Y0 q) Kr q 0 () = .brk t) ∧ Ye (q.length : Int) 1 9 = true := by
  unfold Q4 at h
  cases hf : Xp (Y0 q) Kr q 0 () with
  | brk t => rw [hf] at h; exact ⟨⟨t, rfl⟩, h⟩
  | ret r =>
    rw [hf] at h
    obtain rfl : r = true := h
    exfalso
    have key : ∀ (l : List X4) k, Xp (Y0 q) Kr l k () ≠ .ret true := by
      intro l
      induction l with
      | nil => intro k h; simp [Xp] at h
      | cons a l ih =>
        intro k h
        simp only [Xp] at h
        unfold Y0 at h
        split at h
        · rename_i hf; exact ih _ h
        · cases h
        rename_i r hf; cases h; revert hf; generalize (_ || _ : Bool) = c; cases c <;> simp
    exact key _ _ hf
theorem Tg {q : List X4} (h : Q4 q = true) : 1 ≤ q.length ∧ q.length ≤ 9 := by
  have := L5.1 (GU h).2
  omega
theorem HP {q : List X4} (h : Q4 q = true) {i : Nat} {n : X4} (hi : q[i]? = some n) : Zf n (i : Int) = true := by
  obtain ⟨⟨t, ht⟩, _⟩ := GU h
  have := Od (fun k a t => by unfold Y0; generalize (_ || _ : Bool) = c; cases c <;> simp) ht i n hi
  unfold Y0 at this
  rw [Nat.zero_add] at this
  cases hn : Zf n (i : Int) with
  | true => rfl
  | false => rw [hn] at this; simp at this
theorem TO {n : X4} {k : Int} (h : Zf n k = true) (hk : 0 ≤ k ∧ k < 4611686018427387904) : (n.1 = 5 ∨ n.1 = 6 ∨ n.1 = 7 → 0 ≤ n.2.1 ∧ n.2.1 < k) ∧ (n.1 = 6 ∨ n.1 = 7 → 0 ≤ n.2.2.1 ∧ n.2.2.1 < k) := by
  have hw : IntKind.i64.wrap (k - 1) = k - 1 := IntWalk.i64_in _ (by omega)
  unfold Zf at h
  rw [hw] at h
  refine ⟨fun h5 => ?_, fun h5 => ?_⟩
  · rcases h5 with h5 | h5 | h5 <;> (simp [h5, Ye] at h; omega)
  rcases h5 with h5 | h5 <;> (simp [h5, Ye] at h; omega)
theorem D0 {q : List X4} (h : Q4 q = true) {k : Int} (ha : 0 ≤ k) (hb : k < (q.length : Int)) :
    ((nth q (Int.toNat k)).1 = 5 ∨ (nth q (Int.toNat k)).1 = 6 ∨ (nth q (Int.toNat k)).1 = 7 → 0 ≤ (nth q (Int.toNat k)).2.1 ∧ (nth q (Int.toNat k)).2.1 < k) ∧ ((nth q (Int.toNat k)).1 = 6 ∨ (nth q (Int.toNat k)).1 = 7 → 0 ≤ (nth q (Int.toNat k)).2.2.1 ∧ (nth q (Int.toNat k)).2.2.1 < k) := by
  have hi : q[Int.toNat k]? = some (nth q (Int.toNat k)) := K9 (by omega)
  have := HP h hi
  rw [Int.toNat_of_nonneg ha] at this
  exact TO this ⟨ha, by have := (Tg h).2; omega⟩
section
variable {q : List X4} {k : Int} (h : Q4 q = true) (ha : 0 ≤ k) (hb : k < (q.length : Int))
include h ha hb
theorem RD (h5 : ((nth q (Int.toNat k)).1 == (5 : Int)) = true) : 0 ≤ (nth q (Int.toNat k)).2.1 ∧ (nth q (Int.toNat k)).2.1 < k := (D0 h ha hb).1 (.inl (eq_of_beq h5))
theorem BY (h5 : ((nth q (Int.toNat k)).1 == (6 : Int)) = true) : 0 ≤ (nth q (Int.toNat k)).2.1 ∧ (nth q (Int.toNat k)).2.1 < k := (D0 h ha hb).1 (.inr (.inl (eq_of_beq h5)))
theorem DY (h5 : ((nth q (Int.toNat k)).1 == (7 : Int)) = true) : 0 ≤ (nth q (Int.toNat k)).2.1 ∧ (nth q (Int.toNat k)).2.1 < k := (D0 h ha hb).1 (.inr (.inr (eq_of_beq h5)))
theorem RE (h5 : ((nth q (Int.toNat k)).1 == (6 : Int)) = true) : 0 ≤ (nth q (Int.toNat k)).2.2.1 ∧ (nth q (Int.toNat k)).2.2.1 < k := (D0 h ha hb).2 (.inl (eq_of_beq h5))
theorem TP (h5 : ((nth q (Int.toNat k)).1 == (7 : Int)) = true) : 0 ≤ (nth q (Int.toNat k)).2.2.1 ∧ (nth q (Int.toNat k)).2.2.1 < k := (D0 h ha hb).2 (.inr (eq_of_beq h5))
theorem RF (h5 : (((nth q (Int.toNat k)).1 == (6 : Int)) || ((nth q (Int.toNat k)).1 == (7 : Int))) = true) : (0 ≤ (nth q (Int.toNat k)).2.1 ∧ (nth q (Int.toNat k)).2.1 < k) ∧ (0 ≤ (nth q (Int.toNat k)).2.2.1 ∧ (nth q (Int.toNat k)).2.2.1 < k) := by
  have h6 : (nth q (Int.toNat k)).1 = 6 ∨ (nth q (Int.toNat k)).1 = 7 := by simpa using h5
  exact ⟨(D0 h ha hb).1 (.inr h6), (D0 h ha hb).2 h6⟩
end
open GoE (enc wide)
def Zc (q : (List X4)) (k0 : Nat) (s0 : (List Bool)) : Rd ((List Bool)) ((List Bool)) ((List Bool)) := (bif ((nth q (Int.toNat (dn ((q.length : Int) - 1) k0))).1 == (5 : Int)) then (.next (List.set s0 (Int.toNat ((nth q (Int.toNat (dn ((q.length : Int) - 1) k0))).2.1)) ((nth s0 (Int.toNat (dn ((q.length : Int) - 1) k0))) || ((nth q (Int.toNat (dn ((q.length : Int) - 1) k0))).1 == (5 : Int))))) else (bif ((nth q (Int.toNat (dn ((q.length : Int) - 1) k0))).1 == (6 : Int)) then (.next (List.set (List.set s0 (Int.toNat ((nth q (Int.toNat (dn ((q.length : Int) - 1) k0))).2.1)) ((nth s0 (Int.toNat (dn ((q.length : Int) - 1) k0))) || ((nth q (Int.toNat (dn ((q.length : Int) - 1) k0))).1 == (5 : Int)))) (Int.toNat ((nth q (Int.toNat (dn ((q.length : Int) - 1) k0))).2.2.1)) ((nth s0 (Int.toNat (dn ((q.length : Int) - 1) k0))) || ((nth q (Int.toNat (dn ((q.length : Int) - 1) k0))).1 == (5 : Int))))) else (bif ((nth q (Int.toNat (dn ((q.length : Int) - 1) k0))).1 == (7 : Int)) then (.next (List.set (List.set s0 (Int.toNat ((nth q (Int.toNat (dn ((q.length : Int) - 1) k0))).2.1)) ((nth s0 (Int.toNat (dn ((q.length : Int) - 1) k0))) || ((nth q (Int.toNat (dn ((q.length : Int) - 1) k0))).1 == (5 : Int)))) (Int.toNat ((nth q (Int.toNat (dn ((q.length : Int) - 1) k0))).2.2.1)) ((nth s0 (Int.toNat (dn ((q.length : Int) - 1) k0))) || ((nth q (Int.toNat (dn ((q.length : Int) - 1) k0))).1 == (5 : Int))))) else (.next s0))))
def Wn (_ : Nat) (s0 : (List Bool)) : (List Bool) := s0
def Xq (q : (List X4)) : (List Bool) := (bif (!(Q4 q)) then [] else (Out.on (Wd (Zc q) Wn (List.length q) 0 (List.replicate (Int.toNat (q.length : Int)) false)) (fun y0 => y0)))
theorem Oi (q : (List X4)) : ACalls Tryz.prog 186 [.h q] (.o 0 (Xq q)) := by
 refine en Qb Tryz.func186 fun w0 F0 hG => ?_
 refine sn Qb [0, 2] [] (p0) ?_
 refine Qe (tn Qb [0, 2, 8] [] (pc 1 (W1 q) p0) ?_)
 refine ck (!(Q4 q)) (fun h1 => ?_) (fun h1 => ?_)
 ·
  refine tu Qb [(2, .e 0)] [] [] [] (p0) ?_
  refine opn [(false, 2, 0, true, 384000, 1)] ?_
  refine Qg ?_
  exact po0 [] (Q6 h1 (rfl))
 have h1n : (Q4 q) = true := Ze h1
 refine Qh ?_
 refine wT 0 0 .sh q (fun hw2 hl3 => ?_)
 refine tu Qb [(2, .e 0), (3, .one (.slc (.own true 704) 1 (List.replicate (Int.toNat (q.length : Int)) [.b false])))] [] [] [] (pl 1 q (px (Fu (lo := 0) (hi := (q.length : Int)) (n := 1073741824) (⟨by omega, by omega, by omega⟩)) p0)) ?_
 refine eqn [(3, .o 704 (List.replicate (Int.toNat (q.length : Int)) false))] [3] [] [] (by rw [show (List.replicate (Int.toNat (q.length : Int)) [.b false]) = (eL (List.replicate (Int.toNat (q.length : Int)) false)) from NV _ false]; first | done | kernel_rfl) ?_
 refine Qe (sn Qb [0, 2, 3, 4] [] (pl 1 q (pe 2 (Jn (IntWalk.i64_in ((q.length : Int) - 1) (by omega))) p0)) ?_)
 refine mz [(4, .i ((q.length : Int) - 1))] [] [] [] ?_
 refine Qb3 (Zc q) Wn (List.length q) (List.replicate (Int.toNat (q.length : Int)) false) (fun k0 s0 => [(3, .o 704 s0), (4, .i (dn ((q.length : Int) - 1) k0))]) [3, 4] (fun y0 => [(3, .o 704 y0)]) [0, 3, 4] (fun _ s0 => List.length s0 = (Int.toNat (q.length : Int))) (fun y0 => List.length y0 = (Int.toNat (q.length : Int))) (Qd (by kernel_rfl)) (by simp) (fun k0 s0 hk0 hI0 => ?_) (fun k0 s0 hk0 hI0 => ?_) (fun y0 hD0 => ?_)
 ·
  have hA0_0 := hI0.2
  have hdn0 := HL ((q.length : Int) - 1) k0
  refine Qe (sn Qb [0, 2, 3, 4, 16] [] (pe 1 (Qo (decide_eq_true (p := (dn ((q.length : Int) - 1) k0) ≥ (0 : Int)) (by omega))) p0) ?_)
  refine ckT ?_
  refine Qh ?_
  refine Qe (Qs ?_)
  refine Qe (mz [(16, .b true)] [] [] [] ?_)
  refine jn [(5, .b ((nth s0 (Int.toNat (dn ((q.length : Int) - 1) k0))) || ((nth q (Int.toNat (dn ((q.length : Int) - 1) k0))).1 == (5 : Int))))] [16] [] [] (nth s0 (Int.toNat (dn ((q.length : Int) - 1) k0))) (fun h4 => ?_) (fun h4 => ?_) ?_
  ·
   refine wT 3 0 (.own true 704) s0 (fun hw6 hl7 => ?_)
   have hx5 := ng s0 (Int.toNat (dn ((q.length : Int) - 1) k0))
   refine rn Qb [0, 2, 3, 4, 5] [] (pG 2 (dn ((q.length : Int) - 1) k0) hx5 (pt 3 h4 p0)) ?_
   exact ⟨rfl, Qd (by rw [h4]; first | done | kernel_rfl)⟩
  ·
   refine wT 3 0 (.own true 704) s0 (fun hw9 hl10 => ?_)
   have hx8 := ng s0 (Int.toNat (dn ((q.length : Int) - 1) k0))
   have hx11 := ng q (Int.toNat (dn ((q.length : Int) - 1) k0))
   refine rn Qb [0, 2, 3, 4, 5] [] (pG 2 (dn ((q.length : Int) - 1) k0) hx8 (pf 3 h4 (pg 7 (dn ((q.length : Int) - 1) k0) hx11 p0))) ?_
   exact ⟨rfl, Qd (by rw [h4]; first | done | kernel_rfl)⟩
  have hx12 := ng q (Int.toNat (dn ((q.length : Int) - 1) k0))
  refine sn Qb [0, 2, 3, 4, 5, 35] [] (pg 2 (dn ((q.length : Int) - 1) k0) hx12 p0) ?_
  refine Qs ?_
  refine tn Qb [0, 2, 3, 4, 5, 35, 36] [] (p0) ?_
  refine ck ((nth q (Int.toNat (dn ((q.length : Int) - 1) k0))).1 == (5 : Int)) (fun h13 => ?_) (fun h13 => ?_)
  ·
   have h13k := RD h1n (by omega) (by omega) h13
   have h13d := eq_of_beq h13
   refine wT 3 0 (.own true 704) s0 (fun hw15 hl16 => ?_)
   have hx14 := ng s0 (Int.toNat ((nth q (Int.toNat (dn ((q.length : Int) - 1) k0))).2.1))
   refine qu Qb [(3, .one (.slc (.own true 704) 1 (setRow (eL s0) (Int.toNat ((nth q (Int.toNat (dn ((q.length : Int) - 1) k0))).2.1)) 0 [.b ((nth s0 (Int.toNat (dn ((q.length : Int) - 1) k0))) || ((nth q (Int.toNat (dn ((q.length : Int) - 1) k0))).1 == (5 : Int)))])))] [3, 5] [] [] (pg 3 (dn ((q.length : Int) - 1) k0) hx12 (pG 7 ((nth q (Int.toNat (dn ((q.length : Int) - 1) k0))).2.1) hx14 p0)) ?_
   refine eqn [(3, .o 704 (List.set s0 (Int.toNat ((nth q (Int.toNat (dn ((q.length : Int) - 1) k0))).2.1)) ((nth s0 (Int.toNat (dn ((q.length : Int) - 1) k0))) || ((nth q (Int.toNat (dn ((q.length : Int) - 1) k0))).1 == (5 : Int)))))] [3] [] [] (by rw [Zw (y := ((nth s0 (Int.toNat (dn ((q.length : Int) - 1) k0))) || ((nth q (Int.toNat (dn ((q.length : Int) - 1) k0))).1 == (5 : Int)))) hx14 rfl]; first | done | kernel_rfl) ?_
   refine rn Qb [0, 2, 3, 4] [] (pe 1 (show .i (IntKind.i64.wrap ((dn ((q.length : Int) - 1) k0) - 1)) = .i (dn ((q.length : Int) - 1) (k0 + 1)) from Jn (show IntKind.i64.wrap ((dn ((q.length : Int) - 1) k0) - 1) = (dn ((q.length : Int) - 1) (k0 + 1)) from IntWalk.i64_in ((dn ((q.length : Int) - 1) k0) - 1) (by omega))) p0) ?_
   exact Exists.intro (List.set s0 (Int.toNat ((nth q (Int.toNat (dn ((q.length : Int) - 1) k0))).2.1)) ((nth s0 (Int.toNat (dn ((q.length : Int) - 1) k0))) || ((nth q (Int.toNat (dn ((q.length : Int) - 1) k0))).1 == (5 : Int)))) (And.intro (Qd (by kernel_rfl)) ⟨K0 hk0 (Q6 h13 (rfl)) hI0.1, (by first | omega | (simp only [List.length_set]; omega))⟩)
  have h13d := Yg h13
  refine Qe (tu Qb [(35, .i ((nth q (Int.toNat (dn ((q.length : Int) - 1) k0))).1)), (46, .b ((nth q (Int.toNat (dn ((q.length : Int) - 1) k0))).1 == (6 : Int)))] [] [] [] (p0) ?_)
  refine ck ((nth q (Int.toNat (dn ((q.length : Int) - 1) k0))).1 == (6 : Int)) (fun h17 => ?_) (fun h17 => ?_)
  ·
   have h17k := BY h1n (by omega) (by omega) h17; have h17m := RE h1n (by omega) (by omega) h17
   have h17d := eq_of_beq h17
   refine Qh ?_
   refine ckt h17 ?_
   refine wT 3 0 (.own true 704) s0 (fun hw19 hl20 => ?_)
   have hx18 := ng s0 (Int.toNat ((nth q (Int.toNat (dn ((q.length : Int) - 1) k0))).2.1))
   have hx21 : (List.set s0 (Int.toNat ((nth q (Int.toNat (dn ((q.length : Int) - 1) k0))).2.1)) ((nth s0 (Int.toNat (dn ((q.length : Int) - 1) k0))) || ((nth q (Int.toNat (dn ((q.length : Int) - 1) k0))).1 == (5 : Int))))[(Int.toNat ((nth q (Int.toNat (dn ((q.length : Int) - 1) k0))).2.2.1))]? = some (nth (List.set s0 (Int.toNat ((nth q (Int.toNat (dn ((q.length : Int) - 1) k0))).2.1)) ((nth s0 (Int.toNat (dn ((q.length : Int) - 1) k0))) || ((nth q (Int.toNat (dn ((q.length : Int) - 1) k0))).1 == (5 : Int)))) (Int.toNat ((nth q (Int.toNat (dn ((q.length : Int) - 1) k0))).2.2.1))) := K9 (by first | omega | (simp only [List.length_set]; omega))
   refine rU Qb Yo [(3, .one (.slc (.own true 704) 1 (setRow (setRow (eL s0) (Int.toNat ((nth q (Int.toNat (dn ((q.length : Int) - 1) k0))).2.1)) 0 [.b ((nth s0 (Int.toNat (dn ((q.length : Int) - 1) k0))) || ((nth q (Int.toNat (dn ((q.length : Int) - 1) k0))).1 == (5 : Int)))]) (Int.toNat ((nth q (Int.toNat (dn ((q.length : Int) - 1) k0))).2.2.1)) 0 [.b ((nth s0 (Int.toNat (dn ((q.length : Int) - 1) k0))) || ((nth q (Int.toNat (dn ((q.length : Int) - 1) k0))).1 == (5 : Int)))])))] [3, 5, 35, 46] [] [] (pg 3 (dn ((q.length : Int) - 1) k0) hx12 (pg 9 (dn ((q.length : Int) - 1) k0) hx12 (pG 14 ((nth q (Int.toNat (dn ((q.length : Int) - 1) k0))).2.1) hx18 (pR 16 (l := (setRow (eL s0) (Int.toNat ((nth q (Int.toNat (dn ((q.length : Int) - 1) k0))).2.1)) 0 [.b ((nth s0 (Int.toNat (dn ((q.length : Int) - 1) k0))) || ((nth q (Int.toNat (dn ((q.length : Int) - 1) k0))).1 == (5 : Int)))])) (j := ((nth q (Int.toNat (dn ((q.length : Int) - 1) k0))).2.2.1)) (r := [.b (nth (List.set s0 (Int.toNat ((nth q (Int.toNat (dn ((q.length : Int) - 1) k0))).2.1)) ((nth s0 (Int.toNat (dn ((q.length : Int) - 1) k0))) || ((nth q (Int.toNat (dn ((q.length : Int) - 1) k0))).1 == (5 : Int)))) (Int.toNat ((nth q (Int.toNat (dn ((q.length : Int) - 1) k0))).2.2.1)))]) (by rw [Zw (y := ((nth s0 (Int.toNat (dn ((q.length : Int) - 1) k0))) || ((nth q (Int.toNat (dn ((q.length : Int) - 1) k0))).1 == (5 : Int)))) hx18 rfl]; exact DR (by omega) rfl hx21) p0)))) ?_
   refine eqn [(3, .o 704 (List.set (List.set s0 (Int.toNat ((nth q (Int.toNat (dn ((q.length : Int) - 1) k0))).2.1)) ((nth s0 (Int.toNat (dn ((q.length : Int) - 1) k0))) || ((nth q (Int.toNat (dn ((q.length : Int) - 1) k0))).1 == (5 : Int)))) (Int.toNat ((nth q (Int.toNat (dn ((q.length : Int) - 1) k0))).2.2.1)) ((nth s0 (Int.toNat (dn ((q.length : Int) - 1) k0))) || ((nth q (Int.toNat (dn ((q.length : Int) - 1) k0))).1 == (5 : Int)))))] [3] [] [] (by rw [Zw (y := ((nth s0 (Int.toNat (dn ((q.length : Int) - 1) k0))) || ((nth q (Int.toNat (dn ((q.length : Int) - 1) k0))).1 == (5 : Int)))) hx18 rfl, Zw (y := ((nth s0 (Int.toNat (dn ((q.length : Int) - 1) k0))) || ((nth q (Int.toNat (dn ((q.length : Int) - 1) k0))).1 == (5 : Int)))) hx21 rfl]; first | done | kernel_rfl) ?_
   refine rn Qb [0, 2, 3, 4] [] (pe 1 (show .i (IntKind.i64.wrap ((dn ((q.length : Int) - 1) k0) - 1)) = .i (dn ((q.length : Int) - 1) (k0 + 1)) from Jn (show IntKind.i64.wrap ((dn ((q.length : Int) - 1) k0) - 1) = (dn ((q.length : Int) - 1) (k0 + 1)) from IntWalk.i64_in ((dn ((q.length : Int) - 1) k0) - 1) (by omega))) p0) ?_
   exact Exists.intro (List.set (List.set s0 (Int.toNat ((nth q (Int.toNat (dn ((q.length : Int) - 1) k0))).2.1)) ((nth s0 (Int.toNat (dn ((q.length : Int) - 1) k0))) || ((nth q (Int.toNat (dn ((q.length : Int) - 1) k0))).1 == (5 : Int)))) (Int.toNat ((nth q (Int.toNat (dn ((q.length : Int) - 1) k0))).2.2.1)) ((nth s0 (Int.toNat (dn ((q.length : Int) - 1) k0))) || ((nth q (Int.toNat (dn ((q.length : Int) - 1) k0))).1 == (5 : Int)))) (And.intro (Qd (by kernel_rfl)) ⟨K0 hk0 (Qm h13 (Q6 h17 (rfl))) hI0.1, (by first | omega | (simp only [List.length_set]; omega))⟩)
  have h17d := Yg h17
  refine rn Qb [0, 2, 3, 4, 5, 46] [] (p0) ?_
  refine ck ((nth q (Int.toNat (dn ((q.length : Int) - 1) k0))).1 == (7 : Int)) (fun h22 => ?_) (fun h22 => ?_)
  ·
   have h22k := DY h1n (by omega) (by omega) h22; have h22m := TP h1n (by omega) (by omega) h22
   have h22d := eq_of_beq h22
   refine wT 3 0 (.own true 704) s0 (fun hw24 hl25 => ?_)
   have hx23 := ng s0 (Int.toNat ((nth q (Int.toNat (dn ((q.length : Int) - 1) k0))).2.1))
   have hx26 : (List.set s0 (Int.toNat ((nth q (Int.toNat (dn ((q.length : Int) - 1) k0))).2.1)) ((nth s0 (Int.toNat (dn ((q.length : Int) - 1) k0))) || ((nth q (Int.toNat (dn ((q.length : Int) - 1) k0))).1 == (5 : Int))))[(Int.toNat ((nth q (Int.toNat (dn ((q.length : Int) - 1) k0))).2.2.1))]? = some (nth (List.set s0 (Int.toNat ((nth q (Int.toNat (dn ((q.length : Int) - 1) k0))).2.1)) ((nth s0 (Int.toNat (dn ((q.length : Int) - 1) k0))) || ((nth q (Int.toNat (dn ((q.length : Int) - 1) k0))).1 == (5 : Int)))) (Int.toNat ((nth q (Int.toNat (dn ((q.length : Int) - 1) k0))).2.2.1))) := K9 (by first | omega | (simp only [List.length_set]; omega))
   refine qU Qb Yo [(3, .one (.slc (.own true 704) 1 (setRow (setRow (eL s0) (Int.toNat ((nth q (Int.toNat (dn ((q.length : Int) - 1) k0))).2.1)) 0 [.b ((nth s0 (Int.toNat (dn ((q.length : Int) - 1) k0))) || ((nth q (Int.toNat (dn ((q.length : Int) - 1) k0))).1 == (5 : Int)))]) (Int.toNat ((nth q (Int.toNat (dn ((q.length : Int) - 1) k0))).2.2.1)) 0 [.b ((nth s0 (Int.toNat (dn ((q.length : Int) - 1) k0))) || ((nth q (Int.toNat (dn ((q.length : Int) - 1) k0))).1 == (5 : Int)))])))] [3, 5, 35, 46] [] [] (pg 3 (dn ((q.length : Int) - 1) k0) hx12 (pg 9 (dn ((q.length : Int) - 1) k0) hx12 (pG 14 ((nth q (Int.toNat (dn ((q.length : Int) - 1) k0))).2.1) hx23 (pR 16 (l := (setRow (eL s0) (Int.toNat ((nth q (Int.toNat (dn ((q.length : Int) - 1) k0))).2.1)) 0 [.b ((nth s0 (Int.toNat (dn ((q.length : Int) - 1) k0))) || ((nth q (Int.toNat (dn ((q.length : Int) - 1) k0))).1 == (5 : Int)))])) (j := ((nth q (Int.toNat (dn ((q.length : Int) - 1) k0))).2.2.1)) (r := [.b (nth (List.set s0 (Int.toNat ((nth q (Int.toNat (dn ((q.length : Int) - 1) k0))).2.1)) ((nth s0 (Int.toNat (dn ((q.length : Int) - 1) k0))) || ((nth q (Int.toNat (dn ((q.length : Int) - 1) k0))).1 == (5 : Int)))) (Int.toNat ((nth q (Int.toNat (dn ((q.length : Int) - 1) k0))).2.2.1)))]) (by rw [Zw (y := ((nth s0 (Int.toNat (dn ((q.length : Int) - 1) k0))) || ((nth q (Int.toNat (dn ((q.length : Int) - 1) k0))).1 == (5 : Int)))) hx23 rfl]; exact DR (by omega) rfl hx26) p0)))) ?_
   refine eqn [(3, .o 704 (List.set (List.set s0 (Int.toNat ((nth q (Int.toNat (dn ((q.length : Int) - 1) k0))).2.1)) ((nth s0 (Int.toNat (dn ((q.length : Int) - 1) k0))) || ((nth q (Int.toNat (dn ((q.length : Int) - 1) k0))).1 == (5 : Int)))) (Int.toNat ((nth q (Int.toNat (dn ((q.length : Int) - 1) k0))).2.2.1)) ((nth s0 (Int.toNat (dn ((q.length : Int) - 1) k0))) || ((nth q (Int.toNat (dn ((q.length : Int) - 1) k0))).1 == (5 : Int)))))] [3] [] [] (by rw [Zw (y := ((nth s0 (Int.toNat (dn ((q.length : Int) - 1) k0))) || ((nth q (Int.toNat (dn ((q.length : Int) - 1) k0))).1 == (5 : Int)))) hx23 rfl, Zw (y := ((nth s0 (Int.toNat (dn ((q.length : Int) - 1) k0))) || ((nth q (Int.toNat (dn ((q.length : Int) - 1) k0))).1 == (5 : Int)))) hx26 rfl]; first | done | kernel_rfl) ?_
   refine rn Qb [0, 2, 3, 4] [] (pe 1 (show .i (IntKind.i64.wrap ((dn ((q.length : Int) - 1) k0) - 1)) = .i (dn ((q.length : Int) - 1) (k0 + 1)) from Jn (show IntKind.i64.wrap ((dn ((q.length : Int) - 1) k0) - 1) = (dn ((q.length : Int) - 1) (k0 + 1)) from IntWalk.i64_in ((dn ((q.length : Int) - 1) k0) - 1) (by omega))) p0) ?_
   exact Exists.intro (List.set (List.set s0 (Int.toNat ((nth q (Int.toNat (dn ((q.length : Int) - 1) k0))).2.1)) ((nth s0 (Int.toNat (dn ((q.length : Int) - 1) k0))) || ((nth q (Int.toNat (dn ((q.length : Int) - 1) k0))).1 == (5 : Int)))) (Int.toNat ((nth q (Int.toNat (dn ((q.length : Int) - 1) k0))).2.2.1)) ((nth s0 (Int.toNat (dn ((q.length : Int) - 1) k0))) || ((nth q (Int.toNat (dn ((q.length : Int) - 1) k0))).1 == (5 : Int)))) (And.intro (Qd (by kernel_rfl)) ⟨K0 hk0 (Qm h13 (Qm h17 (Q6 h22 (rfl)))) hI0.1, (by first | omega | (simp only [List.length_set]; omega))⟩)
  have h22d := Yg h22
  refine Qh ?_
  refine qn Qb [0, 2, 3, 4] [] (pe 1 (show .i (IntKind.i64.wrap ((dn ((q.length : Int) - 1) k0) - 1)) = .i (dn ((q.length : Int) - 1) (k0 + 1)) from Jn (show IntKind.i64.wrap ((dn ((q.length : Int) - 1) k0) - 1) = (dn ((q.length : Int) - 1) (k0 + 1)) from IntWalk.i64_in ((dn ((q.length : Int) - 1) k0) - 1) (by omega))) p0) ?_
  exact Exists.intro s0 (And.intro (Qd (by kernel_rfl)) ⟨K0 hk0 (Qm h13 (Qm h17 (Qm h22 (rfl)))) hI0.1, (by first | omega | (simp only [List.length_set]; omega))⟩)
 ·
  have hA0_0 := hI0.2
  have hdn0 := HL ((q.length : Int) - 1) k0
  refine Qe (sn Qb [0, 2, 3, 4, 16] [] (pe 1 (Qo (decide_eq_false (p := (dn ((q.length : Int) - 1) k0) ≥ (0 : Int)) (by omega))) p0) ?_)
  refine ckF ?_
  refine Q5 ?_
  exact Exists.intro s0 (And.intro (Qd (by kernel_rfl)) ⟨Bz hk0 (rfl) hI0.1, by first | omega | (simp only [List.length_set]; omega)⟩)
 have hD0_0 := hD0.2
 refine sn Qb [2] [] (p0) ?_
 refine Qg ?_
 exact po0 [] (Qm h1 (Wc hD0.1 (rfl)))
def Wo (q : (List X4)) (k0 : Nat) (s0 : (List Bool)) : Rd ((List Bool)) ((List Bool)) ((List Bool)) := (bif ((nth q (Int.toNat (dn ((q.length : Int) - 1) k0))).1 == (5 : Int)) then (bif (((nth q (Int.toNat (dn ((q.length : Int) - 1) k0))).1 == (6 : Int)) || ((nth q (Int.toNat (dn ((q.length : Int) - 1) k0))).1 == (7 : Int))) then (.next (List.set (List.set (List.set s0 (Int.toNat ((nth q (Int.toNat (dn ((q.length : Int) - 1) k0))).2.1)) true) (Int.toNat ((nth q (Int.toNat (dn ((q.length : Int) - 1) k0))).2.1)) (nth (List.set s0 (Int.toNat ((nth q (Int.toNat (dn ((q.length : Int) - 1) k0))).2.1)) true) (Int.toNat (dn ((q.length : Int) - 1) k0)))) (Int.toNat ((nth q (Int.toNat (dn ((q.length : Int) - 1) k0))).2.2.1)) (nth (List.set (List.set s0 (Int.toNat ((nth q (Int.toNat (dn ((q.length : Int) - 1) k0))).2.1)) true) (Int.toNat ((nth q (Int.toNat (dn ((q.length : Int) - 1) k0))).2.1)) (nth (List.set s0 (Int.toNat ((nth q (Int.toNat (dn ((q.length : Int) - 1) k0))).2.1)) true) (Int.toNat (dn ((q.length : Int) - 1) k0)))) (Int.toNat (dn ((q.length : Int) - 1) k0))))) else (.next (List.set s0 (Int.toNat ((nth q (Int.toNat (dn ((q.length : Int) - 1) k0))).2.1)) true))) else (bif (((nth q (Int.toNat (dn ((q.length : Int) - 1) k0))).1 == (6 : Int)) || ((nth q (Int.toNat (dn ((q.length : Int) - 1) k0))).1 == (7 : Int))) then (.next (List.set (List.set s0 (Int.toNat ((nth q (Int.toNat (dn ((q.length : Int) - 1) k0))).2.1)) (nth s0 (Int.toNat (dn ((q.length : Int) - 1) k0)))) (Int.toNat ((nth q (Int.toNat (dn ((q.length : Int) - 1) k0))).2.2.1)) (nth (List.set s0 (Int.toNat ((nth q (Int.toNat (dn ((q.length : Int) - 1) k0))).2.1)) (nth s0 (Int.toNat (dn ((q.length : Int) - 1) k0)))) (Int.toNat (dn ((q.length : Int) - 1) k0))))) else (.next s0)))
def A9 (_ : Nat) (s0 : (List Bool)) : (List Bool) := s0
def Zs (q : (List X4)) : (List Bool) := (bif (!(Ym q)) then [] else (Out.on (Wd (Wo q) A9 (List.length q) 0 (List.replicate (Int.toNat (q.length : Int)) false)) (fun y0 => y0)))
theorem Oj (q : (List X4)) : ACalls Tryz.prog 196 [.h q] (.o 0 (Zs q)) := by
 refine en Qb Tryz.func196 fun w0 F0 hG => ?_
 refine sn Qb [0, 2] [] (p0) ?_
 refine Qe (tn Qb [0, 2, 9] [] (pc 1 (Vx q) p0) ?_)
 refine ck (!(Ym q)) (fun h1 => ?_) (fun h1 => ?_)
 ·
  refine tu Qb [(2, .one (.slc (.own true 640) 1 []))] [] [] [] (p0) ?_
  refine Qg ?_
  exact po0 [] (Q6 h1 (rfl))
 have h1n : (Ym q) = true := Ze h1
 refine Qh ?_
 refine wT 0 0 .sh q (fun hw2 hl3 => ?_)
 refine tu Qb [(2, .e 0), (3, .one (.slc (.own true 832) 1 (List.replicate (Int.toNat (q.length : Int)) [.b false])))] [] [] [] (pl 1 q (px (Fu (lo := 0) (hi := (q.length : Int)) (n := 1073741824) (⟨by omega, by omega, by omega⟩)) p0)) ?_
 refine eqn [(3, .o 832 (List.replicate (Int.toNat (q.length : Int)) false))] [3] [] [] (by rw [show (List.replicate (Int.toNat (q.length : Int)) [.b false]) = (eL (List.replicate (Int.toNat (q.length : Int)) false)) from NV _ false]; first | done | kernel_rfl) ?_
 refine Qe (sn Qb [0, 2, 3, 4] [] (pl 1 q (pe 2 (Jn (IntWalk.i64_in ((q.length : Int) - 1) (by omega))) p0)) ?_)
 refine mz [(4, .i ((q.length : Int) - 1))] [] [] [] ?_
 refine Qb3 (Wo q) A9 (List.length q) (List.replicate (Int.toNat (q.length : Int)) false) (fun k0 s0 => [(3, .o 832 s0), (4, .i (dn ((q.length : Int) - 1) k0))]) [3, 4] (fun y0 => [(3, .o 832 y0)]) [0, 3, 4] (fun _ s0 => List.length s0 = (Int.toNat (q.length : Int))) (fun y0 => List.length y0 = (Int.toNat (q.length : Int))) (Qd (by kernel_rfl)) (by simp) (fun k0 s0 hk0 hI0 => ?_) (fun k0 s0 hk0 hI0 => ?_) (fun y0 hD0 => ?_)
 ·
  have hA0_0 := hI0.2
  have hdn0 := HL ((q.length : Int) - 1) k0
  refine Qe (sn Qb [0, 2, 3, 4, 18] [] (pe 1 (Qo (decide_eq_true (p := (dn ((q.length : Int) - 1) k0) ≥ (0 : Int)) (by omega))) p0) ?_)
  refine ckT ?_
  refine Qh ?_
  refine Qe (Qs ?_)
  have hx4 := ng q (Int.toNat (dn ((q.length : Int) - 1) k0))
  refine tn Qb [0, 2, 3, 4, 5] [5] (pg 2 (dn ((q.length : Int) - 1) k0) hx4 p0) ?_
  refine Qe (mz [(5, .p 5 0)] [] [(5, [.i ((nth q (Int.toNat (dn ((q.length : Int) - 1) k0))).1), .i ((nth q (Int.toNat (dn ((q.length : Int) - 1) k0))).2.1), .i ((nth q (Int.toNat (dn ((q.length : Int) - 1) k0))).2.2.1), .s ((nth q (Int.toNat (dn ((q.length : Int) - 1) k0))).2.2.2.1), .i ((nth q (Int.toNat (dn ((q.length : Int) - 1) k0))).2.2.2.2.1), .i ((nth q (Int.toNat (dn ((q.length : Int) - 1) k0))).2.2.2.2.2.1), .s ((nth q (Int.toNat (dn ((q.length : Int) - 1) k0))).2.2.2.2.2.2)])] [] ?_)
  refine jn [(6, .b (((nth q (Int.toNat (dn ((q.length : Int) - 1) k0))).1 == (6 : Int)) || ((nth q (Int.toNat (dn ((q.length : Int) - 1) k0))).1 == (7 : Int))))] [] [] [] ((nth q (Int.toNat (dn ((q.length : Int) - 1) k0))).1 == (6 : Int)) (fun h5 => ?_) (fun h5 => ?_) ?_
  ·
   have h5k := BY (Na h1n) (by omega) (by omega) h5; have h5m := RE (Na h1n) (by omega) (by omega) h5
   refine rn Qb [0, 2, 3, 4, 5, 6] [5] (pt 2 h5 p0) ?_
   exact ⟨rfl, Qd (by rw [h5]; first | done | kernel_rfl)⟩
  ·
   refine rn Qb [0, 2, 3, 4, 5, 6] [5] (pf 2 h5 p0) ?_
   exact ⟨rfl, Qd (by rw [h5]; first | done | kernel_rfl)⟩
  refine Qe (sn Qb [0, 2, 3, 4, 5, 6, 35] [5] (p0) ?_)
  refine ck ((nth q (Int.toNat (dn ((q.length : Int) - 1) k0))).1 == (5 : Int)) (fun h6 => ?_) (fun h6 => ?_)
  ·
   have h6k := RD (Na h1n) (by omega) (by omega) h6
   have h6d := eq_of_beq h6
   refine wT 3 0 (.own true 832) s0 (fun hw8 hl9 => ?_)
   have hx7 := ng s0 (Int.toNat ((nth q (Int.toNat (dn ((q.length : Int) - 1) k0))).2.1))
   refine qu Qb [(3, .one (.slc (.own true 832) 1 (setRow (eL s0) (Int.toNat ((nth q (Int.toNat (dn ((q.length : Int) - 1) k0))).2.1)) 0 [.b true])))] [3] [] [] (pG 3 ((nth q (Int.toNat (dn ((q.length : Int) - 1) k0))).2.1) hx7 p0) ?_
   refine eqn [(3, .o 832 (List.set s0 (Int.toNat ((nth q (Int.toNat (dn ((q.length : Int) - 1) k0))).2.1)) true))] [3] [] [] (by rw [Zw (y := true) hx7 rfl]; first | done | kernel_rfl) ?_
   refine sn Qb [0, 2, 3, 4, 5, 40] [5] (p0) ?_
   refine ck (((nth q (Int.toNat (dn ((q.length : Int) - 1) k0))).1 == (6 : Int)) || ((nth q (Int.toNat (dn ((q.length : Int) - 1) k0))).1 == (7 : Int))) (fun h10 => ?_) (fun h10 => ?_)
   ·
    have h10k := RF (Na h1n) (by omega) (by omega) h10
    refine wT 3 0 (.own true 832) (List.set s0 (Int.toNat ((nth q (Int.toNat (dn ((q.length : Int) - 1) k0))).2.1)) true) (fun hw12 hl13 => ?_)
    have hx11 := ng (List.set s0 (Int.toNat ((nth q (Int.toNat (dn ((q.length : Int) - 1) k0))).2.1)) true) (Int.toNat (dn ((q.length : Int) - 1) k0)) (by first | omega | (simp only [List.length_set]; omega))
    have hx14 := ng (List.set s0 (Int.toNat ((nth q (Int.toNat (dn ((q.length : Int) - 1) k0))).2.1)) true) (Int.toNat ((nth q (Int.toNat (dn ((q.length : Int) - 1) k0))).2.1)) (by first | omega | (simp only [List.length_set]; omega))
    refine tU Qb Yo [(3, .one (.slc (.own true 832) 1 (setRow (eL (List.set s0 (Int.toNat ((nth q (Int.toNat (dn ((q.length : Int) - 1) k0))).2.1)) true)) (Int.toNat ((nth q (Int.toNat (dn ((q.length : Int) - 1) k0))).2.1)) 0 [.b (nth (List.set s0 (Int.toNat ((nth q (Int.toNat (dn ((q.length : Int) - 1) k0))).2.1)) true) (Int.toNat (dn ((q.length : Int) - 1) k0)))])))] [3, 6] [] [] (pG 5 (dn ((q.length : Int) - 1) k0) hx11 (pG 7 ((nth q (Int.toNat (dn ((q.length : Int) - 1) k0))).2.1) hx14 p0)) ?_
    refine eqn [(3, .o 832 (List.set (List.set s0 (Int.toNat ((nth q (Int.toNat (dn ((q.length : Int) - 1) k0))).2.1)) true) (Int.toNat ((nth q (Int.toNat (dn ((q.length : Int) - 1) k0))).2.1)) (nth (List.set s0 (Int.toNat ((nth q (Int.toNat (dn ((q.length : Int) - 1) k0))).2.1)) true) (Int.toNat (dn ((q.length : Int) - 1) k0)))))] [3] [] [] (by rw [Zw (y := (nth (List.set s0 (Int.toNat ((nth q (Int.toNat (dn ((q.length : Int) - 1) k0))).2.1)) true) (Int.toNat (dn ((q.length : Int) - 1) k0)))) hx14 rfl]; first | done | kernel_rfl) ?_
    refine wT 3 0 (.own true 832) (List.set (List.set s0 (Int.toNat ((nth q (Int.toNat (dn ((q.length : Int) - 1) k0))).2.1)) true) (Int.toNat ((nth q (Int.toNat (dn ((q.length : Int) - 1) k0))).2.1)) (nth (List.set s0 (Int.toNat ((nth q (Int.toNat (dn ((q.length : Int) - 1) k0))).2.1)) true) (Int.toNat (dn ((q.length : Int) - 1) k0)))) (fun hw16 hl17 => ?_)
    have hx15 := ng (List.set (List.set s0 (Int.toNat ((nth q (Int.toNat (dn ((q.length : Int) - 1) k0))).2.1)) true) (Int.toNat ((nth q (Int.toNat (dn ((q.length : Int) - 1) k0))).2.1)) (nth (List.set s0 (Int.toNat ((nth q (Int.toNat (dn ((q.length : Int) - 1) k0))).2.1)) true) (Int.toNat (dn ((q.length : Int) - 1) k0)))) (Int.toNat (dn ((q.length : Int) - 1) k0)) (by first | omega | (simp only [List.length_set]; omega))
    have hx18 := ng (List.set (List.set s0 (Int.toNat ((nth q (Int.toNat (dn ((q.length : Int) - 1) k0))).2.1)) true) (Int.toNat ((nth q (Int.toNat (dn ((q.length : Int) - 1) k0))).2.1)) (nth (List.set s0 (Int.toNat ((nth q (Int.toNat (dn ((q.length : Int) - 1) k0))).2.1)) true) (Int.toNat (dn ((q.length : Int) - 1) k0)))) (Int.toNat ((nth q (Int.toNat (dn ((q.length : Int) - 1) k0))).2.2.1)) (by first | omega | (simp only [List.length_set]; omega))
    refine rU Qb Yo [(3, .one (.slc (.own true 832) 1 (setRow (eL (List.set (List.set s0 (Int.toNat ((nth q (Int.toNat (dn ((q.length : Int) - 1) k0))).2.1)) true) (Int.toNat ((nth q (Int.toNat (dn ((q.length : Int) - 1) k0))).2.1)) (nth (List.set s0 (Int.toNat ((nth q (Int.toNat (dn ((q.length : Int) - 1) k0))).2.1)) true) (Int.toNat (dn ((q.length : Int) - 1) k0))))) (Int.toNat ((nth q (Int.toNat (dn ((q.length : Int) - 1) k0))).2.2.1)) 0 [.b (nth (List.set (List.set s0 (Int.toNat ((nth q (Int.toNat (dn ((q.length : Int) - 1) k0))).2.1)) true) (Int.toNat ((nth q (Int.toNat (dn ((q.length : Int) - 1) k0))).2.1)) (nth (List.set s0 (Int.toNat ((nth q (Int.toNat (dn ((q.length : Int) - 1) k0))).2.1)) true) (Int.toNat (dn ((q.length : Int) - 1) k0)))) (Int.toNat (dn ((q.length : Int) - 1) k0)))])))] [3, 5] [] [5] (pG 5 (dn ((q.length : Int) - 1) k0) hx15 (pG 7 ((nth q (Int.toNat (dn ((q.length : Int) - 1) k0))).2.2.1) hx18 p0)) ?_
    refine eqn [(3, .o 832 (List.set (List.set (List.set s0 (Int.toNat ((nth q (Int.toNat (dn ((q.length : Int) - 1) k0))).2.1)) true) (Int.toNat ((nth q (Int.toNat (dn ((q.length : Int) - 1) k0))).2.1)) (nth (List.set s0 (Int.toNat ((nth q (Int.toNat (dn ((q.length : Int) - 1) k0))).2.1)) true) (Int.toNat (dn ((q.length : Int) - 1) k0)))) (Int.toNat ((nth q (Int.toNat (dn ((q.length : Int) - 1) k0))).2.2.1)) (nth (List.set (List.set s0 (Int.toNat ((nth q (Int.toNat (dn ((q.length : Int) - 1) k0))).2.1)) true) (Int.toNat ((nth q (Int.toNat (dn ((q.length : Int) - 1) k0))).2.1)) (nth (List.set s0 (Int.toNat ((nth q (Int.toNat (dn ((q.length : Int) - 1) k0))).2.1)) true) (Int.toNat (dn ((q.length : Int) - 1) k0)))) (Int.toNat (dn ((q.length : Int) - 1) k0)))))] [3] [] [] (by rw [Zw (y := (nth (List.set (List.set s0 (Int.toNat ((nth q (Int.toNat (dn ((q.length : Int) - 1) k0))).2.1)) true) (Int.toNat ((nth q (Int.toNat (dn ((q.length : Int) - 1) k0))).2.1)) (nth (List.set s0 (Int.toNat ((nth q (Int.toNat (dn ((q.length : Int) - 1) k0))).2.1)) true) (Int.toNat (dn ((q.length : Int) - 1) k0)))) (Int.toNat (dn ((q.length : Int) - 1) k0)))) hx18 rfl]; first | done | kernel_rfl) ?_
    refine rn Qb [0, 2, 3, 4] [] (pe 1 (show .i (IntKind.i64.wrap ((dn ((q.length : Int) - 1) k0) - 1)) = .i (dn ((q.length : Int) - 1) (k0 + 1)) from Jn (show IntKind.i64.wrap ((dn ((q.length : Int) - 1) k0) - 1) = (dn ((q.length : Int) - 1) (k0 + 1)) from IntWalk.i64_in ((dn ((q.length : Int) - 1) k0) - 1) (by omega))) p0) ?_
    exact Exists.intro (List.set (List.set (List.set s0 (Int.toNat ((nth q (Int.toNat (dn ((q.length : Int) - 1) k0))).2.1)) true) (Int.toNat ((nth q (Int.toNat (dn ((q.length : Int) - 1) k0))).2.1)) (nth (List.set s0 (Int.toNat ((nth q (Int.toNat (dn ((q.length : Int) - 1) k0))).2.1)) true) (Int.toNat (dn ((q.length : Int) - 1) k0)))) (Int.toNat ((nth q (Int.toNat (dn ((q.length : Int) - 1) k0))).2.2.1)) (nth (List.set (List.set s0 (Int.toNat ((nth q (Int.toNat (dn ((q.length : Int) - 1) k0))).2.1)) true) (Int.toNat ((nth q (Int.toNat (dn ((q.length : Int) - 1) k0))).2.1)) (nth (List.set s0 (Int.toNat ((nth q (Int.toNat (dn ((q.length : Int) - 1) k0))).2.1)) true) (Int.toNat (dn ((q.length : Int) - 1) k0)))) (Int.toNat (dn ((q.length : Int) - 1) k0)))) (And.intro (Qd (by kernel_rfl)) ⟨K0 hk0 (Q6 h6 (Q6 h10 (rfl))) hI0.1, (by first | omega | (simp only [List.length_set]; omega))⟩)
   have h10l : (((nth q (Int.toNat (dn ((q.length : Int) - 1) k0))).1 == (6 : Int))) = false := Pw h10
   have h10ld := Yg h10l
   have h10r : (((nth q (Int.toNat (dn ((q.length : Int) - 1) k0))).1 == (7 : Int))) = false := Px h10
   have h10rd := Yg h10r
   refine Qh ?_
   refine qn Qb [0, 2, 3, 4] [] (pe 1 (show .i (IntKind.i64.wrap ((dn ((q.length : Int) - 1) k0) - 1)) = .i (dn ((q.length : Int) - 1) (k0 + 1)) from Jn (show IntKind.i64.wrap ((dn ((q.length : Int) - 1) k0) - 1) = (dn ((q.length : Int) - 1) (k0 + 1)) from IntWalk.i64_in ((dn ((q.length : Int) - 1) k0) - 1) (by omega))) p0) ?_
   exact Exists.intro (List.set s0 (Int.toNat ((nth q (Int.toNat (dn ((q.length : Int) - 1) k0))).2.1)) true) (And.intro (Qd (by kernel_rfl)) ⟨K0 hk0 (Q6 h6 (Qm h10 (rfl))) hI0.1, (by first | omega | (simp only [List.length_set]; omega))⟩)
  have h6d := Yg h6
  refine Qh ?_
  refine tn Qb [0, 2, 3, 4, 5, 40] [5] (p0) ?_
  refine ck (((nth q (Int.toNat (dn ((q.length : Int) - 1) k0))).1 == (6 : Int)) || ((nth q (Int.toNat (dn ((q.length : Int) - 1) k0))).1 == (7 : Int))) (fun h19 => ?_) (fun h19 => ?_)
  ·
   have h19k := RF (Na h1n) (by omega) (by omega) h19
   refine wT 3 0 (.own true 832) s0 (fun hw21 hl22 => ?_)
   have hx20 := ng s0 (Int.toNat (dn ((q.length : Int) - 1) k0))
   have hx23 := ng s0 (Int.toNat ((nth q (Int.toNat (dn ((q.length : Int) - 1) k0))).2.1))
   refine tU Qb Yo [(3, .one (.slc (.own true 832) 1 (setRow (eL s0) (Int.toNat ((nth q (Int.toNat (dn ((q.length : Int) - 1) k0))).2.1)) 0 [.b (nth s0 (Int.toNat (dn ((q.length : Int) - 1) k0)))])))] [3, 6] [] [] (pG 5 (dn ((q.length : Int) - 1) k0) hx20 (pG 7 ((nth q (Int.toNat (dn ((q.length : Int) - 1) k0))).2.1) hx23 p0)) ?_
   refine eqn [(3, .o 832 (List.set s0 (Int.toNat ((nth q (Int.toNat (dn ((q.length : Int) - 1) k0))).2.1)) (nth s0 (Int.toNat (dn ((q.length : Int) - 1) k0)))))] [3] [] [] (by rw [Zw (y := (nth s0 (Int.toNat (dn ((q.length : Int) - 1) k0)))) hx23 rfl]; first | done | kernel_rfl) ?_
   refine wT 3 0 (.own true 832) (List.set s0 (Int.toNat ((nth q (Int.toNat (dn ((q.length : Int) - 1) k0))).2.1)) (nth s0 (Int.toNat (dn ((q.length : Int) - 1) k0)))) (fun hw25 hl26 => ?_)
   have hx24 := ng (List.set s0 (Int.toNat ((nth q (Int.toNat (dn ((q.length : Int) - 1) k0))).2.1)) (nth s0 (Int.toNat (dn ((q.length : Int) - 1) k0)))) (Int.toNat (dn ((q.length : Int) - 1) k0)) (by first | omega | (simp only [List.length_set]; omega))
   have hx27 := ng (List.set s0 (Int.toNat ((nth q (Int.toNat (dn ((q.length : Int) - 1) k0))).2.1)) (nth s0 (Int.toNat (dn ((q.length : Int) - 1) k0)))) (Int.toNat ((nth q (Int.toNat (dn ((q.length : Int) - 1) k0))).2.2.1)) (by first | omega | (simp only [List.length_set]; omega))
   refine rU Qb Yo [(3, .one (.slc (.own true 832) 1 (setRow (eL (List.set s0 (Int.toNat ((nth q (Int.toNat (dn ((q.length : Int) - 1) k0))).2.1)) (nth s0 (Int.toNat (dn ((q.length : Int) - 1) k0))))) (Int.toNat ((nth q (Int.toNat (dn ((q.length : Int) - 1) k0))).2.2.1)) 0 [.b (nth (List.set s0 (Int.toNat ((nth q (Int.toNat (dn ((q.length : Int) - 1) k0))).2.1)) (nth s0 (Int.toNat (dn ((q.length : Int) - 1) k0)))) (Int.toNat (dn ((q.length : Int) - 1) k0)))])))] [3, 5] [] [5] (pG 5 (dn ((q.length : Int) - 1) k0) hx24 (pG 7 ((nth q (Int.toNat (dn ((q.length : Int) - 1) k0))).2.2.1) hx27 p0)) ?_
   refine eqn [(3, .o 832 (List.set (List.set s0 (Int.toNat ((nth q (Int.toNat (dn ((q.length : Int) - 1) k0))).2.1)) (nth s0 (Int.toNat (dn ((q.length : Int) - 1) k0)))) (Int.toNat ((nth q (Int.toNat (dn ((q.length : Int) - 1) k0))).2.2.1)) (nth (List.set s0 (Int.toNat ((nth q (Int.toNat (dn ((q.length : Int) - 1) k0))).2.1)) (nth s0 (Int.toNat (dn ((q.length : Int) - 1) k0)))) (Int.toNat (dn ((q.length : Int) - 1) k0)))))] [3] [] [] (by rw [Zw (y := (nth (List.set s0 (Int.toNat ((nth q (Int.toNat (dn ((q.length : Int) - 1) k0))).2.1)) (nth s0 (Int.toNat (dn ((q.length : Int) - 1) k0)))) (Int.toNat (dn ((q.length : Int) - 1) k0)))) hx27 rfl]; first | done | kernel_rfl) ?_
   refine rn Qb [0, 2, 3, 4] [] (pe 1 (show .i (IntKind.i64.wrap ((dn ((q.length : Int) - 1) k0) - 1)) = .i (dn ((q.length : Int) - 1) (k0 + 1)) from Jn (show IntKind.i64.wrap ((dn ((q.length : Int) - 1) k0) - 1) = (dn ((q.length : Int) - 1) (k0 + 1)) from IntWalk.i64_in ((dn ((q.length : Int) - 1) k0) - 1) (by omega))) p0) ?_
   exact Exists.intro (List.set (List.set s0 (Int.toNat ((nth q (Int.toNat (dn ((q.length : Int) - 1) k0))).2.1)) (nth s0 (Int.toNat (dn ((q.length : Int) - 1) k0)))) (Int.toNat ((nth q (Int.toNat (dn ((q.length : Int) - 1) k0))).2.2.1)) (nth (List.set s0 (Int.toNat ((nth q (Int.toNat (dn ((q.length : Int) - 1) k0))).2.1)) (nth s0 (Int.toNat (dn ((q.length : Int) - 1) k0)))) (Int.toNat (dn ((q.length : Int) - 1) k0)))) (And.intro (Qd (by kernel_rfl)) ⟨K0 hk0 (Qm h6 (Q6 h19 (rfl))) hI0.1, (by first | omega | (simp only [List.length_set]; omega))⟩)
  have h19l : (((nth q (Int.toNat (dn ((q.length : Int) - 1) k0))).1 == (6 : Int))) = false := Pw h19
  have h19ld := Yg h19l
  have h19r : (((nth q (Int.toNat (dn ((q.length : Int) - 1) k0))).1 == (7 : Int))) = false := Px h19
  have h19rd := Yg h19r
  refine Qh ?_
  refine qu Qb [(4, .i (dn ((q.length : Int) - 1) (k0 + 1)))] [4, 5, 6] [] [5] (pe 1 (show .i (IntKind.i64.wrap ((dn ((q.length : Int) - 1) k0) - 1)) = .i (dn ((q.length : Int) - 1) (k0 + 1)) from Jn (show IntKind.i64.wrap ((dn ((q.length : Int) - 1) k0) - 1) = (dn ((q.length : Int) - 1) (k0 + 1)) from IntWalk.i64_in ((dn ((q.length : Int) - 1) k0) - 1) (by omega))) p0) ?_
  exact Exists.intro s0 (And.intro (Qd (by kernel_rfl)) ⟨K0 hk0 (Qm h6 (Qm h19 (rfl))) hI0.1, (by first | omega | (simp only [List.length_set]; omega))⟩)
 ·
  have hA0_0 := hI0.2
  have hdn0 := HL ((q.length : Int) - 1) k0
  refine Qe (sn Qb [0, 2, 3, 4, 18] [] (pe 1 (Qo (decide_eq_false (p := (dn ((q.length : Int) - 1) k0) ≥ (0 : Int)) (by omega))) p0) ?_)
  refine ckF ?_
  refine Q5 ?_
  exact Exists.intro s0 (And.intro (Qd (by kernel_rfl)) ⟨Bz hk0 (rfl) hI0.1, by first | omega | (simp only [List.length_set]; omega)⟩)
 have hD0_0 := hD0.2
 refine sn Qb [2] [] (p0) ?_
 refine Qg ?_
 exact po0 [] (Qm h1 (Wc hD0.1 (rfl)))
end Go.Proofs.YtkbfhiamdcoieaaGreatDoor
namespace Go.Proofs.YtkbfhiamdcoieaaGreatDoor
open Go.RowKit
theorem Gk {α : Type} [Inhabited α] {l : List α} {i j : Nat} (x : α) (h : j ≠ i) : nth (l.set j x) i = nth l i := by
  simp [nth, List.getD, List.getElem?_set_ne h]
theorem GV {q : List X4} (hv : Q4 q = true) {k : Nat} (hk : k < q.length) (s : List Bool) : Zc q k s = Wo q k s := by
  have hdn := HL ((q.length : Int) - 1) k
  obtain ⟨hl, hr⟩ := D0 hv (k := dn ((q.length : Int) - 1) k) (by omega) (by omega)
  unfold Zc Wo
  generalize hi : dn ((q.length : Int) - 1) k = i at hl hr ⊢
  generalize nth q (Int.toNat i) = n at hl hr ⊢
  by_cases h5 : n.1 = 5
  · simp [h5]
  by_cases h6 : n.1 = 6
  · have := hl (.inr (.inl h6))
    simp [h6]
    rw [Gk _ (by omega)]
  by_cases h7 : n.1 = 7
  · have := hl (.inr (.inr h7))
    simp [h7]
    rw [Gk _ (by omega)]
  simp only [beq_eq_false_iff_ne.2 h5, beq_eq_false_iff_ne.2 h6, beq_eq_false_iff_ne.2 h7, Bool.or_false, cond_false]
theorem YD (q : List X4) : Zs q = Xq q := by
  unfold Zs Xq
  rw [← OA]
  cases hv : Q4 q with
  | false => rfl
  | true =>
    simp only [Bool.not_true, cond_false]
    rw [YC (f := Wo q) (g := Zc q) (e := A9) (e' := Wn) (fun _ _ => rfl) _ _ _ fun i s _ hi => (GV hv (by omega) s).symm]
theorem VI (q : List X4) (k : Nat) (s : List Bool) : ∃ s', Zc q k s = .next s' ∧ s'.length = s.length := by
  unfold Zc
  generalize ((nth q (Int.toNat (dn ((q.length : Int) - 1) k))).1 == (5 : Int)) = a
  generalize ((nth q (Int.toNat (dn ((q.length : Int) - 1) k))).1 == (6 : Int)) = b
  generalize ((nth q (Int.toNat (dn ((q.length : Int) - 1) k))).1 == (7 : Int)) = c
  cases a <;> cases b <;> cases c <;> exact ⟨_, rfl, by simp⟩
theorem Ro (q : List X4) : ∀ (n k : Nat) (s : List Bool), ∃ s', Wd (Zc q) Wn n k s = .brk s' ∧ s'.length = s.length
  | 0, k, s => ⟨s, rfl, rfl⟩
  | n + 1, k, s => by
    obtain ⟨s1, h1, h2⟩ := VI q k s
    obtain ⟨s2, h3, h4⟩ := Ro q n (k + 1) s1
    refine ⟨s2, ?_, h4.trans h2⟩
    simp only [Wd, h1]
    exact h3
theorem Nb (q : List X4) : List.length (Xq q) ≤ List.length q := by
  unfold Xq
  cases Q4 q with
  | false => exact Nat.zero_le _
  | true =>
    obtain ⟨s, h1, h2⟩ := Ro q (List.length q) 0 (List.replicate (Int.toNat (q.length : Int)) false)
    simp only [Bool.not_true, cond_false, h1, Out.on]
    rw [h2]
    simp
theorem VJ (q : List X4) : List.length (Zs q) ≤ List.length q := by rw [YD]; exact Nb q
end Go.Proofs.YtkbfhiamdcoieaaGreatDoor
namespace Go.Proofs.YtkbfhiamdcoieaaGreatDoor
open Go.RowKit Go.Sort
open GoE (enc)
structure OneC (α σ : Type) [GoE α] where
  to : α → σ
  of : σ → α
  cell : σ → Value
  pv : α → PV
  ok : α → Prop
  of_to : ∀ a, of (to a) = a
  to_of : ∀ s, to (of s) = s
  enc_eq : ∀ a, enc a = [pv a]
  flat : ∀ a, (pv a).flat
  vv : ∀ (X : Nat → Prop) (w : World) v a, VV X w v (pv a) ↔ v = cell (to a) ∧ ok a
def Qb4 : OneC Int Int where
  to := id
  of := id
  cell := .int .i64
  pv := .int .i64
  ok := InR .i64
  of_to _ := rfl
  to_of _ := rfl
  enc_eq _ := rfl
  flat _ := trivial
  vv X w v a := ⟨fun h => by cases h with | int h => exact ⟨rfl, h⟩, fun ⟨h1, h2⟩ => by subst h1; exact .int h2⟩
def oneS : OneC ByteArray (List UInt8) where
  to b := b.data.toList
  of s := ⟨s.toArray⟩
  cell := encStr
  pv := .str
  ok b := b.size ≤ maxLen
  of_to b := by cases b; simp
  to_of s := by simp
  enc_eq _ := rfl
  flat _ := trivial
  vv X w v a := by
    have e : encStr a.data.toList = .string a := by cases a; simp [encStr]
    rw [e]
    exact ⟨fun h => by cases h with | str h => exact ⟨rfl, h⟩, fun ⟨h1, h2⟩ => by subst h1; exact .str h2⟩
section
variable {α σ : Type} [GoE α] (C : OneC α σ)
theorem GW {X : Nat → Prop} {w : World} : ∀ {l : List α} {cs : List Value}, VR X w 1 cs (eL l) → cs = (l.map C.to).map C.cell ∧ ∀ a, a ∈ l → C.ok a
  | [], cs, h => by
    generalize hr : eL ([] : List α) = r at h
    cases h with
    | nil => exact ⟨rfl, fun a ha => by simp at ha⟩
    | cons => cases hr
  | a :: l, cs, h => by
    generalize hr : eL (a :: l) = r at h
    cases h with
    | nil => cases hr
    | cons h1 h2 h3 =>
      rw [ZK, C.enc_eq] at hr
      obtain ⟨rfl, rfl⟩ : [C.pv a] = _ ∧ eL l = _ := by simpa using hr
      obtain ⟨e, hok⟩ := GW h3
      cases h1 with
      | cons h4 h5 =>
        cases h5
        obtain ⟨rfl, ha⟩ := (C.vv X w _ a).1 h4
        exact ⟨by rw [e]; rfl, fun b hb => (List.mem_cons.1 hb).elim (fun e => e ▸ ha) (hok b)⟩
theorem GX {X : Nat → Prop} {w : World} : ∀ {l : List α}, (∀ a, a ∈ l → C.ok a) → VR X w 1 ((l.map C.to).map C.cell) (eL l)
  | [], _ => .nil 1
  | a :: l, h => by
    rw [ZK, C.enc_eq]
    exact VR.cons (ce := [C.cell (C.to a)]) (.cons ((C.vv X w _ a).2 ⟨rfl, h a List.mem_cons_self⟩) .nil) rfl (GX fun b hb => h b (List.mem_cons_of_mem _ hb))
theorem TQ (l : List α) : (eL l).flatten = l.map C.pv := by
  induction l with
  | nil => rfl
  | cons a l ih => rw [ZK, C.enc_eq, List.flatten_cons, ih]; rfl
theorem Qck (l : List α) : eL l = (l.map C.pv).map fun c => [c] := by
  simp [eL, C.enc_eq, Function.comp_def]
theorem BZ (e : σ → Value) [Inhabited σ] (d : Array σ) (cur : Array Value) (h : d.size ≤ cur.size) : (Go.Sort.putCells e 0 d cur).toList = d.toList.map e ++ cur.toList.drop d.size := by
  apply List.ext_getElem?
  intro j
  unfold Go.Sort.putCells
  rw [Array.getElem?_toList, Array.getElem?_mapIdx]
  by_cases hj : j < d.size
  · rw [List.getElem?_append_left (by simpa using hj), Array.getElem?_eq_getElem (by omega : j < cur.size), List.getElem?_map, Array.getElem?_toList, Array.getElem?_eq_getElem hj]
    simp only [Option.map_some]
    rw [if_pos ⟨Nat.zero_le _, by omega⟩, Nat.sub_zero, getElem!_pos d j hj]
  rw [List.getElem?_append_right (by simpa using Nat.le_of_not_lt hj), List.getElem?_drop]
  have e1 : d.size + (j - (d.toList.map e).length) = j := by simp; omega
  rw [e1, Array.getElem?_toList]
  cases cur[j]? with
  | none => rfl
  | some x => simp; omega
theorem Nc {e : σ → Value} [Inhabited σ] {w : World} {g : Nat} {cur : Array Value} {ty : TypeId} (hg : w.heap[g]? = some (.cells cur ty (0, 0))) (q : Nat) (d : Array σ) (os : Array Obj) :
    (grow (putRow e (Sort.ahead w q) g 0 d) os).heap[g]? = some (.cells (Go.Sort.putCells e 0 d cur) ty (0, 0)) := by
  have hlt : g < w.heap.size := Xj hg
  unfold grow putRow mapBlock Sort.ahead
  simp only [Array.getElem?_append, Array.size_modify]
  rw [if_pos hlt, Array.getElem?_modify, if_pos rfl, hg]
  rfl
theorem Rp {e : σ → Value} [Inhabited σ] (w : World) (g q : Nat) (d : Array σ) (os : Array Obj) : (∀ b, b < w.heap.size → b ≠ g → (grow (putRow e (Sort.ahead w q) g 0 d) os).heap[b]? = w.heap[b]?) ∧ ∀ m, m ≤ g → m ≤ w.heap.size → Below m w (grow (putRow e (Sort.ahead w q) g 0 d) os) := by
  have h : ∀ b, b < w.heap.size → b ≠ g → (grow (putRow e (Sort.ahead w q) g 0 d) os).heap[b]? = w.heap[b]? := fun b hb hn => by
    unfold grow putRow mapBlock Sort.ahead
    simp only [Array.getElem?_append, Array.size_modify]
    rw [if_pos hb, Array.getElem?_modify, if_neg (fun e => hn e.symm)]
  refine ⟨h, fun m hm hs => ⟨rfl, rfl, rfl, ?_, fun b hb => h b (by omega) (by omega)⟩⟩
  unfold grow putRow mapBlock Sort.ahead
  simp
theorem CA {e : σ → Value} [Inhabited σ] {g : Nat} {w : World} {cur : Array Value} {ty : TypeId} {l : List σ} (hg : w.heap[g]? = some (.cells cur ty (0, 0))) (ht : cur.toList.take l.length = l.map e) : Holds e w g 0 l.toArray := by
  intro j hj
  have hjl : j < l.length := by simpa using hj
  have hc : cur[j]? = some (e l[j]) := by
    have h5 : (cur.toList.take l.length)[j]? = (l.map e)[j]? := by rw [ht]
    rw [List.getElem?_take, if_pos hjl, List.getElem?_map, List.getElem?_eq_getElem hjl, Array.getElem?_toList] at h5
    exact h5
  refine ⟨?_, ?_⟩
  · rw [Nat.zero_add]
    simp [World.cell?, hg, hc, getElem!_pos, hjl]
  simp [World.frozen?, hg]
variable {P : Program} [Inhabited σ]
theorem GY (F : Nat → Prop) (L : List Nat) (w : World) (oa : Option Addr) : Qcb F L w 1 true [] (.returned (.tuple #[])) w :=
  ⟨_, rfl, fun m _ _ => Below.refl _ _, fun _ _ _ => rfl, rfl, fun v2 l2 h => by simpa [Sl] using h⟩
theorem YE {f : Nat} (hok : Dq P f) (srt : List σ → List σ) (hlen : ∀ l, (srt l).length = l.length) (hmem : ∀ l x, x ∈ srt l → x ∈ l)
    (h0 : ∀ oa cap w, Calls P f #[.slice oa 0 cap] w fun e w' => e = .returned (.tuple #[]) ∧ w' = w)
    (h1 : ∀ g cap (l : List σ) w, Holds C.cell w g 0 l.toArray → g < w.heap.size → l.length < 4611686018427387904 → Calls P f #[.slice (some ⟨g, 0, none⟩) l.length cap] w fun e w' => e = .returned (.tuple #[]) ∧ ∃ n os, w' = grow (putRow C.cell (Sort.ahead w n) g 0 (srt l).toArray) os)
    (l : List α) : ATake P f 1 (eL l) [] false true (eL ((srt (l.map C.to)).map C.of)) := by
  refine ⟨hok, fun w F G L v vals _ hFG _ hGs _ hLG hrow hargs => ?_⟩
  cases hargs
  rcases hrow with ⟨hl, oa, rfl⟩ | ⟨g, cap, cur, ty, rfl, rfl, hg, hs, hr, h5, h6⟩
  · obtain rfl : l = [] := by simpa [eL] using hl
    have hs0 : srt [] = [] := List.eq_nil_of_length_eq_zero (by rw [hlen]; rfl)
    refine (h0 oa 0 w).mono ?_
    rintro e w' ⟨rfl, rfl⟩
    rw [List.map_nil, hs0]
    exact GY F L w' oa
  have hll : (eL l).length = l.length := by simp [eL]
  rw [hll] at hr h5 h6 ⊢
  rw [Nat.mul_one] at hr hs
  obtain ⟨hcs, hok'⟩ := GW C hr
  have hH : Holds C.cell w g 0 (l.map C.to).toArray := CA hg (by rw [List.length_map]; exact hcs)
  have hc := h1 g cap (l.map C.to) w hH (Xj hg) (by rw [List.length_map]; have := h6.2; omega)
  rw [List.length_map] at hc
  refine hc.mono ?_
  rintro e w' ⟨rfl, n, os, rfl⟩
  have hother := Rp (e := C.cell) w g n (srt (l.map C.to)).toArray os
  have hgl := Xj hg
  refine ⟨_, rfl, fun m hm hL => hother.2 m (hL g (by simp)) hm, fun b hb hn => hother.1 b hb (by simpa using hn), rfl, fun v2 l2 h2 => ?_⟩
  rcases h2 with ⟨rfl, oa, rfl⟩ | ⟨g2, cap2, cur2, ty2, hL2, rfl, hg2, hs2, hr2, h7, h8⟩
  · exact .inl ⟨by simp [Sl], oa, rfl⟩
  obtain rfl : g = g2 := by simpa using hL2
  rw [hg] at hg2
  cases hg2
  rw [TQ C, Sl]
  have hd : (srt (l.map C.to)).toArray.size ≤ cur.size := by simp only [List.size_toArray, hlen, List.length_map]; omega
  have hlen2 : (List.map (fun c => [c]) (List.take l2.length (List.map C.pv (List.map C.of (srt (l.map C.to))))) ++ List.drop (List.map C.pv (List.map C.of (srt (l.map C.to)))).length l2).length = l2.length := by
    simp only [List.length_append, List.length_map, List.length_take, List.length_drop]
    omega
  refine .inr ⟨g, cap2, _, ty, rfl, by rw [hlen2], Nc hg n _ os, ?_, ?_, by rw [hlen2]; exact h7, by rw [hlen2]; exact h8⟩
  · simp [Go.Sort.putCells, hs2]
  rw [hlen2, Nat.mul_one, BZ C.cell _ cur hd, List.take_append]
  rw [Nat.mul_one] at hr2
  refine VR.append ?_ ?_
  · have hk : VR F (grow (putRow C.cell (Sort.ahead w n) g 0 (srt (l.map C.to)).toArray) os) 1 (cur.toList.take l2.length) l2 := by
      refine hr2.keep fun b hb => ⟨hb, hother.1 b (hGs b (hFG b hb)) fun e => (hLG g (by simp)).2 (hFG g (e ▸ hb))⟩
    have := VR.drop (srt (l.map C.to)).length hk
    rw [Nat.mul_one, List.drop_take] at this
    simpa using this
  have hm : ∀ a, a ∈ (srt (l.map C.to)).map C.of → C.ok a := fun a ha => by
    obtain ⟨x, hx, rfl⟩ := List.mem_map.1 ha
    obtain ⟨b, hb, rfl⟩ := List.mem_map.1 (hmem _ _ hx)
    rw [C.of_to]; exact hok' b hb
  have := VR.take l2.length (GX C (X := F) (w := grow (putRow C.cell (Sort.ahead w n) g 0 (srt (l.map C.to)).toArray) os) hm)
  rw [Nat.mul_one, Qck C] at this
  simpa [List.map_take, Function.comp_def, C.to_of] using this
theorem YF {f : Nat} (hok : Dq P f) (cmp : List σ → List σ) (hlen : ∀ l, (cmp l).length ≤ l.length) (hmem : ∀ l x, x ∈ cmp l → x ∈ l)
    (h0 : ∀ oa cap w, Calls P f #[.slice oa 0 cap] w fun e w' => e = .returned (.slice oa 0 cap) ∧ w' = w)
    (h1 : ∀ g cap (l : List σ) w, Holds C.cell w g 0 l.toArray → l.length ≤ 9223372036854775807 → l.length ≤ cap → Calls P f #[.slice (some ⟨g, 0, none⟩) l.length cap] w fun e w' => e = .returned (.slice (some ⟨g, 0, none⟩) (cmp l).length cap) ∧ ∃ q pad, (cmp l ++ pad).length = l.length ∧ w' = putRow C.cell (Sort.ahead w q) g 0 (cmp l ++ pad).toArray)
    (l : List α) : ATake P f 1 (eL l) [] false false (eL ((cmp (l.map C.to)).map C.of)) := by
  refine ⟨hok, fun w F G L v vals _ hFG _ hGs _ hLG hrow hargs => ?_⟩
  cases hargs
  rcases hrow with ⟨hl, oa, rfl⟩ | ⟨g, cap, cur, ty, rfl, rfl, hg, hs, hr, h5, h6⟩
  · obtain rfl : l = [] := by simpa [eL] using hl
    have hs0 : cmp [] = [] := List.eq_nil_of_length_eq_zero (by have := hlen []; simpa using this)
    refine (h0 oa 0 w).mono ?_
    rintro e w' ⟨rfl, rfl⟩
    rw [List.map_nil, hs0]
    exact ⟨_, rfl, fun m _ _ => Below.refl _ _, fun _ _ _ => rfl, [], List.nodup_nil, fun b hb => (by simp at hb), .inl ⟨rfl, oa, rfl⟩⟩
  have hll : (eL l).length = l.length := by simp [eL]
  rw [hll] at hr h5 h6 ⊢
  rw [Nat.mul_one] at hr hs
  obtain ⟨hcs, hok'⟩ := GW C hr
  have hH : Holds C.cell w g 0 (l.map C.to).toArray := CA hg (by rw [List.length_map]; exact hcs)
  have hc := h1 g cap (l.map C.to) w hH (by rw [List.length_map]; have := h6.2; omega) (by rw [List.length_map]; exact h5)
  rw [List.length_map] at hc
  refine hc.mono ?_
  rintro e w' ⟨rfl, q, pad, hpad, rfl⟩
  have hw : putRow C.cell (Sort.ahead w q) g 0 (cmp (l.map C.to) ++ pad).toArray = grow (putRow C.cell (Sort.ahead w q) g 0 (cmp (l.map C.to) ++ pad).toArray) #[] := (grow_empty _).symm
  rw [hw]
  have hother := Rp (e := C.cell) w g q (cmp (l.map C.to) ++ pad).toArray #[]
  have hgl := Xj hg
  have hd : (cmp (l.map C.to) ++ pad).toArray.size ≤ cur.size := by rw [List.size_toArray, hpad]; omega
  have hle := hlen (l.map C.to)
  rw [List.length_map] at hle
  have hel : (eL ((cmp (l.map C.to)).map C.of)).length = (cmp (l.map C.to)).length := by simp [eL]
  have hsz : g < (grow (putRow C.cell (Sort.ahead w q) g 0 (cmp (l.map C.to) ++ pad).toArray) #[]).heap.size := Xj (Nc hg q _ #[])
  refine ⟨_, rfl, fun m hm hL => hother.2 m (hL g (by simp)) hm, fun b hb hn => hother.1 b hb (by simpa using hn), [g], by simp, fun b hb => ?_, .inr ⟨g, cap, _, ty, rfl, by rw [hel], Nc hg q _ #[], ?_, ?_, by rw [hel]; omega, h6.1, by rw [hel]; have := h6.2; omega⟩⟩
  · obtain rfl := List.mem_singleton.1 hb
    exact ⟨hsz, .inr (by simp)⟩
  · simp [Go.Sort.putCells, hs]
  rw [hel, Nat.mul_one, BZ C.cell _ cur hd]
  have hm : ∀ a, a ∈ (cmp (l.map C.to)).map C.of → C.ok a := fun a ha => by
    obtain ⟨x, hx, rfl⟩ := List.mem_map.1 ha
    obtain ⟨b, hb, rfl⟩ := List.mem_map.1 (hmem _ _ hx)
    rw [C.of_to]; exact hok' b hb
  have := GX C (X := F) (w := grow (putRow C.cell (Sort.ahead w q) g 0 (cmp (l.map C.to) ++ pad).toArray) #[]) hm
  have e1 : ((cmp (l.map C.to)).map C.of).map C.to = cmp (l.map C.to) := by simp [Function.comp_def, C.to_of]
  rw [e1] at this
  rw [List.map_append, List.append_assoc, List.take_left' (by simp)]
  exact VR.keep (fun b hb => ⟨.inl hb, rfl⟩) this
end
/-! ### the rows that Sort and Compact give, typed -/
def Rx (l : List Int) : List Int := l.mergeSort fun x y => decide (x ≤ y)
def Lf (l : List ByteArray) : List ByteArray := ((l.map oneS.to).mergeSort fun x y => decide (x ≤ y)).map oneS.of
def HQ (l : List Int) : List Int := Lib.compact l
def Th (l : List ByteArray) : List ByteArray := (Lib.compact (l.map oneS.to)).map oneS.of
theorem CB {σ : Type} [Inhabited σ] [DecidableEq σ] (l : List σ) (x : σ) (h : x ∈ Lib.compact l) : x ∈ l := by
  unfold Lib.compact Lib.compactUpTo at h
  simp only [List.mem_map, List.mem_filter, List.mem_range] at h
  obtain ⟨j, ⟨hj, _⟩, e⟩ := h
  have e1 : l.toArray[j]! = l[j] := by rw [getElem!_pos l.toArray j (by simpa using hj)]; simp
  rw [e1] at e
  exact e ▸ List.getElem_mem hj
theorem Ok {σ : Type} [Inhabited σ] [DecidableEq σ] (l : List σ) : (Lib.compact l).length ≤ l.length := by
  unfold Lib.compact Lib.compactUpTo
  rw [List.length_map]
  exact Nat.le_trans (List.length_filter_le _ _) (by rw [List.length_range]; exact Nat.le_refl _)
theorem GZ (l : List Int) : (Rx l).length = l.length := List.length_mergeSort _
theorem VK (l : List ByteArray) : (Lf l).length = l.length := by simp [Lf, List.length_mergeSort]
theorem IA (l : List ByteArray) : (Th l).length ≤ l.length := by
  have := Ok (l.map oneS.to)
  rw [List.length_map] at this
  simpa [Th] using this
theorem CC {α : Type} [GoE α] {l k : List α} (h1 : ∀ a : α, (enc a).length = 1) (h : k.length = l.length) : PM (eL l) 0 4294967296 (eL k).flatten = eL k := by
  have hk : ∀ k : List α, ((eL k).flatten.map fun c => [c]) = eL k := fun k => by
    induction k with
    | nil => rfl
    | cons a k ih =>
      rw [ZK, List.flatten_cons, List.map_append, ih]
      have := h1 a
      match enc a, this with
      | [p], _ => rfl
  have hf : (eL k).flatten.length = k.length := by
    have := congrArg List.length (hk k)
    rw [List.length_map] at this
    rw [this]
    simp [eL]
  show Sl (eL l) (eL k).flatten = eL k
  unfold Sl
  have e1 : (eL l).length = l.length := by simp [eL]
  rw [e1, List.take_of_length_le (by omega), hk, List.drop_of_length_le (by omega), List.append_nil]
end Go.Proofs.YtkbfhiamdcoieaaGreatDoor
namespace Go.Proofs.YtkbfhiamdcoieaaGreatDoor
open Go.RowKit
section
variable {σ : Type} (lt : σ → σ → Prop)
theorem CE (irr : ∀ a, ¬ lt a a) (tr : ∀ a b c, lt a b → lt b c → lt a c) : ∀ (a b : List σ), a.Pairwise lt → b.Pairwise lt → (∀ x, x ∈ a ↔ x ∈ b) → a = b
  | [], [], _, _, _ => rfl
  | [], y :: b, _, _, h => by have := (h y).2 (by simp); simp at this
  | x :: a, [], _, _, h => by have := (h x).1 (by simp); simp at this
  | x :: a, y :: b, ha, hb, h => by
    rw [List.pairwise_cons] at ha hb
    have h1 : x = y := by
      have hx := (h x).1 (by simp)
      have hy := (h y).2 (by simp)
      simp only [List.mem_cons] at hx hy
      rcases hx with e | hx
      · exact e
      rcases hy with e | hy
      · exact e.symm
      exact (irr x (tr _ _ _ (ha.1 y hy) (hb.1 x hx))).elim
    subst h1
    congr 1
    refine CE irr tr a b ha.2 hb.2 fun z => ?_
    have hz := h z
    simp only [List.mem_cons] at hz
    constructor
    · intro hm
      have hlt := ha.1 z hm
      rcases hz.1 (.inr hm) with e | e
      · subst e; exact (irr z hlt).elim
      exact e
    intro hm
    have hlt := hb.1 z hm
    rcases hz.2 (.inr hm) with e | e
    · subst e; exact (irr z hlt).elim
    exact e
theorem CF [Inhabited σ] [DecidableEq σ] (d : Array σ) (tr : ∀ a b c, ¬ lt b a → lt b c → lt a c) (tri : ∀ a b, ¬ lt b a → a ≠ b → lt a b) (hs : ∀ i j, i ≤ j → j < d.size → ¬ lt d[j]! d[i]!) :
    ∀ m, m ≤ d.size → (Lib.compactUpTo d m).Pairwise lt ∧ ∀ x, x ∈ Lib.compactUpTo d m ↔ ∃ j, j < m ∧ d[j]! = x
  | 0, _ => by simp [Lib.compactUpTo]
  | m + 1, hm => by
    obtain ⟨h1, h2⟩ := CF d tr tri hs m (by omega)
    rw [Lib.compactUpTo_succ]
    by_cases hk : Lib.keeps d m = true
    · rw [if_pos hk]
      refine ⟨?_, fun x => ?_⟩
      · rw [List.pairwise_append]
        refine ⟨h1, by simp, fun a ha b hb => ?_⟩
        obtain ⟨j, hj, rfl⟩ := (h2 a).1 ha
        obtain rfl : b = d[m]! := by simpa using hb
        have hle := hs j (m - 1) (by omega) (by omega)
        have hle2 := hs (m - 1) m (by omega) (by omega)
        have hne : d[m]! ≠ d[m - 1]! := by
          unfold Lib.keeps at hk
          simp only [Bool.or_eq_true, beq_iff_eq, bne_iff_ne, decide_eq_true_eq] at hk
          rcases hk with h | h
          · omega
          exact h
        exact tr _ _ _ hle (tri _ _ hle2 fun e => hne e.symm)
      rw [List.mem_append, h2 x]
      constructor
      · rintro (⟨j, hj, e⟩ | h)
        · exact ⟨j, by omega, e⟩
        exact ⟨m, by omega, by simpa using (by simpa using h : x = d[m]!).symm⟩
      rintro ⟨j, hj, e⟩
      by_cases hjm : j = m
      · subst hjm; exact .inr (by simp [e])
      exact .inl ⟨j, by omega, e⟩
    rw [if_neg hk, List.append_nil]
    refine ⟨h1, fun x => ?_⟩
    rw [h2 x]
    have hm0 : m ≠ 0 ∧ d[m]! = d[m - 1]! := by
      unfold Lib.keeps at hk
      simp only [Bool.or_eq_true, beq_iff_eq, bne_iff_ne, decide_eq_true_eq, not_or, Decidable.not_not] at hk
      exact hk
    constructor
    · rintro ⟨j, hj, e⟩; exact ⟨j, by omega, e⟩
    rintro ⟨j, hj, e⟩
    by_cases hjm : j = m
    · subst hjm; exact ⟨j - 1, by omega, hm0.2 ▸ e⟩
    exact ⟨j, by omega, e⟩
end
/-! ### texts -/
def bl (a b : ByteArray) : Bool := Op.bytesLess a.toList b.toList
theorem VL {a b c : List UInt8} (h : a < b) (h' : b < c) : a < c := List.lt_trans h h'
theorem IB (a : List UInt8) : ¬ a < a := List.lt_irrefl a
theorem HR {a b : List UInt8} (h : ¬ b < a) (hn : a ≠ b) : a < b := Classical.byContradiction fun h' => hn (List.le_antisymm h h')
theorem Ti (a b : ByteArray) : bl a b = true ↔ a.data.toList < b.data.toList := by
  unfold bl
  rw [bytesLess_eq, ByteArray.toList_eq, ByteArray.toList_eq, decide_eq_true_iff]
theorem Qba (a : ByteArray) : bl a a = false := by
  cases h : bl a a with
  | false => rfl
  | true => exact (IB _ ((Ti a a).1 h)).elim
theorem CG {a b c : ByteArray} (h : bl a b = true) (h' : bl b c = true) : bl a c = true := (Ti _ _).2 (VL ((Ti _ _).1 h) ((Ti _ _).1 h'))
theorem Qbb {a b : ByteArray} (h : bl b a = false) (hn : a ≠ b) : bl a b = true := (Ti _ _).2 (HR (fun hb => by rw [(Ti _ _).2 hb] at h; cases h) fun e => hn (by cases a; cases b; simp at e; rw [e]))
def VM : List ByteArray → ByteArray → List ByteArray
  | [], s => [s]
  | x :: l, s => if bl x s then x :: VM l s else if x = s then x :: l else s :: x :: l
def RG (l : List ByteArray) : Prop := l.Pairwise fun a b => bl a b = true
theorem ZU (s x : ByteArray) : ∀ l, x ∈ VM l s ↔ x = s ∨ x ∈ l
  | [] => by simp [VM]
  | y :: l => by
    simp only [VM]
    split
    · rw [List.mem_cons, ZU s x l, List.mem_cons]
      constructor
      · rintro (h | h | h) <;> simp [h]
      rintro (h | h | h) <;> simp [h]
    split
    · rename_i e
      subst e
      simp
    simp
theorem CH (s : ByteArray) : ∀ l, RG l → RG (VM l s)
  | [], _ => by simp [RG, VM]
  | y :: l, h => by
    have h := List.pairwise_cons.1 h
    simp only [VM]
    split
    · rename_i hl
      refine List.pairwise_cons.2 ⟨fun z hz => ?_, CH s l h.2⟩
      rcases (ZU s z l).1 hz with e | hz
      · exact e ▸ hl
      exact h.1 z hz
    split
    · exact List.pairwise_cons.2 h
    rename_i hl hn
    have hs : bl s y = true := Qbb (by simpa using hl) fun e => hn e.symm
    refine List.pairwise_cons.2 ⟨fun z hz => ?_, List.pairwise_cons.2 h⟩
    rcases List.mem_cons.1 hz with rfl | hz
    · exact hs
    exact CG hs (h.1 z hz)
theorem CI (s : ByteArray) : ∀ l, (VM l s).length ≤ l.length + 1
  | [] => by simp [VM]
  | y :: l => by
    have := CI s l
    simp only [VM]
    split
    · simp only [List.length_cons]; omega
    split <;> simp
def Nd (l xs : List ByteArray) : List ByteArray := xs.foldl VM l
theorem Tj (x : ByteArray) : ∀ xs l, x ∈ Nd l xs ↔ x ∈ xs ∨ x ∈ l
  | [], l => by simp [Nd]
  | y :: xs, l => by
    show x ∈ Nd (VM l y) xs ↔ _
    rw [Tj x xs, ZU, List.mem_cons]
    constructor
    · rintro (h | h | h) <;> simp [h]
    rintro ((h | h) | h) <;> simp [h]
theorem Tk : ∀ xs l, RG l → RG (Nd l xs)
  | [], _, h => h
  | y :: xs, l, h => Tk xs (VM l y) (CH y l h)
theorem OB (a b : List ByteArray) (ha : RG a) (hb : RG b) (h : ∀ x, x ∈ a ↔ x ∈ b) : a = b :=
  CE (fun a b => bl a b = true) (fun a h => by rw [Qba] at h; cases h) (fun _ _ _ => CG) a b ha hb h
theorem Tl (l : List ByteArray) : RG (Th (Lf l)) ∧ ∀ x, x ∈ Th (Lf l) ↔ x ∈ l := by
  have hto : (Lf l).map oneS.to = (l.map oneS.to).mergeSort fun x y => decide (x ≤ y) := by simp [Lf, Function.comp_def, oneS.to_of]
  unfold Th
  rw [hto]
  generalize hm : l.map oneS.to = m
  have hp := List.mergeSort_perm m (fun x y => decide (x ≤ y))
  have hs := List.pairwise_mergeSort (le := fun (x y : List UInt8) => decide (x ≤ y)) (fun a b c h1 h2 => by
    simp only [decide_eq_true_eq] at h1 h2 ⊢; exact List.le_trans h1 h2) (fun a b => by
    have := List.le_total a b
    simpa using this) m
  generalize (m.mergeSort fun x y => decide (x ≤ y)) = s at hp hs
  have hget : ∀ j, j < s.length → s.toArray[j]! = s[j]! := fun j hj => by simp
  have hmono : ∀ i j, i ≤ j → j < s.toArray.size → ¬ s.toArray[j]! < s.toArray[i]! := fun i j hij hj => by
    have hj : j < s.length := by simpa using hj
    rw [hget i (by omega), hget j hj, getElem!_pos s i (by omega), getElem!_pos s j hj]
    by_cases e : i = j
    · subst e; exact IB _
    have := List.pairwise_iff_getElem.1 hs i j (by omega) hj (by omega)
    simpa using this
  obtain ⟨h1, h2⟩ := CF (fun a b : List UInt8 => a < b) s.toArray (fun a b c hab hbc => by
    by_cases e : a = b
    · exact e ▸ hbc
    exact VL (HR hab e) hbc) (fun a b h hn => HR h hn) hmono s.length (by simp)
  refine ⟨?_, fun x => ?_⟩
  · refine List.pairwise_map.2 (h1.imp fun {a b} h => (Ti _ _).2 ?_)
    simpa [oneS] using h
  have hmem : x ∈ l ↔ oneS.to x ∈ m := by
    rw [← hm, List.mem_map]
    refine ⟨fun h => ⟨x, h, rfl⟩, fun ⟨y, h, e⟩ => ?_⟩
    have := congrArg oneS.of e
    rw [oneS.of_to, oneS.of_to] at this
    exact this ▸ h
  rw [hmem, ← hp.mem_iff, List.mem_map]
  constructor
  · rintro ⟨y, hy, rfl⟩
    obtain ⟨j, hj, e⟩ := (h2 y).1 hy
    rw [hget j hj, getElem!_pos s j hj] at e
    rw [oneS.to_of]
    exact e ▸ List.getElem_mem hj
  intro h
  obtain ⟨j, hj, e⟩ := List.getElem_of_mem h
  exact ⟨oneS.to x, (h2 _).2 ⟨j, hj, by rw [hget j hj, getElem!_pos s j hj]; exact e⟩, oneS.of_to x⟩
theorem OD (l : List ByteArray) : Th (Lf l) = Nd [] l :=
  OB _ _ (Tl l).1 (Tk l [] List.Pairwise.nil) fun x => by rw [(Tl l).2, Tj]; simp
end Go.Proofs.YtkbfhiamdcoieaaGreatDoor
namespace Go.Proofs.YtkbfhiamdcoieaaGreatDoor
abbrev Vk := List (Nat × Int)
def Fw (E : Vk) (L : List Int) : Int := E.foldl (fun m e => max m (nth L e.1 + e.2)) 0
theorem G6 (L : List Int) (x : Int) : ∀ (E : Vk) (m : Int), E.foldl (fun m e => max m (nth L e.1 + e.2)) m ≤ x ↔ m ≤ x ∧ ∀ e, e ∈ E → nth L e.1 + e.2 ≤ x
  | [], m => by simp
  | e :: E, m => by
    rw [List.foldl_cons, G6 L x E]
    constructor
    · rintro ⟨h1, h2⟩
      refine ⟨by omega, fun e' he => ?_⟩
      rcases List.mem_cons.1 he with rfl | he
      · omega
      exact h2 e' he
    rintro ⟨h1, h2⟩
    have := h2 e List.mem_cons_self
    exact ⟨by omega, fun e' he => h2 e' (List.mem_cons_of_mem _ he)⟩
theorem Ba {E : Vk} {L : List Int} {x : Int} : Fw E L ≤ x ↔ 0 ≤ x ∧ ∀ e, e ∈ E → nth L e.1 + e.2 ≤ x := G6 L x E 0
theorem Nf (E : Vk) (L : List Int) : 0 ≤ Fw E L := (Ba.1 (Int.le_refl _)).1
theorem VN {E : Vk} {L M : List Int} (h : ∀ j, nth L j ≤ nth M j) : Fw E L ≤ Fw E M :=
  Ba.2 ⟨Nf E M, fun e he => by
    have := (Ba.1 (Int.le_refl (Fw E M))).2 e he
    have := h e.1
    omega⟩
theorem Ng {L : List Int} {i : Nat} (x : Int) (j : Nat) (hi : i < L.length) : nth (L.set i x) j = if j = i then x else nth L j := by
  unfold nth
  by_cases h : j = i
  · subst h; simp [List.getD, hi]
  rw [if_neg h]; simp [List.getD, List.getElem?_set, Ne.symm h]
theorem Tm {L : List Int} {i : Nat} (h : L.length ≤ i) : nth L i = 0 := by
  unfold nth
  simp [List.getD, List.getElem?_eq_none h]
def Ug (E : Nat → Vk) (L : List Int) (i : Nat) : List Int := if nth L i < Fw (E i) L then L.set i (Fw (E i) L) else L
theorem E9 (E : Nat → Vk) (L : List Int) (i : Nat) : (Ug E L i).length = L.length := by unfold Ug; split <;> simp
theorem ZV (E : Nat → Vk) (L : List Int) (i j : Nat) : nth L j ≤ nth (Ug E L i) j := by
  unfold Ug
  split
  · rename_i h
    by_cases hi : i < L.length
    · rw [Ng _ _ hi]; split
      · rename_i e; subst e; omega
      omega
    rw [List.set_eq_of_length_le (by omega)]; omega
  omega
def rounds (E : Nat → Vk) (is : List Nat) (L : List Int) : List Int := is.foldl (Ug E) L
theorem L6 (E : Nat → Vk) : ∀ (is : List Nat) (L : List Int), (rounds E is L).length = L.length
  | [], _ => rfl
  | i :: is, L => (L6 E is (Ug E L i)).trans (E9 E L i)
theorem Ol (E : Nat → Vk) (j : Nat) : ∀ (is : List Nat) (L : List Int), nth L j ≤ nth (rounds E is L) j
  | [], _ => Int.le_refl _
  | i :: is, L => Int.le_trans (ZV E L i j) (Ol E j is (Ug E L i))
theorem IC {L M : List Int} (hl : L.length = M.length) (h : ∀ j, nth L j = nth M j) : L = M := by
  apply List.ext_getElem hl
  intro i h1 h2
  have := h i
  simpa [nth, List.getD, h1, h2] using this
theorem YG (E : Nat → Vk) : ∀ (is : List Nat) (L : List Int), rounds E is L = L → ∀ i, i ∈ is → Ug E L i = L
  | [], _, _, i, hi => by simp at hi
  | a :: is, L, h, i, hi => by
    have h1 : Ug E L a = L := IC (E9 E L a) fun j => by
      have h2 := ZV E L a j
      have h3 := Ol E j is (Ug E L a)
      have h4 : nth (rounds E is (Ug E L a)) j = nth L j := congrArg (nth · j) h
      omega
    rcases List.mem_cons.1 hi with rfl | hi
    · exact h1
    refine YG E is L ?_ i hi
    have : rounds E is (Ug E L a) = L := h
    rwa [h1] at this
theorem YH {E : Nat → Vk} {L : List Int} {i : Nat} (hi : i < L.length) : Ug E L i = L ↔ Fw (E i) L ≤ nth L i := by
  unfold Ug
  constructor
  · intro h
    split at h
    · rename_i hlt
      have h2 : nth (L.set i (Fw (E i) L)) i = nth L i := by rw [h]
      rw [Ng _ _ hi, if_pos rfl] at h2
      omega
    omega
  intro h
  rw [if_neg (by omega)]
def Sat (E : Nat → Vk) (n : Nat) (g : List Int) : Prop := ∀ i, i < n → Fw (E i) g ≤ nth g i
theorem HS {E : Nat → Vk} {n : Nat} {L g : List Int} {i : Nat} (hi : i < n) (hn : L.length = n) (hs : Sat E n g) (h : ∀ j, nth L j ≤ nth g j) : ∀ j, nth (Ug E L i) j ≤ nth g j := by
  intro j
  unfold Ug
  split
  · rw [Ng _ _ (by omega)]
    split
    · rename_i e; subst e
      exact Int.le_trans (VN h) (hs j hi)
    exact h j
  exact h j
theorem Lg {E : Nat → Vk} {n : Nat} {g : List Int} (hs : Sat E n g) : ∀ (is : List Nat) (L : List Int), (∀ i, i ∈ is → i < n) → L.length = n → (∀ j, nth L j ≤ nth g j) → ∀ j, nth (rounds E is L) j ≤ nth g j
  | [], _, _, _, h => h
  | i :: is, L, hi, hn, h => Lg hs is (Ug E L i) (fun k hk => hi k (List.mem_cons_of_mem _ hk)) ((E9 E L i).trans hn) (HS (hi i List.mem_cons_self) hn hs h)
theorem RH : ∀ (m : Nat) (l : List Int), (∀ v : Nat, v < m → ((v : Nat) : Int) ∈ l) → m ≤ l.length
  | 0, _, _ => Nat.zero_le _
  | m + 1, l, h => by
    have hm := h m (by omega)
    have := RH m (l.erase (m : Int)) fun v hv => (List.mem_erase_of_ne (by omega)).2 (h v (by omega))
    rw [List.length_erase_of_mem hm] at this
    have : 0 < l.length := List.length_pos_of_mem hm
    omega
theorem HT {L : List Int} {i : Nat} (h : i < L.length) : nth L i ∈ L := by
  have : nth L i = L[i] := by simp [nth, List.getD, h]
  rw [this]; exact List.getElem_mem h
theorem ZW {L : List Int} {x : Int} (h : x ∈ L) : ∃ i, i < L.length ∧ nth L i = x := by
  obtain ⟨i, hi, e⟩ := List.getElem_of_mem h
  exact ⟨i, hi, by rw [← e]; simp [nth, List.getD, hi]⟩
theorem TR {L : List Int} {f : Int → Int} {i : Nat} (h : i < L.length) : nth (L.map f) i = f (nth L i) := by simp [nth, List.getD, h]
theorem DZ {E : Nat → Vk} {n : Nat} {f : List Int} (hw : ∀ i e, e ∈ E i → e.2 ≤ 1 ∧ e.1 < n) (hlen : f.length = n) (hs : Sat E n f) (hleast : ∀ g : List Int, g.length = n → Sat E n g → (∀ j, 0 ≤ nth g j) → ∀ j, nth f j ≤ nth g j) (h0 : ∀ j, 0 ≤ nth f j) :
    ∀ i, i < n → nth f i < (n : Int) := by
  intro i hi
  have hall : ∀ v : Nat, (v : Int) ≤ nth f i → ((v : Nat) : Int) ∈ f := fun v hv => by
    refine Classical.byContradiction fun hno => ?_
    have hne : ∀ j, j < n → nth f j ≠ v := fun j hj e => hno (e ▸ HT (by omega))
    have hvi : (v : Int) < nth f i := by have := hne i hi; omega
    let g := f.map fun x => if (v : Int) < x then x - 1 else x
    have hg : ∀ j, j < n → nth g j = if (v : Int) < nth f j then nth f j - 1 else nth f j := fun j hj => TR (by omega)
    have hg0 : ∀ j, ¬ j < n → nth g j = 0 := fun j hj => Tm (by simp only [g, List.length_map]; omega)
    have hf0 : ∀ j, ¬ j < n → nth f j = 0 := fun j hj => Tm (by omega)
    have hpos : ∀ j, 0 ≤ nth g j := fun j => by
      by_cases hj : j < n
      · rw [hg j hj]; have := h0 j; split <;> omega
      rw [hg0 j hj]; omega
    have := hleast g (by simp only [g, List.length_map]; exact hlen) (fun k hk => Ba.2 ⟨hpos k, fun e he => ?_⟩) hpos i
    · rw [hg i hi, if_pos hvi] at this; omega
    have h1 := (Ba.1 (hs k hk)).2 e he
    obtain ⟨h2, hj⟩ := hw k e he
    have h3 := hne k hk
    rw [hg k hk]
    have h4 := hne e.1 hj
    rw [hg e.1 hj]
    split <;> split <;> omega
  have hp := RH ((nth f i).toNat + 1) f fun v hv => hall v (by have := h0 i; omega)
  have := h0 i
  omega
/-! ### rounds until rest -/
theorem IE : ∀ (L : List Int) (i : Nat) (x : Int), i < L.length → (L.set i x).sum = L.sum + (x - nth L i)
  | [], i, x, h => by simp at h
  | a :: L, 0, x, _ => by simp [nth]; omega
  | a :: L, i + 1, x, h => by
    have := IE L i x (by simpa using h)
    have e : nth (a :: L) (i + 1) = nth L i := rfl
    rw [e, List.set_cons_succ, List.sum_cons, List.sum_cons, this]
    omega
theorem CJ : ∀ (L : List Int) (N : Int), (∀ x, x ∈ L → x ≤ N) → L.sum ≤ (L.length : Int) * N
  | [], N, _ => by simp
  | a :: L, N, h => by
    have h1 := CJ L N fun x hx => h x (List.mem_cons_of_mem _ hx)
    have h2 := h a List.mem_cons_self
    rw [List.sum_cons, List.length_cons, Int.natCast_add, Int.add_mul]
    omega
theorem VO {E : Nat → Vk} {L : List Int} {i : Nat} (hi : i < L.length) : L.sum ≤ (Ug E L i).sum ∧ (Ug E L i ≠ L → L.sum + 1 ≤ (Ug E L i).sum) := by
  unfold Ug
  split
  · rename_i h
    have := IE L i (Fw (E i) L) hi
    omega
  exact ⟨Int.le_refl _, fun h => (h rfl).elim⟩
theorem L7 {E : Nat → Vk} : ∀ (is : List Nat) (L : List Int), (∀ i, i ∈ is → i < L.length) → L.sum ≤ (rounds E is L).sum ∧ (rounds E is L ≠ L → L.sum + 1 ≤ (rounds E is L).sum)
  | [], L, _ => ⟨Int.le_refl _, fun h => (h rfl).elim⟩
  | i :: is, L, h => by
    obtain ⟨h1, h2⟩ := VO (E := E) (h i List.mem_cons_self)
    obtain ⟨h3, h4⟩ := L7 (E := E) is (Ug E L i) fun k hk => by rw [E9]; exact h k (List.mem_cons_of_mem _ hk)
    show L.sum ≤ (rounds E is (Ug E L i)).sum ∧ (rounds E is (Ug E L i) ≠ L → L.sum + 1 ≤ (rounds E is (Ug E L i)).sum)
    refine ⟨by omega, fun hn => ?_⟩
    by_cases e : Ug E L i = L
    · have := h4 (by rw [e] at hn ⊢; exact hn)
      omega
    have := h2 e
    omega
def C5 (E : Nat → Vk) (N : Int) : List Nat → Bool × List Int → Option (Bool × List Int)
  | [], s => some s
  | i :: is, s => if N < Fw (E i) s.2 then none else C5 E N is (if nth s.2 i < Fw (E i) s.2 then (true, s.2.set i (Fw (E i) s.2)) else s)
theorem Du {E : Nat → Vk} {N : Int} : ∀ (is : List Nat) (c : Bool) (L : List Int) (s : Bool × List Int), (∀ i, i ∈ is → i < L.length) → C5 E N is (c, L) = some s → s.2 = rounds E is L ∧ (s.1 = true → c = true ∨ rounds E is L ≠ L) ∧ (s.1 = false → c = false ∧ rounds E is L = L) ∧ ((∀ j, nth L j ≤ N) → ∀ j, nth s.2 j ≤ N)
  | [], c, L, s, _, h => by
    obtain rfl := Option.some.inj h
    exact ⟨rfl, fun h => .inl h, fun h => ⟨h, rfl⟩, fun h => h⟩
  | i :: is, c, L, s, hi, h => by
    have hil := hi i List.mem_cons_self
    have hlen : ∀ k, k ∈ is → k < (Ug E L i).length := fun k hk => by rw [E9]; exact hi k (List.mem_cons_of_mem _ hk)
    simp only [C5] at h
    split at h
    · cases h
    rename_i hN
    split at h
    · rename_i hlt
      have er : Ug E L i = L.set i (Fw (E i) L) := by unfold Ug; rw [if_pos hlt]
      rw [← er] at h
      obtain ⟨h1, h2, h3, h4⟩ := Du is true (Ug E L i) s hlen h
      have hne : rounds E (i :: is) L ≠ L := fun e => by
        have := (L7 (E := E) is (Ug E L i) hlen).1
        have h5 := (VO (E := E) hil).2 fun e' => by
          have := (YH hil).1 e'
          omega
        have h6 : (rounds E is (Ug E L i)).sum = L.sum := congrArg List.sum e
        omega
      refine ⟨h1, fun _ => .inr hne, fun h => (by have := (h3 h).1; cases this), fun hb j => h4 (fun j => ?_) j⟩
      rw [er, Ng _ _ hil]
      split
      · omega
      exact hb j
    rename_i hlt
    have er : Ug E L i = L := by unfold Ug; rw [if_neg hlt]
    have e2 : rounds E (i :: is) L = rounds E is L := by show rounds E is (Ug E L i) = _; rw [er]
    rw [e2]
    exact Du is c L s (fun k hk => hi k (List.mem_cons_of_mem _ hk)) h
theorem Rq {E : Nat → Vk} {N : Int} : ∀ (is : List Nat) (c : Bool) (L : List Int), C5 E N is (c, L) = none → ∃ pre i, (∀ k, k ∈ pre → k ∈ is) ∧ i ∈ is ∧ N < Fw (E i) (rounds E pre L)
  | [], c, L, h => by cases h
  | i :: is, c, L, h => by
    simp only [C5] at h
    split at h
    · rename_i hN
      exact ⟨[], i, fun k hk => by simp at hk, List.mem_cons_self, hN⟩
    have key : ∀ c' L', L' = Ug E L i → C5 E N is (c', L') = none → ∃ pre k, (∀ x, x ∈ pre → x ∈ i :: is) ∧ k ∈ i :: is ∧ N < Fw (E k) (rounds E pre L) := fun c' L' e h => by
      obtain ⟨pre, k, h1, h2, h3⟩ := Rq is c' L' h
      subst e
      refine ⟨i :: pre, k, fun x hx => ?_, List.mem_cons_of_mem _ h2, h3⟩
      rcases List.mem_cons.1 hx with rfl | hx
      · exact List.mem_cons_self
      exact List.mem_cons_of_mem _ (h1 x hx)
    split at h
    · rename_i hlt
      exact key true _ (by unfold Ug; rw [if_pos hlt]) h
    rename_i hlt
    exact key c _ (by unfold Ug; rw [if_neg hlt]) h
def Py (E : Nat → Vk) (N : Int) (n : Nat) : Nat → Bool × List Int → Option (Option (List Int))
  | 0, _ => none
  | k + 1, s => match s.1 with
    | true => (match C5 E N (List.range n) (false, s.2) with
      | none => some none
      | some s' => Py E N n k s')
    | false => some (some s.2)
theorem Ap {n i : Nat} (h : i ∈ List.range n) : i < n := List.mem_range.1 h
theorem YI {E : Nat → Vk} {n : Nat} : ∀ (k : Nat) (c : Bool) (L : List Int), L.length = n → (∀ j, nth L j ≤ (n : Int)) → (n : Int) * (n : Int) - L.sum + 2 ≤ (k : Int) → (Py E n n k (c, L)).isSome = true
  | 0, c, L, hl, hb, hk => by
    have := CJ L n fun x hx => by obtain ⟨i, _, e⟩ := ZW hx; exact e ▸ hb i
    rw [hl] at this
    omega
  | k + 1, false, L, hl, hb, hk => rfl
  | k + 1, true, L, hl, hb, hk => by
    simp only [Py]
    cases hc : C5 E n (List.range n) (false, L) with
    | none => rfl
    | some s =>
      obtain ⟨h1, h2, h3, h4⟩ := Du (List.range n) false L s (fun i hi => by rw [hl]; exact Ap hi) hc
      obtain ⟨c', L'⟩ := s
      simp only at h1 h2 h3 h4 ⊢
      have hl' : L'.length = n := by rw [h1, L6, hl]
      have hs := L7 (E := E) (List.range n) L fun i hi => by rw [hl]; exact Ap hi
      rw [← h1] at hs
      cases c' with
      | false =>
        cases k with
        | zero =>
          have := CJ L n fun x hx => by obtain ⟨i, _, e⟩ := ZW hx; exact e ▸ hb i
          rw [hl] at this
          omega
        | succ k => rfl
      | true =>
        have hne : L' ≠ L := by
          rcases h2 rfl with h | h
          · cases h
          rw [h1]; exact h
        have := hs.2 hne
        exact YI k true L' hl' (h4 hb) (by omega)
def after (E : Nat → Vk) (n : Nat) : Nat → List Int
  | 0 => List.replicate n 0
  | k + 1 => rounds E (List.range n) (after E n k)
theorem V9 (E : Nat → Vk) (n : Nat) : ∀ k, (after E n k).length = n
  | 0 => by simp [after]
  | k + 1 => by rw [after, L6, V9 E n k]
def EO (E : Nat → Vk) (n : Nat) (L : List Int) : Prop := rounds E (List.range n) L = L
theorem Sb (n j : Nat) : nth (List.replicate n (0 : Int)) j = 0 := by
  by_cases h : j < n
  · simp [nth, List.getD, h]
  exact Tm (by simp; omega)
theorem Ho (E : Nat → Vk) (n j : Nat) : ∀ k, 0 ≤ nth (after E n k) j
  | 0 => by rw [after, Sb]; omega
  | k + 1 => Int.le_trans (Ho E n j k) (Ol E j _ _)
theorem Om {E : Nat → Vk} {n : Nat} {L : List Int} (hl : L.length = n) (h : EO E n L) : Sat E n L := fun i hi => (YH (by omega)).1 (YG E _ L h i (List.mem_range.2 hi))
theorem G7 {E : Nat → Vk} {n : Nat} {g : List Int} (hs : Sat E n g) (h0 : ∀ j, 0 ≤ nth g j) : ∀ k j, nth (after E n k) j ≤ nth g j
  | 0, j => by rw [after, Sb]; exact h0 j
  | k + 1, j => Lg hs _ _ (fun i hi => Ap hi) (V9 E n k) (G7 hs h0 k) j
theorem L8 {E : Nat → Vk} {n k : Nat} (h : EO E n (after E n k)) : ∀ d, after E n (k + d) = after E n k
  | 0 => rfl
  | d + 1 => by
    show rounds E (List.range n) (after E n (k + d)) = _
    rw [L8 h d]
    exact h
theorem IF {E : Nat → Vk} {n k m : Nat} (hk : EO E n (after E n k)) (hm : EO E n (after E n m)) : after E n k = after E n m := by
  rcases Nat.le_total k m with h | h
  · have := L8 hk (m - k)
    rw [show k + (m - k) = m by omega] at this
    exact this.symm
  have := L8 hm (k - m)
  rwa [show m + (k - m) = k by omega] at this
theorem Tn {E : Nat → Vk} {n : Nat} : ∀ k, (∀ j, j < k → ¬ EO E n (after E n j)) → (k : Int) ≤ (after E n k).sum
  | 0, _ => by
    have : ∀ n : Nat, (List.replicate n (0 : Int)).sum = 0 := fun n => by simp
    rw [after, this]; omega
  | k + 1, h => by
    have h1 := Tn k fun j hj => h j (by omega)
    have h2 := (L7 (E := E) (List.range n) (after E n k) fun i hi => by rw [V9]; exact Ap hi).2 (h k (by omega))
    show ((k + 1 : Nat) : Int) ≤ (rounds E (List.range n) (after E n k)).sum
    omega
variable {E : Nat → Vk} {n : Nat} (hw : ∀ i e, e ∈ E i → e.2 ≤ 1 ∧ e.1 < n)
include hw in
theorem HU {k : Nat} (h : EO E n (after E n k)) : ∀ i, i < n → nth (after E n k) i < (n : Int) :=
  DZ hw (V9 E n k) (Om (V9 E n k) h) (fun _ _ hs h0 => G7 hs h0 k) fun j => Ho E n j k
include hw in
theorem IG {k : Nat} (h : EO E n (after E n k)) : EO E n (after E n (n * n + 2)) := by
  have hex : ∃ j, j ≤ n * n + 1 ∧ EO E n (after E n j) := Classical.byContradiction fun hno => by
    have h1 := Tn (E := E) (n := n) (n * n + 2) fun j hj hr => hno ⟨j, by omega, hr⟩
    have h2 := CJ (after E n (n * n + 2)) n fun x hx => by
      obtain ⟨i, hi, e⟩ := ZW hx
      rw [V9] at hi
      have h3 := G7 (Om (V9 E n k) h) (fun j => Ho E n j k) (n * n + 2) i
      have := HU hw h i hi
      omega
    rw [V9] at h2
    have h3 : ((n * n + 2 : Nat) : Int) = (n : Int) * (n : Int) + 2 := by rw [Int.natCast_add, Int.natCast_mul]; rfl
    omega
  obtain ⟨j, hj, hr⟩ := hex
  have := L8 hr (n * n + 2 - j)
  rw [show j + (n * n + 2 - j) = n * n + 2 by omega] at this
  rw [this]; exact hr
include hw in
theorem Sc : ∀ (k m : Nat) (c : Bool) (r : Option (List Int)), (c = false → EO E n (after E n m)) → Py E n n k (c, after E n m) = some r →
    (∀ L, r = some L → EO E n (after E n (n * n + 2)) ∧ L = after E n (n * n + 2)) ∧ (r = none → ¬ EO E n (after E n (n * n + 2)))
  | 0, m, c, r, _, h => by cases h
  | k + 1, m, false, r, hc, h => by
    obtain rfl := Option.some.inj h
    have hr := hc rfl
    have hs := IG hw hr
    refine ⟨fun L e => ⟨hs, ?_⟩, fun e => by cases e⟩
    obtain rfl := Option.some.inj e
    exact IF hr hs
  | k + 1, m, true, r, _, h => by
    simp only [Py] at h
    have hlt : ∀ i, i ∈ List.range n → i < (after E n m).length := fun i hi => by rw [V9]; exact Ap hi
    cases hcr : C5 E n (List.range n) (false, after E n m) with
    | none =>
      rw [hcr] at h
      obtain rfl := Option.some.inj h
      refine ⟨fun L e => (by cases e), fun _ hr => ?_⟩
      obtain ⟨pre, i, h1, h2, h3⟩ := Rq _ _ _ hcr
      have hsat := Om (V9 E n _) hr
      have h4 := Lg hsat pre (after E n m) (fun i hi => Ap (h1 i hi)) (V9 E n m) (G7 hsat (fun j => Ho E n j _) m)
      have h5 := VN (E := E i) h4
      have h6 := hsat i (Ap h2)
      have h7 := HU hw hr i (Ap h2)
      omega
    | some s =>
      rw [hcr] at h
      obtain ⟨h1, _, h3, _⟩ := Du _ _ _ s hlt hcr
      obtain ⟨c', L'⟩ := s
      simp only at h1 h3 h
      have e : L' = after E n (m + 1) := h1
      subst e
      refine Sc k (m + 1) c' r (fun hc => ?_) h
      have h5 := (h3 hc).2
      show rounds E (List.range n) (after E n (m + 1)) = after E n (m + 1)
      have e2 : after E n (m + 1) = after E n m := h5
      rw [e2]; exact h5
omit hw
/-! ### the other way to Ug: edge by edge -/
def Pe (i : Nat) (L : List Int) (e : Nat × Int) : List Int := if nth L i < nth L e.1 + e.2 then L.set i (nth L e.1 + e.2) else L
def Bb (i : Nat) (E : Vk) (L : List Int) : List Int := E.foldl (Pe i) L
theorem G8 (i : Nat) (L : List Int) (e : Nat × Int) : (Pe i L e).length = L.length := by unfold Pe; split <;> simp
theorem Fa (i : Nat) : ∀ (E : Vk) (L : List Int), (Bb i E L).length = L.length
  | [], _ => rfl
  | e :: E, L => (Fa i E (Pe i L e)).trans (G8 i L e)
theorem Sd {i : Nat} {L : List Int} (e : Nat × Int) (hi : i < L.length) (j : Nat) : nth (Pe i L e) j = if j = i then max (nth L i) (nth L e.1 + e.2) else nth L j := by
  unfold Pe
  split
  · rw [Ng _ _ hi]; split <;> omega
  split
  · rename_i h; subst h; omega
  rfl
theorem VP {i : Nat} : ∀ (E : Vk) {L M : List Int}, i < M.length → (∀ j, j ≠ i → nth M j = nth L j) → nth L i ≤ nth M i → (∀ e, e ∈ E → e.1 = i → e.2 ≤ 0) → ∀ j, nth (Bb i E M) j = if j = i then E.foldl (fun m e => max m (nth L e.1 + e.2)) (nth M i) else nth L j
  | [], L, M, hi, hj, h0, hs, j => by
    show nth M j = _
    split
    · rename_i e; subst e; rfl
    rename_i e; exact hj j e
  | e :: E, L, M, hi, hj, h0, hs, j => by
    show nth (Bb i E (Pe i M e)) j = _
    have hb := Sd e hi
    have hmax : nth (Pe i M e) i = max (nth M i) (nth L e.1 + e.2) := by
      rw [hb, if_pos rfl]
      by_cases he : e.1 = i
      · have := hs e List.mem_cons_self he
        rw [he]; omega
      rw [hj e.1 he]
    rw [VP E (L := L) (M := Pe i M e) (by rw [G8]; exact hi) (fun k hk => by rw [hb, if_neg hk]; exact hj k hk) (by rw [hmax]; omega) (fun e' he' => hs e' (List.mem_cons_of_mem _ he')) j, hmax, List.foldl_cons]
theorem OE (L : List Int) : ∀ (E : Vk) (m : Int), 0 ≤ m → E.foldl (fun m e => max m (nth L e.1 + e.2)) m = max m (Fw E L) := fun E m hm => by
  have h1 := G6 L (E.foldl (fun m e => max m (nth L e.1 + e.2)) m) E m
  have h2 := h1.1 (Int.le_refl _)
  have h3 : Fw E L ≤ E.foldl (fun m e => max m (nth L e.1 + e.2)) m := Ba.2 ⟨by omega, h2.2⟩
  have h4 := (G6 L (max m (Fw E L)) E m).2 ⟨by omega, fun e he => by have := (Ba.1 (Int.le_refl (Fw E L))).2 e he; omega⟩
  omega
theorem OF {E : Nat → Vk} {L : List Int} {i : Nat} (hi : i < L.length) (h0 : 0 ≤ nth L i) (hs : ∀ e, e ∈ E i → e.1 = i → e.2 ≤ 0) : Bb i (E i) L = Ug E L i :=
  IC ((Fa i (E i) L).trans (E9 E L i).symm) fun j => by
    rw [VP (E i) hi (fun _ _ => rfl) (Int.le_refl _) hs, OE _ _ _ h0]
    unfold Ug
    by_cases hlt : nth L i < Fw (E i) L
    · rw [if_pos hlt, Ng _ _ hi]; split <;> omega
    rw [if_neg hlt]; split
    · rename_i e; subst e; omega
    rfl
theorem Se {i : Nat} : ∀ (E : Vk) {L : List Int}, i < L.length → ∀ j, nth L j ≤ nth (Bb i E L) j
  | [], _, _, _ => Int.le_refl _
  | e :: E, L, hi, j => by
    have h1 := Se E (L := Pe i L e) (by rw [G8]; exact hi) j
    have h2 := Sd e hi j
    show _ ≤ nth (Bb i E (Pe i L e)) j
    split at h2
    · rename_i h; subst h; omega
    omega
theorem YJ {i : Nat} : ∀ (E : Vk) {L : List Int}, i < L.length → (∃ e, e ∈ E ∧ e.1 = i ∧ 1 ≤ e.2) → nth L i + 1 ≤ nth (Bb i E L) i
  | [], _, _, ⟨e, he, _⟩ => by simp at he
  | e :: E, L, hi, ⟨e', he, h1, h2⟩ => by
    have h3 := Sd e hi i
    rw [if_pos rfl] at h3
    have hb := Se E (L := Pe i L e) (by rw [G8]; exact hi) i
    show _ ≤ nth (Bb i E (Pe i L e)) i
    rcases List.mem_cons.1 he with rfl | he
    · rw [h1] at h3; omega
    have := YJ E (L := Pe i L e) (by rw [G8]; exact hi) ⟨e', he, h1, h2⟩
    omega
def Ai (E : Nat → Vk) (is : List Nat) (L : List Int) : List Int := is.foldl (fun L i => Bb i (E i) L) L
theorem Nh (E : Nat → Vk) : ∀ (is : List Nat) (L : List Int), (Ai E is L).length = L.length
  | [], _ => rfl
  | i :: is, L => (Nh E is (Bb i (E i) L)).trans (Fa i _ L)
theorem Pz {E : Nat → Vk} (hs : ∀ i e, e ∈ E i → e.1 = i → e.2 ≤ 0) : ∀ (is : List Nat) (L : List Int), (∀ i, i ∈ is → i < L.length) → (∀ j, 0 ≤ nth L j) → Ai E is L = rounds E is L
  | [], _, _, _ => rfl
  | i :: is, L, hi, h0 => by
    have hil := hi i List.mem_cons_self
    show Ai E is (Bb i (E i) L) = rounds E is (Ug E L i)
    rw [OF hil (h0 i) (hs i)]
    exact Pz hs is _ (fun k hk => by rw [E9]; exact hi k (List.mem_cons_of_mem _ hk)) fun j => Int.le_trans (h0 j) (ZV E L i j)
theorem YK {E : Nat → Vk} : ∀ (is : List Nat) (L : List Int), (∀ i, i ∈ is → i < L.length) → ∀ j, nth L j ≤ nth (Ai E is L) j
  | [], _, _, _ => Int.le_refl _
  | i :: is, L, hi, j => Int.le_trans (Se (E i) (hi i List.mem_cons_self) j) (YK is (Bb i (E i) L) (fun k hk => by rw [Fa]; exact hi k (List.mem_cons_of_mem _ hk)) j)
theorem Rr {E : Nat → Vk} {i : Nat} (he : ∃ e, e ∈ E i ∧ e.1 = i ∧ 1 ≤ e.2) : ∀ (is : List Nat) (L : List Int), (∀ i, i ∈ is → i < L.length) → i ∈ is → nth L i + 1 ≤ nth (Ai E is L) i
  | [], _, _, h => by simp at h
  | k :: is, L, hi, h => by
    have hk := hi k List.mem_cons_self
    have hl : ∀ x, x ∈ is → x < (Bb k (E k) L).length := fun x hx => by rw [Fa]; exact hi x (List.mem_cons_of_mem _ hx)
    show _ ≤ nth (Ai E is (Bb k (E k) L)) i
    have h1 := Se (E k) hk i
    have h2 := YK (E := E) is (Bb k (E k) L) hl i
    rcases List.mem_cons.1 h with rfl | h
    · have := YJ (E i) hk he
      omega
    have := Rr he is (Bb k (E k) L) hl h
    omega
def Hp (E : Nat → Vk) (n : Nat) : Nat → List Int
  | 0 => List.replicate n 0
  | k + 1 => Ai E (List.range n) (Hp E n k)
theorem L9 (E : Nat → Vk) (n : Nat) : ∀ k, (Hp E n k).length = n
  | 0 => by simp [Hp]
  | k + 1 => by rw [Hp, Nh, L9 E n k]
theorem VQ {E : Nat → Vk} {n : Nat} (hs : ∀ i e, e ∈ E i → e.1 = i → e.2 ≤ 0) : ∀ k, Hp E n k = after E n k
  | 0 => rfl
  | k + 1 => by
    rw [Hp, after, VQ hs k]
    exact Pz hs _ _ (fun i hi => by rw [V9]; exact Ap hi) fun j => Ho E n j k
theorem IH {E : Nat → Vk} {n : Nat} (hw : ∀ i e, e ∈ E i → e.2 ≤ 1 ∧ e.1 < n ∧ i < n) {k : Nat} {r : Option (List Int)} (h : Py E n n k (true, List.replicate n 0) = some r) :
    (Ai E (List.range n) (Hp E n (n * n + 2)) = Hp E n (n * n + 2) → r = some (Hp E n (n * n + 2))) ∧ (Ai E (List.range n) (Hp E n (n * n + 2)) ≠ Hp E n (n * n + 2) → r = none) := by
  have hw' : ∀ i e, e ∈ E i → e.2 ≤ 1 ∧ e.1 < n := fun i e he => ⟨(hw i e he).1, (hw i e he).2.1⟩
  obtain ⟨h1, h2⟩ := Sc hw' k 0 true r (fun e => by cases e) h
  by_cases hself : ∃ i, ∃ e, e ∈ E i ∧ e.1 = i ∧ 1 ≤ e.2
  · obtain ⟨i, e, he, hei, h3⟩ := hself
    have hi : i < n := (hw i e he).2.2
    have hne : Ai E (List.range n) (Hp E n (n * n + 2)) ≠ Hp E n (n * n + 2) := fun heq => by
      have := Rr (E := E) ⟨e, he, hei, h3⟩ (List.range n) (Hp E n (n * n + 2)) (fun k hk => by rw [L9]; exact Ap hk) (List.mem_range.2 hi)
      rw [heq] at this; omega
    refine ⟨fun h => (hne h).elim, fun _ => ?_⟩
    cases r with
    | none => rfl
    | some L =>
      obtain ⟨hr, _⟩ := h1 L rfl
      have h4 := Om (V9 E n _) hr i hi
      have h5 := (Ba.1 h4).2 e he
      rw [hei] at h5
      omega
  have hs : ∀ i e, e ∈ E i → e.1 = i → e.2 ≤ 0 := fun i e he hei => Classical.byContradiction fun hn => hself ⟨i, e, he, hei, by omega⟩
  rw [VQ hs, Pz hs _ _ (fun i hi => by rw [V9]; exact Ap hi) fun j => Ho E n j _]
  refine ⟨fun hr => ?_, fun hr => ?_⟩
  · cases r with
    | none => exact (h2 rfl hr).elim
    | some L => rw [(h1 L rfl).2]
  cases r with
  | none => rfl
  | some L => exact (hr (h1 L rfl).1).elim
end Go.Proofs.YtkbfhiamdcoieaaGreatDoor
namespace Go.Proofs.YtkbfhiamdcoieaaGreatDoor
open Go.Shelf
def Sh.laysM171_ren : Go.Shelf.Ren := ⟨fun | 171 => 138 | 243 => 163 | 246 => 177 | 283 => 191 | 284 => 192 | 285 => 193 | 286 => 194 | 129 => 109 | 317 => 202 | 318 => 203 | 319 => 204 | 320 => 205 | 337 => 208 | 338 => 209 | n => n, fun | 3 => 3 | 9 => 9 | 2 => 2 | 4 => 4 | 171 => 193 | 0 => 0 | 53 => 135 | 37 => 22 | 5 => 5 | 173 => 195 | 212 => 201 | 51 => 133 | 20 => 20 | 213 => 202 | 46 => 90 | 232 => 211 | 233 => 212 | n => n, fun | 17 => 0 | 18 => 1 | 19 => 2 | n => n⟩
theorem Sh.laysM171 : Go.Proofs.LaysM.n171 Tryz.prog Sh.laysM171_ren := {
  mixed := by kernel_rfl
  f129 := Tryz.func109.trans (congrArg some (by kernel_rfl))
  f171 := Tryz.func138.trans (congrArg some (by kernel_rfl))
  f243 := Tryz.func163.trans (congrArg some (by kernel_rfl))
  f246 := Tryz.func177.trans (congrArg some (by kernel_rfl))
  f283 := Tryz.func191.trans (congrArg some (by kernel_rfl))
  f284 := Tryz.func192.trans (congrArg some (by kernel_rfl))
  f285 := Tryz.func193.trans (congrArg some (by kernel_rfl))
  f286 := Tryz.func194.trans (congrArg some (by kernel_rfl))
  f317 := Tryz.func202.trans (congrArg some (by kernel_rfl))
  f318 := Tryz.func203.trans (congrArg some (by kernel_rfl))
  f319 := Tryz.func204.trans (congrArg some (by kernel_rfl))
  f320 := Tryz.func205.trans (congrArg some (by kernel_rfl))
  f337 := Tryz.func208.trans (congrArg some (by kernel_rfl))
  f338 := Tryz.func209.trans (congrArg some (by kernel_rfl))
  t0 := Tryz.underlying0
  a0 := Tryz.isAgg0
  z0 := Tryz.sizeOf0
  v0 := Tryz.zeroValue0
  t2 := Tryz.underlying2
  a2 := Tryz.isAgg2
  z2 := Tryz.sizeOf2
  v2 := Tryz.zeroValue2
  t3 := Tryz.underlying3
  a3 := Tryz.isAgg3
  z3 := Tryz.sizeOf3
  v3 := Tryz.zeroValue3
  t4 := Tryz.underlying4
  a4 := Tryz.isAgg4
  z4 := Tryz.sizeOf4
  v4 := Tryz.zeroValue4
  t5 := Tryz.underlying5
  a5 := Tryz.isAgg5
  z5 := Tryz.sizeOf5
  v5 := Tryz.zeroValue5
  t9 := Tryz.underlying9
  a9 := Tryz.isAgg9
  z9 := Tryz.sizeOf9
  v9 := Tryz.zeroValue9
  t20 := Tryz.underlying20
  a20 := Tryz.isAgg20
  z20 := Tryz.sizeOf20
  v20 := Tryz.zeroValue20
  t37 := Tryz.underlying22
  a37 := Tryz.isAgg22
  z37 := Tryz.sizeOf22
  v37 := Tryz.zeroValue22
  t46 := Tryz.underlying90
  a46 := Tryz.isAgg90
  z46 := Tryz.sizeOf90
  v46 := Tryz.zeroValue90
  t51 := Tryz.underlying133
  a51 := Tryz.isAgg133
  z51 := Tryz.sizeOf133
  v51 := Tryz.zeroValue133
  t53 := Tryz.underlying135
  a53 := Tryz.isAgg135
  z53 := Tryz.sizeOf135
  v53 := Tryz.zeroValue135
  t171 := Tryz.underlying193
  a171 := Tryz.isAgg193
  z171 := Tryz.sizeOf193
  v171 := Tryz.zeroValue193
  t173 := Tryz.underlying195
  a173 := Tryz.isAgg195
  z173 := Tryz.sizeOf195
  v173 := Tryz.zeroValue195
  t212 := Tryz.underlying201
  a212 := Tryz.isAgg201
  z212 := Tryz.sizeOf201
  v212 := Tryz.zeroValue201
  t213 := Tryz.underlying202
  a213 := Tryz.isAgg202
  z213 := Tryz.sizeOf202
  t232 := Tryz.underlying211
  a232 := Tryz.isAgg211
  z232 := Tryz.sizeOf211
  v232 := Tryz.zeroValue211
  t233 := Tryz.underlying212
  a233 := Tryz.isAgg212
  z233 := Tryz.sizeOf212
  v233 := Tryz.zeroValue212
  g17 := by kernel_rfl
  g18 := by kernel_rfl
  g19 := by kernel_rfl
  i0 := by kernel_rfl
  i2 := by kernel_rfl
  i3 := by kernel_rfl
  i4 := by kernel_rfl
  i5 := by kernel_rfl
  i9 := by kernel_rfl
  i20 := by kernel_rfl
  i37 := by kernel_rfl
  i46 := by kernel_rfl
  i51 := by kernel_rfl
  i53 := by kernel_rfl
  i171 := by kernel_rfl
  i173 := by kernel_rfl
  i212 := by kernel_rfl
  i232 := by kernel_rfl
  i233 := by kernel_rfl
  m17 := by kernel_rfl
  m18 := by kernel_rfl
  m19 := by kernel_rfl }
open Go.RowKit Go.Sort Go.Lib in
theorem Sh.strconv_Itoa (n : Int) (h0 : -9223372036854775808 ≤ n) (h1 : n ≤ 9223372036854775807) (w : World) (htab : Lib.TabIs Tryz.prog w "internal/strconv.uint64pow10" .u64 Lib.pow10Tab) :
    Calls Tryz.prog 138 #[.int .i64 n] w fun e w' => e = .returned (.string ⟨(Lib.itoa n).toArray⟩) ∧ ∃ k os, w' = grow (w.drewN k) os := Any.strconv_Itoa Sh.laysM171 n h0 h1 w htab
def Sh.lays189_ren : Go.Shelf.Ren := ⟨fun | 189 => 35 | 125 => 63 | 257 => 62 | 128 => 108 | 129 => 109 | 294 => 99 | 295 => 100 | 296 => 101 | 297 => 102 | 298 => 103 | 299 => 104 | 216 => 105 | 300 => 106 | 301 => 107 | 328 => 143 | 329 => 144 | 330 => 145 | 331 => 146 | 332 => 147 | 215 => 148 | 343 => 166 | n => n, fun | 28 => 40 | 3 => 3 | 46 => 90 | 0 => 0 | 51 => 133 | 53 => 135 | 4 => 4 | 183 => 125 | 182 => 124 | 131 => 130 | 5 => 5 | 9 => 9 | 218 => 162 | 222 => 166 | 228 => 175 | 229 => 176 | n => n, fun | n => n⟩
theorem Sh.lays189 : Go.Proofs.Lays.n189 Tryz.prog Sh.lays189_ren := {
  mixed := by kernel_rfl
  f125 := Tryz.func63.trans (congrArg some (by kernel_rfl))
  f128 := Tryz.func108.trans (congrArg some (by kernel_rfl))
  f129 := Tryz.func109.trans (congrArg some (by kernel_rfl))
  f189 := Tryz.func35.trans (congrArg some (by kernel_rfl))
  f215 := Tryz.func148.trans (congrArg some (by kernel_rfl))
  f216 := Tryz.func105.trans (congrArg some (by kernel_rfl))
  f257 := Tryz.func62.trans (congrArg some (by kernel_rfl))
  f294 := Tryz.func99.trans (congrArg some (by kernel_rfl))
  f295 := Tryz.func100.trans (congrArg some (by kernel_rfl))
  f296 := Tryz.func101.trans (congrArg some (by kernel_rfl))
  f297 := Tryz.func102.trans (congrArg some (by kernel_rfl))
  f298 := Tryz.func103.trans (congrArg some (by kernel_rfl))
  f299 := Tryz.func104.trans (congrArg some (by kernel_rfl))
  f300 := Tryz.func106.trans (congrArg some (by kernel_rfl))
  f301 := Tryz.func107.trans (congrArg some (by kernel_rfl))
  f328 := Tryz.func143.trans (congrArg some (by kernel_rfl))
  f329 := Tryz.func144.trans (congrArg some (by kernel_rfl))
  f330 := Tryz.func145.trans (congrArg some (by kernel_rfl))
  f331 := Tryz.func146.trans (congrArg some (by kernel_rfl))
  f332 := Tryz.func147.trans (congrArg some (by kernel_rfl))
  f343 := Tryz.func166.trans (congrArg some (by kernel_rfl))
  t0 := Tryz.underlying0
  a0 := Tryz.isAgg0
  z0 := Tryz.sizeOf0
  v0 := Tryz.zeroValue0
  t3 := Tryz.underlying3
  a3 := Tryz.isAgg3
  z3 := Tryz.sizeOf3
  v3 := Tryz.zeroValue3
  t4 := Tryz.underlying4
  a4 := Tryz.isAgg4
  z4 := Tryz.sizeOf4
  v4 := Tryz.zeroValue4
  t5 := Tryz.underlying5
  a5 := Tryz.isAgg5
  z5 := Tryz.sizeOf5
  v5 := Tryz.zeroValue5
  t9 := Tryz.underlying9
  a9 := Tryz.isAgg9
  z9 := Tryz.sizeOf9
  v9 := Tryz.zeroValue9
  t28 := Tryz.underlying40
  a28 := Tryz.isAgg40
  z28 := Tryz.sizeOf40
  v28 := Tryz.zeroValue40
  t46 := Tryz.underlying90
  a46 := Tryz.isAgg90
  z46 := Tryz.sizeOf90
  v46 := Tryz.zeroValue90
  t51 := Tryz.underlying133
  a51 := Tryz.isAgg133
  z51 := Tryz.sizeOf133
  v51 := Tryz.zeroValue133
  t53 := Tryz.underlying135
  a53 := Tryz.isAgg135
  z53 := Tryz.sizeOf135
  v53 := Tryz.zeroValue135
  t131 := Tryz.underlying130
  a131 := Tryz.isAgg130
  z131 := Tryz.sizeOf130
  v131 := Tryz.zeroValue130
  t182 := Tryz.underlying124
  a182 := Tryz.isAgg124
  z182 := Tryz.sizeOf124
  v182 := Tryz.zeroValue124
  t183 := Tryz.underlying125
  a183 := Tryz.isAgg125
  z183 := Tryz.sizeOf125
  v183 := Tryz.zeroValue125
  t218 := Tryz.underlying162
  a218 := Tryz.isAgg162
  z218 := Tryz.sizeOf162
  v218 := Tryz.zeroValue162
  t222 := Tryz.underlying166
  a222 := Tryz.isAgg166
  z222 := Tryz.sizeOf166
  v222 := Tryz.zeroValue166
  t228 := Tryz.underlying175
  a228 := Tryz.isAgg175
  z228 := Tryz.sizeOf175
  v228 := Tryz.zeroValue175
  t229 := Tryz.underlying176
  a229 := Tryz.isAgg176
  z229 := Tryz.sizeOf176
  v229 := Tryz.zeroValue176 }
open Go.Sort Go.RowKit in
theorem Sh.slices_Sort_int (blk off cap : Nat) (zs : List Int) (w : World) (hH : Holds (Value.int .i64) w blk off zs.toArray) (hblk : blk < w.heap.size) (hsz : zs.length < 4611686018427387904) :
    Calls Tryz.prog 35 #[.slice (some ⟨blk, off, none⟩) zs.length cap] w fun e w' =>
      e = .returned (.tuple #[]) ∧ ∃ n os, w' = grow (putRow (Value.int .i64) (Sort.ahead w n) blk off (zs.mergeSort fun x y => decide (x ≤ y)).toArray) os := Any.slices_Sort_int Sh.lays189 blk off cap zs w hH hblk hsz
def Sh.lays190_ren : Go.Shelf.Ren := ⟨fun | 190 => 199 | 125 => 63 | 258 => 206 | 128 => 108 | 129 => 109 | 302 => 210 | 303 => 211 | 304 => 212 | 305 => 213 | 306 => 214 | 307 => 215 | 308 => 216 | 309 => 217 | 310 => 218 | 333 => 219 | 329 => 144 | 330 => 145 | 334 => 220 | 335 => 221 | 336 => 222 | 344 => 223 | n => n, fun | 31 => 35 | 9 => 9 | 3 => 3 | 46 => 90 | 0 => 0 | 51 => 133 | 53 => 135 | 4 => 4 | 183 => 125 | 182 => 124 | 131 => 130 | 5 => 5 | 218 => 162 | 222 => 166 | 228 => 175 | 229 => 176 | n => n, fun | n => n⟩
theorem Sh.lays190 : Go.Proofs.Lays.n190 Tryz.prog Sh.lays190_ren := {
  mixed := by kernel_rfl
  f125 := Tryz.func63.trans (congrArg some (by kernel_rfl))
  f128 := Tryz.func108.trans (congrArg some (by kernel_rfl))
  f129 := Tryz.func109.trans (congrArg some (by kernel_rfl))
  f190 := Tryz.func199.trans (congrArg some (by kernel_rfl))
  f258 := Tryz.func206.trans (congrArg some (by kernel_rfl))
  f302 := Tryz.func210.trans (congrArg some (by kernel_rfl))
  f303 := Tryz.func211.trans (congrArg some (by kernel_rfl))
  f304 := Tryz.func212.trans (congrArg some (by kernel_rfl))
  f305 := Tryz.func213.trans (congrArg some (by kernel_rfl))
  f306 := Tryz.func214.trans (congrArg some (by kernel_rfl))
  f307 := Tryz.func215.trans (congrArg some (by kernel_rfl))
  f308 := Tryz.func216.trans (congrArg some (by kernel_rfl))
  f309 := Tryz.func217.trans (congrArg some (by kernel_rfl))
  f310 := Tryz.func218.trans (congrArg some (by kernel_rfl))
  f329 := Tryz.func144.trans (congrArg some (by kernel_rfl))
  f330 := Tryz.func145.trans (congrArg some (by kernel_rfl))
  f333 := Tryz.func219.trans (congrArg some (by kernel_rfl))
  f334 := Tryz.func220.trans (congrArg some (by kernel_rfl))
  f335 := Tryz.func221.trans (congrArg some (by kernel_rfl))
  f336 := Tryz.func222.trans (congrArg some (by kernel_rfl))
  f344 := Tryz.func223.trans (congrArg some (by kernel_rfl))
  t0 := Tryz.underlying0
  a0 := Tryz.isAgg0
  z0 := Tryz.sizeOf0
  v0 := Tryz.zeroValue0
  t3 := Tryz.underlying3
  a3 := Tryz.isAgg3
  z3 := Tryz.sizeOf3
  v3 := Tryz.zeroValue3
  t4 := Tryz.underlying4
  a4 := Tryz.isAgg4
  z4 := Tryz.sizeOf4
  v4 := Tryz.zeroValue4
  t5 := Tryz.underlying5
  a5 := Tryz.isAgg5
  z5 := Tryz.sizeOf5
  v5 := Tryz.zeroValue5
  t9 := Tryz.underlying9
  a9 := Tryz.isAgg9
  z9 := Tryz.sizeOf9
  v9 := Tryz.zeroValue9
  t31 := Tryz.underlying35
  a31 := Tryz.isAgg35
  z31 := Tryz.sizeOf35
  v31 := Tryz.zeroValue35
  t46 := Tryz.underlying90
  a46 := Tryz.isAgg90
  z46 := Tryz.sizeOf90
  v46 := Tryz.zeroValue90
  t51 := Tryz.underlying133
  a51 := Tryz.isAgg133
  z51 := Tryz.sizeOf133
  v51 := Tryz.zeroValue133
  t53 := Tryz.underlying135
  a53 := Tryz.isAgg135
  z53 := Tryz.sizeOf135
  v53 := Tryz.zeroValue135
  t131 := Tryz.underlying130
  a131 := Tryz.isAgg130
  z131 := Tryz.sizeOf130
  v131 := Tryz.zeroValue130
  t182 := Tryz.underlying124
  a182 := Tryz.isAgg124
  z182 := Tryz.sizeOf124
  v182 := Tryz.zeroValue124
  t183 := Tryz.underlying125
  a183 := Tryz.isAgg125
  z183 := Tryz.sizeOf125
  v183 := Tryz.zeroValue125
  t218 := Tryz.underlying162
  a218 := Tryz.isAgg162
  z218 := Tryz.sizeOf162
  v218 := Tryz.zeroValue162
  t222 := Tryz.underlying166
  a222 := Tryz.isAgg166
  z222 := Tryz.sizeOf166
  v222 := Tryz.zeroValue166
  t228 := Tryz.underlying175
  a228 := Tryz.isAgg175
  z228 := Tryz.sizeOf175
  v228 := Tryz.zeroValue175
  t229 := Tryz.underlying176
  a229 := Tryz.isAgg176
  z229 := Tryz.sizeOf176
  v229 := Tryz.zeroValue176 }
open Go.Sort Go.RowKit in
theorem Sh.slices_Sort_string (blk off cap : Nat) (ss : List (List UInt8)) (w : World) (hH : Holds encStr w blk off ss.toArray) (hblk : blk < w.heap.size) (hsz : ss.length < 4611686018427387904) :
    Calls Tryz.prog 199 #[.slice (some ⟨blk, off, none⟩) ss.length cap] w fun e w' =>
      e = .returned (.tuple #[]) ∧ ∃ n os, w' = grow (putRow encStr (Sort.ahead w n) blk off (ss.mergeSort fun x y => decide (x ≤ y)).toArray) os := Any.slices_Sort_string Sh.lays190 blk off cap ss w hH hblk hsz
def Sh.laysNm220_ren : Go.Shelf.Ren := ⟨fun | 20 => 36 | n => n, fun | 22 => 40 | 3 => 3 | 4 => 4 | 0 => 0 | n => n, fun | n => n⟩
theorem Sh.laysNm220 : Go.Proofs.Lays2.n20 Tryz.prog Sh.laysNm220_ren := {
  mixed := by kernel_rfl
  f20 := Tryz.func36.trans (congrArg some (by kernel_rfl))
  t0 := Tryz.underlying0
  a0 := Tryz.isAgg0
  z0 := Tryz.sizeOf0
  v0 := Tryz.zeroValue0
  t3 := Tryz.underlying3
  a3 := Tryz.isAgg3
  z3 := Tryz.sizeOf3
  v3 := Tryz.zeroValue3
  t4 := Tryz.underlying4
  a4 := Tryz.isAgg4
  z4 := Tryz.sizeOf4
  v4 := Tryz.zeroValue4
  t22 := Tryz.underlying40
  a22 := Tryz.isAgg40
  z22 := Tryz.sizeOf40
  v22 := Tryz.zeroValue40
  i3 := by kernel_rfl }
open Go.RowKit Go.Lib Go.Sort in
theorem Sh.slices_Compact_int (blk off cap : Nat) (zs : List Int) (w : World) (hH : Holds (Value.int .i64) w blk off zs.toArray) (hsz : zs.length ≤ 9223372036854775807) (hcap : zs.length ≤ cap) :
    Calls Tryz.prog 36 #[.slice (some ⟨blk, off, none⟩) zs.length cap] w fun e w' => e = .returned (.slice (some ⟨blk, off, none⟩) (Lib.compact zs).length cap) ∧ ∃ q, w' = putRow (Value.int .i64) (Sort.ahead w q) blk off (Lib.compact zs ++ List.replicate (zs.length - (Lib.compact zs).length) 0).toArray := Any.slices_Compact_int Sh.laysNm220 blk off cap zs w hH hsz hcap
open Go.RowKit Go.Lib Go.Sort in
theorem Sh.slices_Compact_int_empty (a : Option Addr) (cap : Nat) (w : World) :
    Calls Tryz.prog 36 #[.slice a 0 cap] w fun e w' => e = .returned (.slice a 0 cap) ∧ w' = w := Any.slices_Compact_int_empty Sh.laysNm220 a cap w
def Sh.lays194_ren : Go.Shelf.Ren := ⟨fun | 194 => 200 | n => n, fun | 31 => 35 | 9 => 9 | 3 => 3 | 4 => 4 | 0 => 0 | n => n, fun | n => n⟩
theorem Sh.lays194 : Go.Proofs.Lays.n194 Tryz.prog Sh.lays194_ren := {
  mixed := by kernel_rfl
  f194 := Tryz.func200.trans (congrArg some (by kernel_rfl))
  t0 := Tryz.underlying0
  a0 := Tryz.isAgg0
  z0 := Tryz.sizeOf0
  v0 := Tryz.zeroValue0
  t3 := Tryz.underlying3
  a3 := Tryz.isAgg3
  z3 := Tryz.sizeOf3
  v3 := Tryz.zeroValue3
  t4 := Tryz.underlying4
  a4 := Tryz.isAgg4
  z4 := Tryz.sizeOf4
  v4 := Tryz.zeroValue4
  t9 := Tryz.underlying9
  a9 := Tryz.isAgg9
  z9 := Tryz.sizeOf9
  v9 := Tryz.zeroValue9
  t31 := Tryz.underlying35
  a31 := Tryz.isAgg35
  z31 := Tryz.sizeOf35
  v31 := Tryz.zeroValue35 }
open Go.RowKit Go.Lib Go.Sort in
theorem Sh.slices_Compact_string (blk off cap : Nat) (zs : List (List UInt8)) (w : World) (hH : Holds encStr w blk off zs.toArray) (hsz : zs.length ≤ 9223372036854775807) (hcap : zs.length ≤ cap) :
    Calls Tryz.prog 200 #[.slice (some ⟨blk, off, none⟩) zs.length cap] w fun e w' => e = .returned (.slice (some ⟨blk, off, none⟩) (Lib.compact zs).length cap) ∧ ∃ q, w' = putRow encStr (Sort.ahead w q) blk off (Lib.compact zs ++ List.replicate (zs.length - (Lib.compact zs).length) []).toArray := Any.slices_Compact_string Sh.lays194 blk off cap zs w hH hsz hcap
open Go.RowKit Go.Lib Go.Sort in
theorem Sh.slices_Compact_string_empty (a : Option Addr) (cap : Nat) (w : World) :
    Calls Tryz.prog 200 #[.slice a 0 cap] w fun e w' => e = .returned (.slice a 0 cap) ∧ w' = w := Any.slices_Compact_string_empty Sh.lays194 a cap w
open Go.RowKit Go.Sort in
theorem Sh.slices_Sort_string_none (p : Option Addr) (cap : Nat) (w : World) :
    Calls Tryz.prog 199 #[.slice p 0 cap] w fun e w' => e = .returned (.tuple #[]) ∧ w' = w := Any.slices_Sort_string_none Sh.lays190 p cap w
open Go.RowKit Go.Sort in
theorem Sh.slices_Sort_int_none (p : Option Addr) (cap : Nat) (w : World) :
    Calls Tryz.prog 35 #[.slice p 0 cap] w fun e w' => e = .returned (.tuple #[]) ∧ w' = w := Any.slices_Sort_int_none Sh.lays189 p cap w
end Go.Proofs.YtkbfhiamdcoieaaGreatDoor
namespace Go.Proofs.YtkbfhiamdcoieaaGreatDoor
open Go.RowKit
theorem TS (l : List Int) : ATake Tryz.prog 35 1 (eL l) [] false true (eL (Rx l)) := by
  have h := YE Qb4 (P := Tryz.prog) (f := 35) (by unfold Dq; kernel_rfl) (fun l => l.mergeSort fun x y => decide (x ≤ y)) (fun l => List.length_mergeSort _) (fun l x h => (List.mergeSort_perm l _).mem_iff.1 h) (fun oa cap w => Sh.slices_Sort_int_none oa cap w) (fun g cap l w h h2 h3 => Sh.slices_Sort_int g 0 cap l w h h2 h3) l
  simpa [Qb4, Rx, HQ] using h
theorem TT (l : List Int) : ATake Tryz.prog 36 1 (eL l) [] false false (eL (HQ l)) := by
  have h := YF Qb4 (P := Tryz.prog) (f := 36) (by unfold Dq; kernel_rfl) Lib.compact Ok CB (fun oa cap w => Sh.slices_Compact_int_empty oa cap w) (fun g cap l w h h2 h3 => (Sh.slices_Compact_int g 0 cap l w h h2 h3).mono (by rintro e w' ⟨h4, q, h5⟩; exact ⟨h4, q, _, by have := Ok l; simp; omega, h5⟩)) l
  simpa [Qb4, Rx, HQ] using h
theorem TU (l : List ByteArray) : ATake Tryz.prog 199 1 (eL l) [] false true (eL (Lf l)) := by
  have h := YE oneS (P := Tryz.prog) (f := 199) (by unfold Dq; kernel_rfl) (fun l => l.mergeSort fun x y => decide (x ≤ y)) (fun l => List.length_mergeSort _) (fun l x h => (List.mergeSort_perm l _).mem_iff.1 h) (fun oa cap w => Sh.slices_Sort_string_none oa cap w) (fun g cap l w h h2 h3 => Sh.slices_Sort_string g 0 cap l w h h2 h3) l
  exact h
theorem TV (l : List ByteArray) : ATake Tryz.prog 200 1 (eL l) [] false false (eL (Th l)) := by
  have h := YF oneS (P := Tryz.prog) (f := 200) (by unfold Dq; kernel_rfl) Lib.compact Ok CB (fun oa cap w => Sh.slices_Compact_string_empty oa cap w) (fun g cap l w h h2 h3 => (Sh.slices_Compact_string g 0 cap l w h h2 h3).mono (by rintro e w' ⟨h4, q, h5⟩; exact ⟨h4, q, _, by have := Ok l; simp; omega, h5⟩)) l
  exact h
open GoE (enc wide)
def El (s_ : ByteArray) (k0 : Nat) (a0 : ByteArray) (_ : Unit) : Rd ((List ByteArray)) (Unit) (Int) := (bif (Op.bytesLess a0.toList s_.toList) then (.next ()) else (.brk ((k0 : Nat) : Int)))
def Em (k0 : Nat) (_ : Unit) : Int := ((k0 : Nat) : Int)
def Ey (list : (List ByteArray)) (s_ : ByteArray) : (List ByteArray) := (Out.on (Xp (El s_) Em list 0 ()) (fun y0 => (bif (decide (y0 < (list.length : Int)) && ((nth list (Int.toNat y0)).toList == s_.toList)) then list else List.take (Int.toNat y0) list ++ [s_] ++ (List.drop (Int.toNat y0) list))))
theorem VT (list : (List ByteArray)) (s_ : ByteArray) (hp : list.length < 1073741824) : ACalls Tryz.prog 197 [.h list, .s s_] (.h (Ey list s_)) := by
 refine en Qb Tryz.func197 fun w0 F0 hG => ?_
 refine sn Qb [0, 1, 4] [] (p0) ?_
 refine tn Qb [0, 1, 4, 5] [] (p0) ?_
 refine Qe (mz [(4, .e 0), (5, .i 0)] [] [] [] ?_)
 refine wT 0 0 .sh list (fun hw1 hl2 => ?_)
 refine Qci (El s_) Em list () (fun k0 _ => [(5, .i ((k0 : Nat) : Int))]) [5] (fun y0 => [(5, .i y0)]) [5] (fun y0 => 0 ≤ y0 ∧ y0 ≤ (list.length : Int)) (Qd (by kernel_rfl)) (fun k0 s0 hk0 hI0 => ?_) (fun k0 s0 hk0 hI0 => ?_) (fun y0 hD0 => ?_)
 ·
  obtain ⟨a0, hx0⟩ := Xm (l := list) (i := k0) hk0
  refine Qe (sn Qb [0, 1, 4, 5, 18] [] (pl 2 list (pe 3 (Qo (decide_eq_true (p := ((k0 : Nat) : Int) < (list.length : Int)) (by omega))) (pn 7 hx0 p0))) ?_)
  refine ck (Op.bytesLess a0.toList s_.toList) (fun h3 => ?_) (fun h3 => ?_)
  ·
   refine Qh ?_
   refine Qs ?_
   refine qn Qb [0, 1, 4, 5] [] (pe 1 (Jn (Qp k0 (by omega))) p0) ?_
   exact Exists.intro _ (And.intro (Qd (by kernel_rfl)) (Qx hx0 (Q6 h3 (rfl)) hI0))
  refine Q5 ?_
  exact Exists.intro ((k0 : Nat) : Int) (And.intro (Qd (by kernel_rfl)) ⟨R9 hx0 (Qm h3 (rfl)) hI0, by first | omega | (simp only [List.length_set]; omega)⟩)
 ·
  refine Qe (sn Qb [0, 1, 4, 5, 18] [] (pl 2 list (pe 3 (Qo (decide_eq_false (p := ((k0 : Nat) : Int) < (list.length : Int)) (by omega))) p0)) ?_)
  refine ckF ?_
  refine Q5 ?_
  exact Exists.intro ((k0 : Nat) : Int) (And.intro (Qd (by kernel_rfl)) ⟨Xn hk0 (rfl) hI0, by first | omega | (simp only [List.length_set]; omega)⟩)
 have hD0_0 := hD0.2
 refine Qe (Qe (jn [(32, .b (decide (y0 < (list.length : Int)) && ((nth list (Int.toNat y0)).toList == s_.toList)))] [] [] [] (decide (y0 < (list.length : Int))) (fun h4 => ?_) (fun h4 => ?_) ?_))
 ·
  have h4d := of_decide_eq_true h4
  have hx5 := ng list (Int.toNat y0)
  refine rn Qb [0, 1, 4, 5, 32] [] (pl 2 list (pt 3 h4 (pg 7 y0 hx5 p0))) ?_
  exact ⟨rfl, Qd (by rw [h4]; first | done | kernel_rfl)⟩
 ·
  refine rn Qb [0, 1, 4, 5, 32] [] (pl 2 list (pf 3 h4 p0)) ?_
  exact ⟨rfl, Qd (by rw [h4]; first | done | kernel_rfl)⟩
 refine ck (decide (y0 < (list.length : Int)) && ((nth list (Int.toNat y0)).toList == s_.toList)) (fun h6 => ?_) (fun h6 => ?_)
 ·
  refine sn Qb [0, 1, 4, 5] [] (p0) ?_
  refine Qg ?_
  exact ph0 [] (Wc hD0.1 (Q6 h6 (rfl)))
 refine Qh ?_
 have hl7 : List.length (List.take (Int.toNat y0) list) ≤ 1073741824 := Ao (N9 (Int.toNat y0) (hw1))
 refine su Qb [(6, .one (.slc (.own true 2624) 1 (([] ++ (eL (List.take (Int.toNat y0) list))) ++ [[.s s_]])))] [1, 32] [] [] (pe 3 (Pu .sh 1 (Int.toNat y0) y0 list rfl) (px (Fu (lo := 0) (hi := y0) (n := (List.length (eL list))) (YB (by omega) (by omega) (by omega))) (po 4 (.flat) (px (Ds (n := (([] : List (List PV)).length + ((eL (List.take (Int.toNat y0) list)) : List (List PV)).length)) (Gi (rfl) (Y5 (List.take (Int.toNat y0) list)) (by first | omega | (simp only [List.length_cons, List.length_nil]; omega) | (simp; omega) | simp))) (px (A7 (Af (List.take (Int.toNat y0) list))) (px (Ds (n := ((([] ++ (eL (List.take (Int.toNat y0) list))) : List (List PV)).length + ([[.s s_]] : List (List PV)).length)) (by simp [Y5]; omega)) p0)))))) ?_
 refine eqn [(6, .o 2624 (List.take (Int.toNat y0) list ++ [s_]))] [6] [] [] (by rw [show (([] ++ (eL (List.take (Int.toNat y0) list))) ++ [[.s s_]]) = (eL (List.take (Int.toNat y0) list ++ [s_])) from Kj (rfl) (rfl)]; first | done | kernel_rfl) ?_
 refine wT 6 0 (.own true 2624) (List.take (Int.toNat y0) list ++ [s_]) (fun hw8 hl9 => ?_)
 have hl10 : List.length (List.drop (Int.toNat y0) list) ≤ 1073741824 := Ao (Oa (Int.toNat y0) (hw1))
 refine su Qb [(4, .one (.slc (.own true 2944) 1 ((eL (List.take (Int.toNat y0) list ++ [s_])) ++ (eL (List.drop (Int.toNat y0) list)))))] [0, 4, 5, 6] [] [] (pe 3 (ZP .sh 1 (Int.toNat y0) y0 list rfl) (px (Fu (lo := y0) (hi := (((eL list) : List (List PV)).length : Int)) (n := (List.length (eL list))) (ZQ (by omega) (by omega))) (po 4 (.flat) (pa (List.take (Int.toNat y0) list ++ [s_]) (List.drop (Int.toNat y0) list) (px (A7 (Af (List.drop (Int.toNat y0) list))) p0))))) ?_
 refine eqn [(4, .o 2944 (List.take (Int.toNat y0) list ++ [s_] ++ (List.drop (Int.toNat y0) list)))] [4] [] [] (by rw [show ((eL (List.take (Int.toNat y0) list ++ [s_])) ++ (eL (List.drop (Int.toNat y0) list))) = (eL (List.take (Int.toNat y0) list ++ [s_] ++ (List.drop (Int.toNat y0) list))) from Kj (rfl) (rfl)]; first | done | kernel_rfl) ?_
 refine Qg ?_
 exact ph0 [2944] (Wc hD0.1 (Qm h6 (rfl)))
end Go.Proofs.YtkbfhiamdcoieaaGreatDoor
namespace Go.Proofs.YtkbfhiamdcoieaaGreatDoor
open Go.RowKit
theorem toList_inj {a b : ByteArray} : (a.toList == b.toList) = decide (a = b) := by
  rw [ByteArray.toList_eq, ByteArray.toList_eq, Bool.eq_iff_iff]
  simp only [beq_iff_eq, decide_eq_true_eq]
  exact ⟨fun h => ByteArray.ext (Array.ext' h), fun h => h ▸ rfl⟩
def Cw (l : List ByteArray) (s : ByteArray) : Nat := (l.takeWhile fun x => bl x s).length
theorem To (a : ByteArray) (l : List ByteArray) (s : ByteArray) : Cw (a :: l) s = if bl a s = true then Cw l s + 1 else 0 := by
  unfold Cw
  rw [List.takeWhile_cons]
  cases bl a s <;> simp
theorem YL (s : ByteArray) : ∀ (l : List ByteArray) (k : Nat), Xp (El s) Em l k () = .brk (((k + Cw l s : Nat)) : Int)
  | [], k => by simp [Xp, Em, Cw]
  | a :: l, k => by
    rw [To]
    simp only [Xp, El]
    cases h : Op.bytesLess a.toList s.toList with
    | true =>
      have h' : bl a s = true := h
      simp only [cond_true, h', if_true]
      rw [YL s l (k + 1), show k + 1 + Cw l s = k + (Cw l s + 1) by omega]
    | false =>
      have h' : bl a s = false := h
      simp [h']
theorem II (s : ByteArray) : ∀ l : List ByteArray, VM l s = bif (decide (((Cw l s : Nat) : Int) < (l.length : Int)) && ((nth l (Cw l s)).toList == s.toList)) then l else List.take (Cw l s) l ++ [s] ++ List.drop (Cw l s) l
  | [] => by simp [VM, Cw]
  | a :: l => by
    rw [To, VM]
    cases h : bl a s with
    | true =>
      simp only [if_true]
      rw [II s l]
      have e : nth (a :: l) (Cw l s + 1) = nth l (Cw l s) := rfl
      rw [e, show decide ((((Cw l s + 1 : Nat)) : Int) < ((a :: l).length : Int)) = decide (((Cw l s : Nat) : Int) < (l.length : Int)) by
        rw [Bool.eq_iff_iff]; simp only [decide_eq_true_eq, List.length_cons]; omega]
      generalize (decide (((Cw l s : Nat) : Int) < (l.length : Int)) && ((nth l (Cw l s)).toList == s.toList)) = c
      cases c <;> simp
    | false =>
      have e : nth (a :: l) 0 = a := rfl
      simp only [Bool.false_eq_true, if_false]
      rw [e, toList_inj]
      by_cases hs : a = s
      · simp [hs]
      simp [hs]
theorem VU (l : List ByteArray) (s : ByteArray) : Ey l s = VM l s := by
  unfold Ey
  rw [YL, II]
  simp only [Out.on, Nat.zero_add, Int.toNat_natCast]
theorem IJ (l : List ByteArray) (s : ByteArray) : List.length (Ey l s) ≤ List.length l + 1 := by rw [VU]; exact CI s l
open GoE (enc wide)
def J5 (n : X4) : Bool := ((n.1 == (8 : Int)) || (n.1 == (9 : Int)))
theorem Mm (n : X4) : ACalls Tryz.prog 187 [.a [.i n.1, .i n.2.1, .i n.2.2.1, .s n.2.2.2.1, .i n.2.2.2.2.1, .i n.2.2.2.2.2.1, .s n.2.2.2.2.2.2]] (.b (J5 n)) := by
 refine en Qb Tryz.func187 fun w0 F0 hG => ?_
 refine sn Qb [1, 2] [1] (p0) ?_
 refine Qe (mz [(1, .p 1 0), (2, .b false)] [0] [(1, [.i n.1, .i n.2.1, .i n.2.2.1, .s n.2.2.2.1, .i n.2.2.2.2.1, .i n.2.2.2.2.2.1, .s n.2.2.2.2.2.2])] [] ?_)
 refine jn [(2, .b ((n.1 == (8 : Int)) || (n.1 == (9 : Int))))] [1, 2] [] [1] (n.1 == (8 : Int)) (fun h1 => ?_) (fun h1 => ?_) ?_
 ·
  refine rn Qb [2] [] (pt 2 h1 p0) ?_
  exact ⟨rfl, Qd (by rw [h1]; first | done | kernel_rfl)⟩
 ·
  refine rn Qb [2] [] (pf 2 h1 p0) ?_
  exact ⟨rfl, Qd (by rw [h1]; first | done | kernel_rfl)⟩
 refine Qg ?_
 exact pb [] (show J5 n = ((n.1 == (8 : Int)) || (n.1 == (9 : Int))) from rfl)
def F5 (l : (List ByteArray)) : (List ByteArray) := Th (Lf l)
theorem Ry (l : (List ByteArray)) : ACalls Tryz.prog 188 [.h l] (.h (F5 l)) := by
 refine en Qb Tryz.func188 fun w0 F0 hG => ?_
 refine sn Qb [0, 2] [] (p0) ?_
 refine tn Qb [2, 3] [] (pc 1 (ZT l) p0) ?_
 refine mz [(2, .e 0), (3, .o 320 l)] [0] [] [] ?_
 refine E6 [320] rfl ?_
 refine su Qb [(3, .one (.slc (.own false 320) 1 (PM (eL l) 0 4294967296 (List.flatten (eL (Lf l))))))] [3] [] [] (po 1 (.take false true (eL (Lf l))) (px (ZL (TU l)) p0)) ?_
 refine eqn [(3, .q 320 (Lf l))] [3] [] [] (by rw [CC (fun _ => rfl) (VK _)]; first | done | kernel_rfl) ?_
 refine sn Qb [2] [] (po 1 (.take false false (eL (Th (Lf l)))) (px (ZL (TV (Lf l))) p0)) ?_
 refine Qg ?_
 exact ph0 [576] (show F5 l = Th (Lf l) from rfl)
def K7 (q : (List X4)) (negated : Bool) (k0 : Nat) (a0 : Bool) (s0 : (List ByteArray)) : Rd ((List ByteArray)) ((List ByteArray)) ((List ByteArray)) := (bif ((J5 (nth q k0)) && (a0 == negated)) then (.next (s0 ++ [(nth q k0).2.2.2.1])) else (.next s0))
def Wv (_ : Nat) (s0 : (List ByteArray)) : (List ByteArray) := s0
def Vl (q : (List X4)) (negated : Bool) : (List ByteArray) := (Out.on (Xp (K7 q negated) Wv (Xq q) 0 []) (fun y0 => (F5 y0)))
theorem Lh (q : (List X4)) (negated : Bool) : ACalls Tryz.prog 175 [.h q, .b negated] (.h (Vl q negated)) := by
 refine en Qb Tryz.func175 fun w0 F0 hG => ?_
 have hnl := Nb q
 refine sn Qb [0, 1, 4] [] (p0) ?_
 refine tn Qb [0, 1, 4, 5] [] (p0) ?_
 refine Qe (tu Qb [(4, .e 0), (5, .one (.slc (.own true 512) 1 [])), (10, .o 640 (Xq q)), (11, .i ((Xq q).length : Int)), (12, .i 0)] [] [] [] (pc 1 (Oi q) (pl 2 (Xq q) p0)) ?_)
 refine wT 10 0 (.own true 640) (Xq q) (fun hw1 hl2 => ?_)
 refine GN (K7 q negated) Wv (Xq q) [] (fun k0 s0 => [(5, .o 147203 s0), (12, .i ((k0 : Nat) : Int))]) [5, 12] (fun y0 => [(5, .o 147353 y0)]) [0, 1, 5, 10, 11, 12] (fun k0 s0 => List.length s0 ≤ k0) (X2 [(512, 147203)] (by kernel_rfl)) (by simp) (fun k0 s0 hk0 hI0 => ?_) (fun k0 s0 hk0 hI0 => ?_) (fun y0 hD0 => ?_)
 ·
  have hA0_0 := hI0.2
  obtain ⟨a0, hx0⟩ := Xm (l := Xq q) (i := k0) hk0
  refine su Qb [(13, .b true)] [] [] [] (pe 0 (Qo (decide_eq_true (p := ((k0 : Nat) : Int) < ((Xq q).length : Int)) (by omega))) p0) ?_
  refine Qe (ckT ?_)
  refine Qh ?_
  refine Qe (Qs ?_)
  refine sn Qb [0, 1, 4, 5, 6, 7, 10, 11, 12] [] (pN 1 hx0 p0) ?_
  refine Qe (mz [(6, .i ((k0 : Nat) : Int)), (7, .b a0)] [13] [] [] ?_)
  refine jn [(26, .b ((J5 (nth q k0)) && (a0 == negated)))] [7] [] [] (J5 (nth q k0)) (fun h3 => ?_) (fun h3 => ?_) ?_
  ·
   refine wT 0 0 .sh q (fun hw5 hl6 => ?_)
   have hx4 := ng q k0
   refine rn Qb [0, 1, 4, 5, 6, 10, 11, 12, 26] [] (pn 2 hx4 (pc 4 (cb h3 (Mm (nth q k0))) p0)) ?_
   exact ⟨rfl, Qd (by rw [h3]; first | done | kernel_rfl)⟩
  ·
   refine wT 0 0 .sh q (fun hw8 hl9 => ?_)
   have hx7 := ng q k0
   refine ru Qb [(26, .b false)] [7] [] [] (pn 2 hx7 (pc 4 (cb h3 (Mm (nth q k0))) p0)) ?_
   exact ⟨rfl, Qd (by rw [h3]; first | done | kernel_rfl)⟩
  refine ck ((J5 (nth q k0)) && (a0 == negated)) (fun h10 => ?_) (fun h10 => ?_)
  ·
   have h10r : ((a0 == negated)) = true := Pv h10
   have h10rd := eq_of_beq h10r
   refine wT 0 0 .sh q (fun hw12 hl13 => ?_)
   have hx11 := ng q k0
   refine wT 5 0 (.own true 147203) s0 (fun hw14 hl15 => ?_)
   refine ru Qb [(5, .one (.slc (.own true 2176) 1 ((eL s0) ++ [[.s ((nth q k0).2.2.2.1)]])))] [5, 6, 26] [] [] (pn 3 hx11 (pa s0 [(nth q k0).2.2.2.1] p0)) ?_
   refine eqn [(5, .o 2176 (s0 ++ [(nth q k0).2.2.2.1]))] [5] [] [] (by rw [show ((eL s0) ++ [[.s ((nth q k0).2.2.2.1)]]) = (eL (s0 ++ [(nth q k0).2.2.2.1])) from Kj (rfl) (rfl)]; first | done | kernel_rfl) ?_
   refine rn Qb [0, 1, 4, 5, 10, 11, 12] [] (pe 0 (Jn (Qp k0 (by omega))) p0) ?_
   exact Exists.intro (s0 ++ [(nth q k0).2.2.2.1]) (And.intro (X2 [(2176, 147203)] (by kernel_rfl)) ⟨Qx hx0 (Q6 h10 (rfl)) hI0.1, by first | omega | (simp; omega) | simp⟩)
  refine Qh ?_
  refine rn Qb [0, 1, 4, 5, 10, 11, 12] [] (pe 0 (Jn (Qp k0 (by omega))) p0) ?_
  exact Exists.intro s0 (And.intro (Qd (by kernel_rfl)) ⟨Qx hx0 (Qm h10 (rfl)) hI0.1, by first | omega | (simp; omega) | simp⟩)
 ·
  have hA0_0 := hI0.2
  refine su Qb [(13, .b false)] [] [] [] (pe 0 (Qo (decide_eq_false (p := ((k0 : Nat) : Int) < ((Xq q).length : Int)) (by omega))) p0) ?_
  refine Qe (ckF ?_)
  refine Q5 ?_
  exact Exists.intro _ (And.intro (X2 [(147203, 147353)] (by kernel_rfl)) (Xn hk0 (rfl) hI0.1))
 refine sn Qb [4] [] (pc 1 (Ry y0) p0) ?_
 refine Qg ?_
 exact ph0 [] (Wc hD0 (rfl))
def X8 (q : (List X4)) : (List ByteArray) := (Vl q false)
theorem On (q : (List X4)) : ACalls Tryz.prog 159 [.h q] (.h (X8 q)) := by
 refine en Qb Tryz.func159 fun w0 F0 hG => ?_
 refine sn Qb [0, 2] [] (p0) ?_
 refine tn Qb [2] [] (pc 1 (Lh q false) p0) ?_
 refine Qg ?_
 exact ph0 [] (show X8 q = (Vl q false) from rfl)
def Xr (q : (List X4)) : (List ByteArray) := (Vl q true)
theorem Oo (q : (List X4)) : ACalls Tryz.prog 160 [.h q] (.h (Xr q)) := by
 refine en Qb Tryz.func160 fun w0 F0 hG => ?_
 refine sn Qb [0, 2] [] (p0) ?_
 refine tn Qb [2] [] (pc 1 (Lh q true) p0) ?_
 refine Qg ?_
 exact ph0 [] (show Xr q = (Vl q true) from rfl)
def B1 (q : (List X4)) (under : Bool) (k0 : Nat) (a0 : Bool) (s0 : (List ByteArray)) : Rd ((List ByteArray)) ((List ByteArray)) ((List ByteArray)) := (bif ((Xa ((nth q k0).1) 8 9) && (a0 == under)) then (.next (Ey s0 ((nth q k0).2.2.2.1))) else (.next s0))
def B2 (_ : Nat) (s0 : (List ByteArray)) : (List ByteArray) := s0
def Hq (q : (List X4)) (under : Bool) : (List ByteArray) := (Out.on (Xp (B1 q under) B2 (Zs q) 0 []) (fun y0 => y0))
theorem Mn (q : (List X4)) (under : Bool) : ACalls Tryz.prog 181 [.h q, .b under] (.o 0 (Hq q under)) := by
 refine en Qb Tryz.func181 fun w0 F0 hG => ?_
 have hnl := VJ q
 refine sn Qb [0, 1, 4] [] (p0) ?_
 refine tn Qb [0, 1, 4, 5] [] (p0) ?_
 refine tu Qb [(4, .e 0), (5, .one (.slc (.own true 512) 1 [])), (6, .o 640 (Zs q))] [] [] [] (pc 1 (Oj q) p0) ?_
 refine Qe (su Qb [(7, .i 0)] [] [] [] (p0) ?_)
 refine wT 6 0 (.own true 640) (Zs q) (fun hw1 hl2 => ?_)
 refine GN (B1 q under) B2 (Zs q) [] (fun k0 s0 => [(5, .h s0), (7, .i ((k0 : Nat) : Int))]) [5, 7] (fun y0 => [(5, .h y0)]) [0, 1, 5, 6, 7] (fun k0 s0 => List.length s0 ≤ k0) (Dz [] [512] [] [] (by kernel_rfl)) (by simp) (fun k0 s0 hk0 hI0 => ?_) (fun k0 s0 hk0 hI0 => ?_) (fun y0 hD0 => ?_)
 ·
  have hA0_0 := hI0.2
  obtain ⟨a0, hx0⟩ := Xm (l := Zs q) (i := k0) hk0
  refine Qe (su Qb [(14, .b true)] [] [] [] (pl 2 (Zs q) (pe 3 (Qo (decide_eq_true (p := ((k0 : Nat) : Int) < ((Zs q).length : Int)) (by omega))) p0)) ?_)
  refine ckT ?_
  refine Qh ?_
  refine Qe (Qs ?_)
  refine Qe (jn [(30, .b ((Xa ((nth q k0).1) 8 9) && (a0 == under)))] [14] [] [] (Xa ((nth q k0).1) 8 9) (fun h3 => ?_) (fun h3 => ?_) ?_)
  ·
   refine wT 0 0 .sh q (fun hw5 hl6 => ?_)
   have hx4 := ng q k0
   refine rn Qb [0, 1, 4, 5, 6, 7, 30] [] (pn 2 hx4 (pc 5 (cb h3 (Zd ((nth q k0).1) 8 9)) (pN 9 hx0 p0))) ?_
   exact ⟨rfl, Qd (by rw [h3]; first | done | kernel_rfl)⟩
  ·
   refine wT 0 0 .sh q (fun hw8 hl9 => ?_)
   have hx7 := ng q k0
   refine rn Qb [0, 1, 4, 5, 6, 7, 30] [] (pn 2 hx7 (pc 5 (cb h3 (Zd ((nth q k0).1) 8 9)) p0)) ?_
   exact ⟨rfl, Qd (by rw [h3]; first | done | kernel_rfl)⟩
  refine ck ((Xa ((nth q k0).1) 8 9) && (a0 == under)) (fun h10 => ?_) (fun h10 => ?_)
  ·
   have h10r : ((a0 == under)) = true := Pv h10
   have h10rd := eq_of_beq h10r
   refine wT 0 0 .sh q (fun hw12 hl13 => ?_)
   have hx11 := ng q k0
   refine rn Qb [0, 1, 4, 5, 6, 7] [] (pn 3 hx11 (pc 6 (VT s0 ((nth q k0).2.2.2.1) (by omega)) p0)) ?_
   refine qn Qb [0, 1, 4, 5, 6, 7] [] (pe 1 (Jn (Qp k0 (by omega))) p0) ?_
   exact Exists.intro (Ey s0 ((nth q k0).2.2.2.1)) (And.intro (Qd (by kernel_rfl)) ⟨Qx hx0 (Q6 h10 (rfl)) hI0.1, (by first | omega | (have hz := IJ s0 (nth q k0).2.2.2.1; omega))⟩)
  refine Qh ?_
  refine rn Qb [0, 1, 4, 5, 6, 7] [] (pe 1 (Jn (Qp k0 (by omega))) p0) ?_
  exact Exists.intro s0 (And.intro (Qd (by kernel_rfl)) ⟨Qx hx0 (Qm h10 (rfl)) hI0.1, (by first | omega | (have hz := IJ s0 (nth q k0).2.2.2.1; omega))⟩)
 ·
  have hA0_0 := hI0.2
  refine Qe (su Qb [(14, .b false)] [] [] [] (pl 2 (Zs q) (pe 3 (Qo (decide_eq_false (p := ((k0 : Nat) : Int) < ((Zs q).length : Int)) (by omega))) p0)) ?_)
  refine ckF ?_
  refine Q5 ?_
  exact Exists.intro _ (And.intro (Qd (by kernel_rfl)) (Xn hk0 (rfl) hI0.1))
 refine wT 5 0 .sh y0 (fun hw14 hl15 => ?_)
 refine sn Qb [4] [] (po 2 (.flat) (px (Ds (n := (([] : List (List PV)).length + ((eL y0) : List (List PV)).length)) (Gi (rfl) (Y5 y0) (by first | omega | (simp only [List.length_cons, List.length_nil]; omega) | (simp; omega) | simp))) (px (A7 (Af y0)) p0))) ?_
 refine Qg ?_
 exact po0 [] (Wc hD0 (rfl))
def Zt (q : (List X4)) : (List ByteArray) := (Hq q false)
theorem Oq (q : (List X4)) : ACalls Tryz.prog 168 [.h q] (.o 0 (Zt q)) := by
 refine en Qb Tryz.func168 fun w0 F0 hG => ?_
 refine sn Qb [0, 2] [] (p0) ?_
 refine tn Qb [2] [] (pc 1 (Mn q false) p0) ?_
 refine Qg ?_
 exact po0 [] (show Zt q = (Hq q false) from rfl)
def Zu (q : (List X4)) : (List ByteArray) := (Hq q true)
theorem Ot (q : (List X4)) : ACalls Tryz.prog 170 [.h q] (.o 0 (Zu q)) := by
 refine en Qb Tryz.func170 fun w0 F0 hG => ?_
 refine sn Qb [0, 2] [] (p0) ?_
 refine tn Qb [2] [] (pc 1 (Mn q true) p0) ?_
 refine Qg ?_
 exact po0 [] (show Zu q = (Hq q true) from rfl)
end Go.Proofs.YtkbfhiamdcoieaaGreatDoor
namespace Go.Proofs.YtkbfhiamdcoieaaGreatDoor
open Go.RowKit
theorem HV (n : X4) : Xa n.1 8 9 = J5 n := by
  unfold Xa J5
  rw [Bool.eq_iff_iff]
  simp
  omega
theorem Tp (q : List X4) (b : Bool) : ∀ (l : List Bool) (k : Nat) (s : List ByteArray), ∃ m, Xp (K7 q b) Wv l k s = .brk (s ++ m) ∧ ∀ t, Xp (B1 q b) B2 l k t = .brk (Nd t m)
  | [], k, s => ⟨[], by simp [Xp, Wv], fun t => by simp [Xp, B2, Nd]⟩
  | a :: l, k, s => by
    simp only [Xp, K7, B1, HV]
    cases h : (J5 (nth q k) && (a == b)) with
    | true =>
      obtain ⟨m, h1, h2⟩ := Tp q b l (k + 1) (s ++ [(nth q k).2.2.2.1])
      refine ⟨(nth q k).2.2.2.1 :: m, ?_, fun t => ?_⟩
      · simp only [cond_true]; rw [h1, List.append_assoc]; rfl
      simp only [cond_true]; rw [h2, VU]; rfl
    | false =>
      obtain ⟨m, h1, h2⟩ := Tp q b l (k + 1) s
      exact ⟨m, by simp only [cond_false]; exact h1, fun t => by simp only [cond_false]; exact h2 t⟩
theorem IK (q : List X4) (b : Bool) : Hq q b = Vl q b := by
  unfold Hq Vl
  obtain ⟨m, h1, h2⟩ := Tp q b (Xq q) 0 []
  rw [YD, h1, h2]
  simp only [Out.on, List.nil_append]
  exact (OD m).symm
theorem EA (q : List X4) : Zt q = X8 q := IK q false
theorem EB (q : List X4) : Zu q = Xr q := IK q true
open GoE (enc wide)
def Kh (d : (List Yd)) (k0 : Nat) (a0 : Yd) (_ : Unit) : Rd (Bool) (Unit) (Unit) := (bif ((!(Yz a0.1)) || (bif decide (((k0 : Nat) : Int) > (0 : Int)) then ((!(Op.bytesLess ((nth d (Int.toNat (((k0 : Nat) : Int) - 1))).1).toList a0.1.toList)) || (!(Q4 a0.2))) else (!(Q4 a0.2)))) then (.ret false) else (.next ()))
def Vy (_ : Nat) (_ : Unit) : Unit := ()
def Jp (d : (List Yd)) : Bool := (Out.on (Xp (Kh d) Vy d 0 ()) (fun _ => decide ((d.length : Int) ≤ (5 : Int))))
theorem P0 (d : (List Yd)) : ACalls Tryz.prog 157 [.h d] (.b (Jp d)) := by
 refine en Qb Tryz.func157 fun w0 F0 hG => ?_
 refine sn Qb [0, 2] [] (p0) ?_
 refine Qe (tn Qb [0, 2, 5, 6, 7] [] (pl 1 d p0) ?_)
 refine mz [(2, .b false), (5, .h d), (6, .i (d.length : Int)), (7, .i 0)] [] [] [] ?_
 refine wT 0 0 .sh d (fun hw1 hl2 => ?_)
 refine L3 (Kh d) Vy d () (fun k0 _ => [(7, .i ((k0 : Nat) : Int))]) [7] (fun _ => []) [5, 6, 7] (Qd (by kernel_rfl)) (fun k0 s0 hk0 hI0 => ?_) (fun k0 s0 hk0 hI0 => ?_) (fun y0 hD0 => ?_)
 ·
  obtain ⟨a0, hx0⟩ := Xm (l := d) (i := k0) hk0
  refine sn Qb [0, 2, 5, 6, 7, 8] [] (pe 0 (Qo (decide_eq_true (p := ((k0 : Nat) : Int) < (d.length : Int)) (by omega))) p0) ?_
  refine Qe (ckT ?_)
  refine Qh ?_
  refine Qe (Qs ?_)
  refine tn Qb [0, 2, 3, 4, 5, 6, 7] [4] (pn 1 hx0 p0) ?_
  refine Qe (mz [(3, .i ((k0 : Nat) : Int)), (4, .p 4 0)] [] [(4, [.s a0.1, .h a0.2])] [] ?_)
  refine jn [(36, .b ((!(Yz a0.1)) || (bif decide (((k0 : Nat) : Int) > (0 : Int)) then ((!(Op.bytesLess ((nth d (Int.toNat (((k0 : Nat) : Int) - 1))).1).toList a0.1.toList)) || (!(Q4 a0.2))) else (!(Q4 a0.2)))))] [3, 4] [] [4] (!(Yz a0.1)) (fun h3 => ?_) (fun h3 => ?_) ?_
  ·
   have h3n : (Yz a0.1) = false := Vr h3
   refine rN Qb Yo [0, 2, 5, 6, 7, 36] [] (pc 2 (cb h3n (J4 a0.1)) (pe 3 (show .b (!false) = .b true from rfl) p0)) ?_
   exact ⟨rfl, Qd (by rw [h3]; first | done | kernel_rfl)⟩
  ·
   have h3n : (Yz a0.1) = true := Ze h3
   refine Xl (decide (((k0 : Nat) : Int) > (0 : Int))) (fun h4 => ?_) (fun h4 => ?_)
   ·
    have h4d := of_decide_eq_true h4
    refine Xl (!(Op.bytesLess ((nth d (Int.toNat (((k0 : Nat) : Int) - 1))).1).toList a0.1.toList)) (fun h5 => ?_) (fun h5 => ?_)
    ·
     have hx6 := ng d (Int.toNat (((k0 : Nat) : Int) - 1))
     refine rN Qb Yo [0, 2, 5, 6, 7, 36] [] (pc 2 (cb h3n (J4 a0.1)) (pe 3 (show .b (!true) = .b false from rfl) (pt 6 h4 (pe 10 (Jn (IntWalk.i64_in (((k0 : Nat) : Int) - 1) (by omega))) (pg 11 (((k0 : Nat) : Int) - 1) hx6 (pt 16 h5 p0)))))) ?_
     exact ⟨rfl, Qd (by rw [h3, h4, h5]; first | done | kernel_rfl)⟩
    have hx7 := ng d (Int.toNat (((k0 : Nat) : Int) - 1))
    refine rN Qb Yo [0, 2, 5, 6, 7, 36] [] (pc 2 (cb h3n (J4 a0.1)) (pe 3 (show .b (!true) = .b false from rfl) (pt 6 h4 (pe 10 (Jn (IntWalk.i64_in (((k0 : Nat) : Int) - 1) (by omega))) (pg 11 (((k0 : Nat) : Int) - 1) hx7 (pf 16 h5 (pc 22 (W1 a0.2) p0))))))) ?_
    exact ⟨rfl, Qd (by rw [h3, h4, h5]; first | done | kernel_rfl)⟩
   refine rN Qb Yo [0, 2, 5, 6, 7, 36] [] (pc 2 (cb h3n (J4 a0.1)) (pe 3 (show .b (!true) = .b false from rfl) (pf 6 h4 (pc 22 (W1 a0.2) p0)))) ?_
   exact ⟨rfl, Qd (by rw [h3, h4]; first | done | kernel_rfl)⟩
  refine ck ((!(Yz a0.1)) || (bif decide (((k0 : Nat) : Int) > (0 : Int)) then ((!(Op.bytesLess ((nth d (Int.toNat (((k0 : Nat) : Int) - 1))).1).toList a0.1.toList)) || (!(Q4 a0.2))) else (!(Q4 a0.2)))) (fun h8 => ?_) (fun h8 => ?_)
  ·
   refine su Qb [] [36] [] [] (p0) ?_
   refine Qg ?_
   have hr9 : (Xp (Kh d) Vy d 0 ()) = .ret false := Zx hx0 (Q6 h8 (rfl)) hI0
   exact pb [] (Iq hr9)
  refine Qh ?_
  refine rn Qb [0, 2, 5, 6, 7] [] (pe 0 (Jn (Qp k0 (by omega))) p0) ?_
  exact Exists.intro _ (And.intro (Qd (by kernel_rfl)) (Qx hx0 (Qm h8 (rfl)) hI0))
 ·
  refine sn Qb [0, 2, 5, 6, 7, 8] [] (pe 0 (Qo (decide_eq_false (p := ((k0 : Nat) : Int) < (d.length : Int)) (by omega))) p0) ?_
  refine Qe (ckF ?_)
  refine Q5 ?_
  exact Exists.intro _ (And.intro (Qd (by kernel_rfl)) (Xn hk0 (rfl) hI0))
 refine sn Qb [2] [] (pl 1 d p0) ?_
 refine Qg ?_
 exact pb [] (Wc hD0 (rfl))
def W2 (d : (List Yd)) (k0 : Nat) (a0 : Yd) (_ : Unit) : Rd (Bool) (Unit) (Unit) := (bif ((!(Ya a0.1)) || ((!(Ym a0.2)) || (decide (((k0 : Nat) : Int) > (0 : Int)) && (!(Op.bytesLess ((nth d (Int.toNat (((k0 : Nat) : Int) - 1))).1).toList a0.1.toList))))) then (.ret false) else (.next ()))
def U8 (_ : Nat) (_ : Unit) : Unit := ()
def Wp (d : (List Yd)) : Bool := (Out.on (Xp (W2 d) U8 d 0 ()) (fun _ => decide ((d.length : Int) ≤ (5 : Int))))
theorem P1 (d : (List Yd)) : ACalls Tryz.prog 151 [.h d] (.b (Wp d)) := by
 refine en Qb Tryz.func151 fun w0 F0 hG => ?_
 refine sn Qb [0, 2] [] (p0) ?_
 refine Qe (tn Qb [0, 2, 3] [] (p0) ?_)
 refine mz [(2, .b false), (3, .i 0)] [] [] [] ?_
 refine wT 0 0 .sh d (fun hw1 hl2 => ?_)
 refine L3 (W2 d) U8 d () (fun k0 _ => [(3, .i ((k0 : Nat) : Int))]) [3] (fun _ => []) [3] (Qd (by kernel_rfl)) (fun k0 s0 hk0 hI0 => ?_) (fun k0 s0 hk0 hI0 => ?_) (fun y0 hD0 => ?_)
 ·
  obtain ⟨a0, hx0⟩ := Xm (l := d) (i := k0) hk0
  refine Qe (sn Qb [0, 2, 3, 7] [] (pl 2 d (pe 3 (Qo (decide_eq_true (p := ((k0 : Nat) : Int) < (d.length : Int)) (by omega))) p0)) ?_)
  refine ckT ?_
  refine Qh ?_
  refine Qe (Qs ?_)
  refine Qe (mz [(7, .b true)] [] [] [] ?_)
  refine jn [(43, .b ((!(Ya a0.1)) || ((!(Ym a0.2)) || (decide (((k0 : Nat) : Int) > (0 : Int)) && (!(Op.bytesLess ((nth d (Int.toNat (((k0 : Nat) : Int) - 1))).1).toList a0.1.toList))))))] [7] [] [] (!(Ya a0.1)) (fun h3 => ?_) (fun h3 => ?_) ?_
  ·
   have h3n : (Ya a0.1) = false := Vr h3
   refine rN Qb Yo [0, 2, 3, 43] [] (pn 2 hx0 (pc 5 (cb h3n (Z3 a0.1)) (pe 6 (show .b (!false) = .b true from rfl) p0))) ?_
   exact ⟨rfl, Qd (by rw [h3]; first | done | kernel_rfl)⟩
  ·
   have h3n : (Ya a0.1) = true := Ze h3
   refine Xl (!(Ym a0.2)) (fun h4 => ?_) (fun h4 => ?_)
   ·
    have h4n : (Ym a0.2) = false := Vr h4
    refine rN Qb Yo [0, 2, 3, 43] [] (pn 2 hx0 (pc 5 (cb h3n (Z3 a0.1)) (pe 6 (show .b (!true) = .b false from rfl) (pn 10 hx0 (pc 13 (cb h4n (Vx a0.2)) (pe 14 (show .b (!false) = .b true from rfl) p0)))))) ?_
    exact ⟨rfl, Qd (by rw [h3, h4]; first | done | kernel_rfl)⟩
   have h4n : (Ym a0.2) = true := Ze h4
   refine Xl (decide (((k0 : Nat) : Int) > (0 : Int))) (fun h5 => ?_) (fun h5 => ?_)
   ·
    have h5d := of_decide_eq_true h5
    have hx6 := ng d (Int.toNat (((k0 : Nat) : Int) - 1))
    refine rN Qb Yo [0, 2, 3, 43] [] (pn 2 hx0 (pc 5 (cb h3n (Z3 a0.1)) (pe 6 (show .b (!true) = .b false from rfl) (pn 10 hx0 (pc 13 (cb h4n (Vx a0.2)) (pe 14 (show .b (!true) = .b false from rfl) (pt 18 h5 (pe 22 (Jn (IntWalk.i64_in (((k0 : Nat) : Int) - 1) (by omega))) (pg 23 (((k0 : Nat) : Int) - 1) hx6 (pn 28 hx0 p0)))))))))) ?_
    exact ⟨rfl, Qd (by rw [h3, h4, h5]; first | done | kernel_rfl)⟩
   refine rN Qb Yo [0, 2, 3, 43] [] (pn 2 hx0 (pc 5 (cb h3n (Z3 a0.1)) (pe 6 (show .b (!true) = .b false from rfl) (pn 10 hx0 (pc 13 (cb h4n (Vx a0.2)) (pe 14 (show .b (!true) = .b false from rfl) (pf 18 h5 p0))))))) ?_
   exact ⟨rfl, Qd (by rw [h3, h4, h5]; first | done | kernel_rfl)⟩
  refine ck ((!(Ya a0.1)) || ((!(Ym a0.2)) || (decide (((k0 : Nat) : Int) > (0 : Int)) && (!(Op.bytesLess ((nth d (Int.toNat (((k0 : Nat) : Int) - 1))).1).toList a0.1.toList))))) (fun h7 => ?_) (fun h7 => ?_)
  ·
   refine sn Qb [0, 2, 3] [] (p0) ?_
   refine Qg ?_
   have hr8 : (Xp (W2 d) U8 d 0 ()) = .ret false := Zx hx0 (Q6 h7 (rfl)) hI0
   exact pb [] (Iq hr8)
  refine Qh ?_
  refine rn Qb [0, 2, 3] [] (pe 1 (Jn (Qp k0 (by omega))) p0) ?_
  exact Exists.intro _ (And.intro (Qd (by kernel_rfl)) (Qx hx0 (Qm h7 (rfl)) hI0))
 ·
  refine Qe (sn Qb [0, 2, 3, 7] [] (pl 2 d (pe 3 (Qo (decide_eq_false (p := ((k0 : Nat) : Int) < (d.length : Int)) (by omega))) p0)) ?_)
  refine ckF ?_
  refine Q5 ?_
  exact Exists.intro _ (And.intro (Qd (by kernel_rfl)) (Xn hk0 (rfl) hI0))
 refine sn Qb [2] [] (pl 1 d p0) ?_
 refine Qg ?_
 exact pb [] (Wc hD0 (rfl))
def Bc (x : Yd) (q0 : ByteArray) : Bool := (x.1.toList == q0.toList)
theorem ZX (x : Yd) (q0 : ByteArray) : ACalls Tryz.prog 185 [.a [.s x.1, .h x.2], .one (.rptr .sh [.s q0])] (.b (Bc x q0)) := by
 refine en Qb Tryz.func185 fun w0 F0 hG => ?_
 refine sn Qb [1, 2, 3] [2] (p0) ?_
 refine tn Qb [3] [] (p0) ?_
 refine Qg ?_
 exact pb [] (show Bc x q0 = (x.1.toList == q0.toList) from rfl)
def X0 (c0 : ByteArray) (k0 : Nat) (a0 : Yd) (_ : Unit) : Rd (Int) (Unit) (Unit) := (bif (Bc a0 c0) then (.ret ((k0 : Nat) : Int)) else (.next ()))
def Yl (_ : Nat) (_ : Unit) : Unit := ()
def Je (s_ : (List Yd)) (c0 : ByteArray) : Int := (Out.on (Xp (X0 c0) Yl s_ 0 ()) (fun _ => -1))
theorem B3 (s_ : (List Yd)) (c0 : ByteArray) : ACalls Tryz.prog 184 [.h s_, .one (.fnr 185 [[.s c0]])] (.i (Je s_ c0)) := by
 refine en Qb Tryz.func184 fun w0 F0 hG => ?_
 refine sn Qb [0, 1, 4] [] (p0) ?_
 refine Qe (tn Qb [0, 1, 4, 7, 8] [] (pl 1 s_ p0) ?_)
 refine mz [(4, .i 0), (7, .i (s_.length : Int)), (8, .i 0)] [] [] [] ?_
 refine wT 0 0 .sh s_ (fun hw1 hl2 => ?_)
 refine L3 (X0 c0) Yl s_ () (fun k0 _ => [(8, .i ((k0 : Nat) : Int))]) [8] (fun _ => []) [0, 1, 7, 8] (Qd (by kernel_rfl)) (fun k0 s0 hk0 hI0 => ?_) (fun k0 s0 hk0 hI0 => ?_) (fun y0 hD0 => ?_)
 ·
  obtain ⟨a0, hx0⟩ := Xm (l := s_) (i := k0) hk0
  refine sn Qb [0, 1, 4, 7, 8, 9] [] (pe 0 (Qo (decide_eq_true (p := ((k0 : Nat) : Int) < (s_.length : Int)) (by omega))) p0) ?_
  refine Qe (ckT ?_)
  refine Qh ?_
  refine Qe (Qs ?_)
  refine tn Qb [0, 1, 4, 5, 7, 8] [] (p0) ?_
  refine tu Qb [(5, .i ((k0 : Nat) : Int)), (16, .b (Bc a0 c0))] [] [] [] (pn 3 hx0 (pc 5 (ZX a0 c0) p0)) ?_
  refine ck (Bc a0 c0) (fun h3 => ?_) (fun h3 => ?_)
  ·
   refine sn Qb [0, 1, 4, 7, 8] [] (p0) ?_
   refine Qg ?_
   have hr4 : (Xp (X0 c0) Yl s_ 0 ()) = .ret ((k0 : Nat) : Int) := Zx hx0 (Q6 h3 (rfl)) hI0
   exact pi [] (Iq hr4)
  refine Qh ?_
  refine rn Qb [0, 1, 4, 7, 8] [] (pe 0 (Jn (Qp k0 (by omega))) p0) ?_
  exact Exists.intro _ (And.intro (Qd (by kernel_rfl)) (Qx hx0 (Qm h3 (rfl)) hI0))
 ·
  refine sn Qb [0, 1, 4, 7, 8, 9] [] (pe 0 (Qo (decide_eq_false (p := ((k0 : Nat) : Int) < (s_.length : Int)) (by omega))) p0) ?_
  refine Qe (ckF ?_)
  refine Q5 ?_
  exact Exists.intro _ (And.intro (Qd (by kernel_rfl)) (Xn hk0 (rfl) hI0))
 refine sn Qb [4] [] (p0) ?_
 refine Qg ?_
 exact pi [] (Wc hD0 (rfl))
def Xt (d : (List Yd)) (name : ByteArray) : Int := (Je d name)
theorem HW (d : (List Yd)) (name : ByteArray) : ACalls Tryz.prog 174 [.h d, .s name] (.i (Xt d name)) := by
 refine en Qb Tryz.func174 fun w0 F0 hG => ?_
 refine sn Qb [0, 3, 4] [3] (p0) ?_
 refine tn Qb [4] [] (pc 2 (B3 d name) p0) ?_
 refine Qg ?_
 exact pi [] (show Xt d name = (Je d name) from rfl)
def Fb (name : ByteArray) (k0 : Nat) (a0 : Yd) (_ : Unit) : Rd (Int) (Unit) (Unit) := (bif (a0.1.toList == name.toList) then (.ret ((k0 : Nat) : Int)) else (.next ()))
def Fd (_ : Nat) (_ : Unit) : Unit := ()
def Xe (d : (List Yd)) (name : ByteArray) : Int := (Out.on (Xp (Fb name) Fd d 0 ()) (fun _ => -1))
theorem Mo (d : (List Yd)) (name : ByteArray) : ACalls Tryz.prog 169 [.h d, .s name] (.i (Xe d name)) := by
 refine en Qb Tryz.func169 fun w0 F0 hG => ?_
 refine sn Qb [0, 1, 4] [] (p0) ?_
 refine Qe (tn Qb [0, 1, 4, 5] [] (p0) ?_)
 refine mz [(4, .i 0), (5, .i 0)] [] [] [] ?_
 refine wT 0 0 .sh d (fun hw1 hl2 => ?_)
 refine L3 (Fb name) Fd d () (fun k0 _ => [(5, .i ((k0 : Nat) : Int))]) [5] (fun _ => []) [0, 1, 5] (Qd (by kernel_rfl)) (fun k0 s0 hk0 hI0 => ?_) (fun k0 s0 hk0 hI0 => ?_) (fun y0 hD0 => ?_)
 ·
  obtain ⟨a0, hx0⟩ := Xm (l := d) (i := k0) hk0
  refine Qe (sn Qb [0, 1, 4, 5, 9] [] (pl 2 d (pe 3 (Qo (decide_eq_true (p := ((k0 : Nat) : Int) < (d.length : Int)) (by omega))) p0)) ?_)
  refine ckT ?_
  refine Qh ?_
  refine Qe (Qs ?_)
  refine tn Qb [0, 1, 4, 5, 18] [] (pn 2 hx0 p0) ?_
  refine ck (a0.1.toList == name.toList) (fun h3 => ?_) (fun h3 => ?_)
  ·
   refine tu Qb [(4, .i ((k0 : Nat) : Int))] [4] [] [] (p0) ?_
   refine Qg ?_
   have hr4 : (Xp (Fb name) Fd d 0 ()) = .ret ((k0 : Nat) : Int) := Zx hx0 (Q6 h3 (rfl)) hI0
   exact pi [] (Iq hr4)
  refine Qh ?_
  refine qu Qb [(5, .i ((k0 + 1 : Nat) : Int))] [5] [] [] (pe 1 (Jn (Qp k0 (by omega))) p0) ?_
  exact Exists.intro _ (And.intro (Qd (by kernel_rfl)) (Qx hx0 (Qm h3 (rfl)) hI0))
 ·
  refine Qe (sn Qb [0, 1, 4, 5, 9] [] (pl 2 d (pe 3 (Qo (decide_eq_false (p := ((k0 : Nat) : Int) < (d.length : Int)) (by omega))) p0)) ?_)
  refine ckF ?_
  refine Q5 ?_
  exact Exists.intro _ (And.intro (Qd (by kernel_rfl)) (Xn hk0 (rfl) hI0))
 refine sn Qb [4] [] (p0) ?_
 refine Qg ?_
 exact pi [] (Wc hD0 (rfl))
end Go.Proofs.YtkbfhiamdcoieaaGreatDoor
namespace Go.Proofs.YtkbfhiamdcoieaaGreatDoor
open Go.RowKit
theorem ZY (d : List Yd) : Jp d = Wp d := by
  unfold Jp Wp
  rw [B0 (f := Kh d) (g := W2 d) (e := Vy) (e' := U8) (fun k a s => by
    unfold Kh W2
    rw [OA, GS]
    cases Ya a.1 <;> cases Ym a.2 <;> cases decide (((k : Nat) : Int) > (0 : Int)) <;> simp) (fun _ _ => rfl)]
theorem CK (s : ByteArray) : ∀ (l : List Yd) (k : Nat), Xp (X0 s) Yl l k () = .brk () ∨ ∃ i : Nat, i < l.length ∧ Xp (X0 s) Yl l k () = .ret (((k + i : Nat)) : Int)
  | [], _ => .inl rfl
  | a :: l, k => by
    simp only [Xp, X0]
    unfold Bc
    cases (a.1.toList == s.toList) with
    | true => exact .inr ⟨0, by simp, rfl⟩
    | false =>
      simp only [cond_false]
      rcases CK s l (k + 1) with h | ⟨i, hi, h⟩
      · exact .inl h
      exact .inr ⟨i + 1, by simpa using hi, by rw [h, show k + 1 + i = k + (i + 1) by omega]⟩
theorem ZZ (d : List Yd) (s : ByteArray) : -1 ≤ Xt d s ∧ Xt d s < (List.length d : Int) := by
  unfold Xt Je
  rcases CK s d 0 with h | ⟨i, hi, h⟩
  · rw [h]; simp only [Out.on]; omega
  rw [h]; simp only [Out.on]; omega
theorem Ou (d : List Yd) (s : ByteArray) : -1 ≤ Xe d s ∧ Xe d s < (List.length d : Int) := ZZ d s
open GoE (enc wide)
def U9 (d : (List Yd)) (strata : (List Int)) (more : Int) (_ : Nat) (a0 : ByteArray) (s0 : Int) : Rd (Int) (Int) (Int) := (bif decide ((Xt d a0) ≥ (0 : Int)) then (.next (max s0 (IntKind.i64.wrap ((nth strata (Int.toNat (Xt d a0))) + more)))) else (.next s0))
def B4 (_ : Nat) (s0 : Int) : Int := s0
def Xo (d : (List Yd)) (strata : (List Int)) (names : (List ByteArray)) (more : Int) : Int := (Out.on (Xp (U9 d strata more) B4 names 0 0) (fun y0 => y0))
theorem Gl (d : (List Yd)) (strata : (List Int)) (names : (List ByteArray)) (more : Int) (hp : List.length d ≤ List.length strata) : ACalls Tryz.prog 158 [.h d, .h strata, .h names, .i more] (.i (Xo d strata names more)) := by
 refine en Qb Tryz.func158 fun w0 F0 hG => ?_
 refine sn Qb [0, 1, 2, 3, 8] [] (p0) ?_
 refine tn Qb [0, 1, 2, 3, 8, 9] [] (p0) ?_
 refine Qe (tu Qb [(8, .i 0), (9, .i 0), (13, .h names), (14, .i (names.length : Int)), (15, .i 0)] [2] [] [] (pl 1 names p0) ?_)
 refine wT 13 0 .sh names (fun hw1 hl2 => ?_)
 refine L3 (U9 d strata more) B4 names 0 (fun k0 s0 => [(9, .i s0), (15, .i ((k0 : Nat) : Int))]) [9, 15] (fun y0 => [(9, .i y0)]) [0, 1, 3, 9, 13, 14, 15] (Qd (by kernel_rfl)) (fun k0 s0 hk0 hI0 => ?_) (fun k0 s0 hk0 hI0 => ?_) (fun y0 hD0 => ?_)
 ·
  obtain ⟨a0, hx0⟩ := Xm (l := names) (i := k0) hk0
  refine su Qb [(16, .b true)] [] [] [] (pe 0 (Qo (decide_eq_true (p := ((k0 : Nat) : Int) < (names.length : Int)) (by omega))) p0) ?_
  refine Qe (ckT ?_)
  refine Qh ?_
  refine Qe (Qs ?_)
  refine su Qb [(11, .s a0)] [16] [] [] (pn 0 hx0 p0) ?_
  refine sn Qb [0, 1, 3, 8, 9, 12, 13, 14, 15] [] (pc 2 (HW d a0) p0) ?_
  refine tn Qb [0, 1, 3, 8, 9, 12, 13, 14, 15, 23] [] (p0) ?_
  refine ck (decide ((Xt d a0) ≥ (0 : Int))) (fun h3 => ?_) (fun h3 => ?_)
  ·
   have h3p := ZZ d a0
   have h3d := of_decide_eq_true h3
   refine wT 1 0 .sh strata (fun hw5 hl6 => ?_)
   have hx4 := ng strata (Int.toNat (Xt d a0))
   refine qu Qb [(9, .i (max s0 (IntKind.i64.wrap ((nth strata (Int.toNat (Xt d a0))) + more))))] [9, 11] [] [] (pg 3 (Xt d a0) hx4 p0) ?_
   refine rn Qb [0, 1, 3, 8, 9, 13, 14, 15] [] (pe 0 (Jn (Qp k0 (by omega))) p0) ?_
   exact Exists.intro _ (And.intro (Qd (by kernel_rfl)) (Qx hx0 (Q6 h3 (rfl)) hI0))
  have h3d := of_decide_eq_false h3
  refine Qh ?_
  refine qu Qb [(15, .i ((k0 + 1 : Nat) : Int))] [11, 15] [] [] (pe 0 (Jn (Qp k0 (by omega))) p0) ?_
  exact Exists.intro _ (And.intro (Qd (by kernel_rfl)) (Qx hx0 (Qm h3 (rfl)) hI0))
 ·
  refine su Qb [(16, .b false)] [] [] [] (pe 0 (Qo (decide_eq_false (p := ((k0 : Nat) : Int) < (names.length : Int)) (by omega))) p0) ?_
  refine Qe (ckF ?_)
  refine Q5 ?_
  exact Exists.intro _ (And.intro (Qd (by kernel_rfl)) (Xn hk0 (rfl) hI0))
 refine sn Qb [8] [] (p0) ?_
 refine Qg ?_
 exact pi [] (Wc hD0 (rfl))
def Uk (d : (List Yd)) (k0 : Nat) (_ : Nat) (a1 : ByteArray) (s1 : (List Int)) : Rd (Rd ((List Int)) ((List Int)) ((List Int))) ((List Int)) ((List Int)) := (bif (decide ((Xe d a1) ≥ (0 : Int)) && decide ((nth s1 (Int.toNat (Xe d a1))) > (nth s1 k0))) then (.next (List.set s1 k0 (nth s1 (Int.toNat (Xe d a1))))) else (.next s1))
def Hr (_ : Nat) (s1 : (List Int)) : (List Int) := s1
def Ul (d : (List Yd)) (k0 : Nat) (_ : Nat) (a2 : ByteArray) (s2 : (List Int)) : Rd (Rd ((List Int)) ((List Int)) ((List Int))) ((List Int)) ((List Int)) := (bif (decide ((Xe d a2) ≥ (0 : Int)) && decide (IntKind.i64.wrap ((nth s2 (Int.toNat (Xe d a2))) + 1) > (nth s2 k0))) then (.next (List.set s2 k0 (IntKind.i64.wrap ((nth s2 (Int.toNat (Xe d a2))) + 1)))) else (.next s2))
def B5 (_ : Nat) (s2 : (List Int)) : (List Int) := s2
def Wq (d : (List Yd)) (k0 : Nat) (a0 : Yd) (s0 : (List Int)) : Rd ((List Int)) ((List Int)) ((List Int)) := (Out.on (Xp (Uk d k0) Hr (Zt a0.2) 0 s0) (fun y1 => (Out.on (Xp (Ul d k0) B5 (Zu a0.2) 0 y1) (fun y2 => (.next y2)))))
def B6 (_ : Nat) (s0 : (List Int)) : (List Int) := s0
def Vs (d : (List Yd)) (lev : (List Int)) : (List Int) := (Out.on (Xp (Wq d) B6 d 0 lev) (fun y0 => y0))
theorem Mp (d : (List Yd)) (lev : (List Int)) (hp : List.length d ≤ List.length lev) : ACalls Tryz.prog 152 [.h d, .h lev] (.o 0 (Vs d lev)) := by
 refine en Qb Tryz.func152 fun w0 F0 hG => ?_
 refine sn Qb [0, 1, 4] [] (p0) ?_
 refine wT 1 0 .sh lev (fun hw1 hl2 => ?_)
 refine tn Qb [0, 4, 5] [] (po 2 (.flat) (px (Ds (n := (([] : List (List PV)).length + ((eL lev) : List (List PV)).length)) (Gi (rfl) (Y5 lev) (by first | omega | (simp only [List.length_cons, List.length_nil]; omega) | (simp; omega) | simp))) (px (A7 (Af lev)) p0))) ?_
 refine Qe (tu Qb [(4, .e 0), (5, .o 960 lev), (6, .i 0)] [1] [] [] (p0) ?_)
 refine wT 0 0 .sh d (fun hw3 hl4 => ?_)
 refine TJ (Wq d) B6 d lev (fun k0 s0 => [(5, .o 960 s0), (6, .i ((k0 : Nat) : Int))]) [5, 6] (fun y0 => [(5, .o 960 y0)]) [0, 5, 6] (fun _ s0 => List.length s0 = List.length lev) (fun y0 => List.length y0 = List.length lev) (Qd (by kernel_rfl)) (by simp) (fun k0 s0 hk0 hI0 => ?_) (fun k0 s0 hk0 hI0 => ?_) (fun y0 hD0 => ?_)
 ·
  have hA0_0 := hI0.2
  obtain ⟨a0, hx0⟩ := Xm (l := d) (i := k0) hk0
  refine Qe (sn Qb [0, 4, 5, 6, 19] [] (pl 2 d (pe 3 (Qo (decide_eq_true (p := ((k0 : Nat) : Int) < (d.length : Int)) (by omega))) p0)) ?_)
  refine ckT ?_
  refine Qh ?_
  refine Qe (Qs ?_)
  refine tn Qb [0, 4, 5, 6, 7] [] (pn 2 hx0 (pc 5 (Oq a0.2) p0)) ?_
  refine Qe (tu Qb [(7, .o 1728 (Zt a0.2)), (8, .i 0)] [] [] [] (p0) ?_)
  refine wT 7 0 (.own true 1728) (Zt a0.2) (fun hw5 hl6 => ?_)
  refine TJ (Uk d k0) Hr (Zt a0.2) s0 (fun k1 s1 => [(5, .o 960 s1), (8, .i ((k1 : Nat) : Int))]) [5, 8] (fun y1 => [(5, .o 960 y1)]) [5, 7, 8] (fun _ s1 => List.length s1 = List.length s0) (fun y1 => List.length y1 = List.length s0) (Qd (by kernel_rfl)) (by simp) (fun k1 s1 hk1 hI1 => ?_) (fun k1 s1 hk1 hI1 => ?_) (fun y1 hD1 => ?_)
  ·
   have hA1_0 := hI1.2
   obtain ⟨a1, hx1⟩ := Xm (l := Zt a0.2) (i := k1) hk1
   refine Qe (su Qb [(31, .b true)] [] [] [] (pl 2 (Zt a0.2) (pe 3 (Qo (decide_eq_true (p := ((k1 : Nat) : Int) < ((Zt a0.2).length : Int)) (by omega))) p0)) ?_)
   refine ckT ?_
   refine Qh ?_
   refine Qe (Qs ?_)
   refine sn Qb [0, 4, 5, 6, 7, 8, 9] [] (pN 3 hx1 (pc 5 (Mo d a1) p0)) ?_
   refine Qe (mz [(9, .i (Xe d a1))] [31] [] [] ?_)
   refine jn [(52, .b (decide ((Xe d a1) ≥ (0 : Int)) && decide ((nth s1 (Int.toNat (Xe d a1))) > (nth s1 k0))))] [] [] [] (decide ((Xe d a1) ≥ (0 : Int))) (fun h7 => ?_) (fun h7 => ?_) ?_
   ·
    have h7p := Ou d a1
    have h7d := of_decide_eq_true h7
    refine wT 5 0 (.own true 960) s1 (fun hw9 hl10 => ?_)
    have hx8 := ng s1 (Int.toNat (Xe d a1))
    have hx11 := ng s1 k0
    refine rN Qb Yo [0, 4, 5, 6, 7, 8, 9, 52] [] (pt 1 h7 (pG 5 (Xe d a1) hx8 (pN 9 hx11 p0))) ?_
    exact ⟨rfl, Qd (by rw [h7]; first | done | kernel_rfl)⟩
   ·
    refine rU Qb Yo [(52, .b false)] [] [] [] (pf 1 h7 p0) ?_
    exact ⟨rfl, Qd (by rw [h7]; first | done | kernel_rfl)⟩
   refine ck (decide ((Xe d a1) ≥ (0 : Int)) && decide ((nth s1 (Int.toNat (Xe d a1))) > (nth s1 k0))) (fun h12 => ?_) (fun h12 => ?_)
   ·
    have h12l : (decide ((Xe d a1) ≥ (0 : Int))) = true := M9 h12
    have h12lp := Ou d a1
    have h12ld := of_decide_eq_true h12l
    have h12r : (decide ((nth s1 (Int.toNat (Xe d a1))) > (nth s1 k0))) = true := Pv h12
    have h12rd := of_decide_eq_true h12r
    refine wT 5 0 (.own true 960) s1 (fun hw14 hl15 => ?_)
    have hx13 := ng s1 (Int.toNat (Xe d a1))
    have hx16 := ng s1 k0
    refine ru Qb [(5, .one (.slc (.own true 960) 1 (setRow (eL s1) k0 0 [.i (nth s1 (Int.toNat (Xe d a1)))])))] [5, 9, 52] [] [] (pG 4 (Xe d a1) hx13 (pN 6 hx16 p0)) ?_
    refine eqn [(5, .o 960 (List.set s1 k0 (nth s1 (Int.toNat (Xe d a1)))))] [5] [] [] (by rw [Zw (y := (nth s1 (Int.toNat (Xe d a1)))) hx16 rfl]; first | done | kernel_rfl) ?_
    refine rn Qb [0, 4, 5, 6, 7, 8] [] (pe 1 (Jn (Qp k1 (by omega))) p0) ?_
    exact Exists.intro (List.set s1 k0 (nth s1 (Int.toNat (Xe d a1)))) (And.intro (Qd (by kernel_rfl)) ⟨Qx hx1 (Q6 h12 (rfl)) hI1.1, (by first | omega | (simp only [List.length_set]; omega))⟩)
   refine Qh ?_
   refine rn Qb [0, 4, 5, 6, 7, 8] [] (pe 1 (Jn (Qp k1 (by omega))) p0) ?_
   exact Exists.intro s1 (And.intro (Qd (by kernel_rfl)) ⟨Qx hx1 (Qm h12 (rfl)) hI1.1, (by first | omega | (simp only [List.length_set]; omega))⟩)
  ·
   have hA1_0 := hI1.2
   refine Qe (su Qb [(31, .b false)] [] [] [] (pl 2 (Zt a0.2) (pe 3 (Qo (decide_eq_false (p := ((k1 : Nat) : Int) < ((Zt a0.2).length : Int)) (by omega))) p0)) ?_)
   refine ckF ?_
   refine Q5 ?_
   exact Exists.intro s1 (And.intro (Qd (by kernel_rfl)) ⟨Xn hk1 (rfl) hI1.1, by first | omega | (simp only [List.length_set]; omega)⟩)
  have hD1_0 := hD1.2
  refine sn Qb [0, 4, 5, 6, 10] [] (pn 2 hx0 (pc 5 (Ot a0.2) p0)) ?_
  refine tn Qb [0, 4, 5, 6, 10, 11] [] (p0) ?_
  refine mz [(10, .o 4160 (Zu a0.2)), (11, .i 0)] [] [] [] ?_
  refine wT 10 0 (.own true 4160) (Zu a0.2) (fun hw17 hl18 => ?_)
  refine TJ (Ul d k0) B5 (Zu a0.2) y1 (fun k2 s2 => [(5, .o 960 s2), (11, .i ((k2 : Nat) : Int))]) [5, 11] (fun y2 => [(5, .o 960 y2)]) [5, 10, 11] (fun _ s2 => List.length s2 = List.length y1) (fun y2 => List.length y2 = List.length y1) (Qd (by kernel_rfl)) (by simp) (fun k2 s2 hk2 hI2 => ?_) (fun k2 s2 hk2 hI2 => ?_) (fun y2 hD2 => ?_)
  ·
   have hA2_0 := hI2.2
   obtain ⟨a2, hx2⟩ := Xm (l := Zu a0.2) (i := k2) hk2
   refine Qe (su Qb [(69, .b true)] [] [] [] (pl 2 (Zu a0.2) (pe 3 (Qo (decide_eq_true (p := ((k2 : Nat) : Int) < ((Zu a0.2).length : Int)) (by omega))) p0)) ?_)
   refine ckT ?_
   refine Qh ?_
   refine Qe (Qs ?_)
   refine sn Qb [0, 4, 5, 6, 10, 11, 12] [] (pN 3 hx2 (pc 5 (Mo d a2) p0)) ?_
   refine Qe (mz [(12, .i (Xe d a2))] [69] [] [] ?_)
   refine jn [(91, .b (decide ((Xe d a2) ≥ (0 : Int)) && decide (IntKind.i64.wrap ((nth s2 (Int.toNat (Xe d a2))) + 1) > (nth s2 k0))))] [] [] [] (decide ((Xe d a2) ≥ (0 : Int))) (fun h19 => ?_) (fun h19 => ?_) ?_
   ·
    have h19p := Ou d a2
    have h19d := of_decide_eq_true h19
    refine wT 5 0 (.own true 960) s2 (fun hw21 hl22 => ?_)
    have hx20 := ng s2 (Int.toNat (Xe d a2))
    have hx23 := ng s2 k0
    refine rN Qb Yo [0, 4, 5, 6, 10, 11, 12, 91] [] (pt 1 h19 (pG 5 (Xe d a2) hx20 (pN 10 hx23 p0))) ?_
    exact ⟨rfl, Qd (by rw [h19]; first | done | kernel_rfl)⟩
   ·
    refine rU Qb Yo [(91, .b false)] [] [] [] (pf 1 h19 p0) ?_
    exact ⟨rfl, Qd (by rw [h19]; first | done | kernel_rfl)⟩
   refine ck (decide ((Xe d a2) ≥ (0 : Int)) && decide (IntKind.i64.wrap ((nth s2 (Int.toNat (Xe d a2))) + 1) > (nth s2 k0))) (fun h24 => ?_) (fun h24 => ?_)
   ·
    have h24l : (decide ((Xe d a2) ≥ (0 : Int))) = true := M9 h24
    have h24lp := Ou d a2
    have h24ld := of_decide_eq_true h24l
    have h24r : (decide (IntKind.i64.wrap ((nth s2 (Int.toNat (Xe d a2))) + 1) > (nth s2 k0))) = true := Pv h24
    have h24rd := of_decide_eq_true h24r
    refine wT 5 0 (.own true 960) s2 (fun hw26 hl27 => ?_)
    have hx25 := ng s2 (Int.toNat (Xe d a2))
    have hx28 := ng s2 k0
    refine ru Qb [(5, .one (.slc (.own true 960) 1 (setRow (eL s2) k0 0 [.i (IntKind.i64.wrap ((nth s2 (Int.toNat (Xe d a2))) + 1))])))] [5, 12, 91] [] [] (pG 4 (Xe d a2) hx25 (pN 7 hx28 p0)) ?_
    refine eqn [(5, .o 960 (List.set s2 k0 (IntKind.i64.wrap ((nth s2 (Int.toNat (Xe d a2))) + 1))))] [5] [] [] (by rw [Zw (y := IntKind.i64.wrap ((nth s2 (Int.toNat (Xe d a2))) + 1)) hx28 rfl]; first | done | kernel_rfl) ?_
    refine rn Qb [0, 4, 5, 6, 10, 11] [] (pe 1 (Jn (Qp k2 (by omega))) p0) ?_
    exact Exists.intro (List.set s2 k0 (IntKind.i64.wrap ((nth s2 (Int.toNat (Xe d a2))) + 1))) (And.intro (Qd (by kernel_rfl)) ⟨Qx hx2 (Q6 h24 (rfl)) hI2.1, (by first | omega | (simp only [List.length_set]; omega))⟩)
   refine Qh ?_
   refine rn Qb [0, 4, 5, 6, 10, 11] [] (pe 1 (Jn (Qp k2 (by omega))) p0) ?_
   exact Exists.intro s2 (And.intro (Qd (by kernel_rfl)) ⟨Qx hx2 (Qm h24 (rfl)) hI2.1, (by first | omega | (simp only [List.length_set]; omega))⟩)
  ·
   have hA2_0 := hI2.2
   refine Qe (su Qb [(69, .b false)] [] [] [] (pl 2 (Zu a0.2) (pe 3 (Qo (decide_eq_false (p := ((k2 : Nat) : Int) < ((Zu a0.2).length : Int)) (by omega))) p0)) ?_)
   refine ckF ?_
   refine Q5 ?_
   exact Exists.intro s2 (And.intro (Qd (by kernel_rfl)) ⟨Xn hk2 (rfl) hI2.1, by first | omega | (simp only [List.length_set]; omega)⟩)
  have hD2_0 := hD2.2
  refine rn Qb [0, 4, 5, 6] [] (pe 1 (Jn (Qp k0 (by omega))) p0) ?_
  exact Exists.intro y2 (And.intro (Qd (by kernel_rfl)) ⟨Qx hx0 (Wc hD1.1 (Wc hD2.1 (rfl))) hI0.1, (by first | omega | (simp only [List.length_set]; omega))⟩)
 ·
  have hA0_0 := hI0.2
  refine Qe (sn Qb [0, 4, 5, 6, 19] [] (pl 2 d (pe 3 (Qo (decide_eq_false (p := ((k0 : Nat) : Int) < (d.length : Int)) (by omega))) p0)) ?_)
  refine ckF ?_
  refine Q5 ?_
  exact Exists.intro s0 (And.intro (Qd (by kernel_rfl)) ⟨Xn hk0 (rfl) hI0.1, by first | omega | (simp only [List.length_set]; omega)⟩)
 have hD0_0 := hD0.2
 refine sn Qb [4] [] (p0) ?_
 refine Qg ?_
 exact po0 [] (Wc hD0.1 (rfl))
end Go.Proofs.YtkbfhiamdcoieaaGreatDoor
namespace Go.Proofs.YtkbfhiamdcoieaaGreatDoor
open Go.RowKit
theorem Ov {α R S T : Type} {f : Nat → α → S → Rd R S T} {e : Nat → S → T} (I : S → Prop) (h : ∀ k a s, I s → ∃ s', f k a s = .next s' ∧ I s') : ∀ (l : List α) (k : Nat) (s : S), I s → ∃ s', Xp f e l k s = .brk (e (k + l.length) s') ∧ I s'
  | [], k, s, hs => ⟨s, by simp [Xp], hs⟩
  | a :: l, k, s, hs => by
    obtain ⟨s1, h1, h2⟩ := h k a s hs
    obtain ⟨s2, h3, h4⟩ := Ov I h l (k + 1) s1 h2
    refine ⟨s2, ?_, h4⟩
    simp only [Xp, h1]
    rw [h3, List.length_cons, show k + 1 + l.length = k + (l.length + 1) by omega]
theorem Qbc (d : List Yd) (k0 n : Nat) (k : Nat) (a : ByteArray) (s : List Int) (hs : s.length = n) : ∃ s', Uk d k0 k a s = .next s' ∧ s'.length = n := by
  unfold Uk
  generalize (decide ((Xe d a) ≥ (0 : Int)) && decide ((nth s (Int.toNat (Xe d a))) > (nth s k0))) = c
  cases c <;> exact ⟨_, rfl, by simpa using hs⟩
theorem Qbd (d : List Yd) (k0 n : Nat) (k : Nat) (a : ByteArray) (s : List Int) (hs : s.length = n) : ∃ s', Ul d k0 k a s = .next s' ∧ s'.length = n := by
  unfold Ul
  generalize (decide ((Xe d a) ≥ (0 : Int)) && decide (IntKind.i64.wrap ((nth s (Int.toNat (Xe d a))) + 1) > (nth s k0))) = c
  cases c <;> exact ⟨_, rfl, by simpa using hs⟩
theorem Qbe (d : List Yd) (n : Nat) (k : Nat) (a : Yd) (s : List Int) (hs : s.length = n) : ∃ s', Wq d k a s = .next s' ∧ s'.length = n := by
  unfold Wq
  obtain ⟨s1, h1, h2⟩ := Ov (e := Hr) (fun s : List Int => s.length = n) (Qbc d k n) (Zt a.2) 0 s hs
  obtain ⟨s2, h3, h4⟩ := Ov (e := B5) (fun s : List Int => s.length = n) (Qbd d k n) (Zu a.2) 0 s1 h2
  refine ⟨s2, ?_, h4⟩
  rw [h1]
  simp only [Out.on, Hr]
  rw [h3]
  rfl
theorem VW (d : List Yd) (lev : List Int) : List.length (Vs d lev) = List.length lev := by
  unfold Vs
  obtain ⟨s1, h1, h2⟩ := Ov (e := B6) (fun s : List Int => s.length = lev.length) (Qbe d lev.length) d 0 lev rfl
  rw [h1]
  exact h2
theorem Fe {d : List Yd} (h : Jp d = true) : List.length d ≤ 5 := by
  unfold Jp at h
  cases hf : Xp (Kh d) Vy d 0 () with
  | brk t => rw [hf] at h; simp only [Out.on, decide_eq_true_eq] at h; omega
  | ret r =>
    rw [hf] at h
    obtain rfl : r = true := h
    exfalso
    have key : ∀ (l : List Yd) k, Xp (Kh d) Vy l k () ≠ .ret true := by
      intro l
      induction l with
      | nil => intro k h; simp [Xp] at h
      | cons a l ih =>
        intro k h
        simp only [Xp] at h
        unfold Kh at h
        split at h
        · rename_i hf; exact ih _ h
        · cases h
        rename_i r hf; cases h; revert hf; generalize (_ || _ : Bool) = c; cases c <;> simp
    exact key _ _ hf
theorem Qbf {d : List Yd} (h : Wp d = true) : IntKind.i64.wrap (IntKind.i64.wrap ((d.length : Int) * (d.length : Int)) + 1) = ((List.length d * List.length d + 1 : Nat) : Int) ∧ ((List.length d * List.length d + 1 : Nat) : Int) ≤ 26 := by
  have h5 := Fe ((ZY d).trans h)
  generalize List.length d = n at h5 ⊢
  have : n = 0 ∨ n = 1 ∨ n = 2 ∨ n = 3 ∨ n = 4 ∨ n = 5 := by omega
  rcases this with rfl | rfl | rfl | rfl | rfl | rfl <;> decide
end Go.Proofs.YtkbfhiamdcoieaaGreatDoor
namespace Go.Proofs.YtkbfhiamdcoieaaGreatDoor
open Go.RowKit
def Km (d : List Yd) (w : Int) : List ByteArray → Vk
  | [] => []
  | s :: r => if 0 ≤ Xt d s then (Int.toNat (Xt d s), w) :: Km d w r else Km d w r
theorem Ni (d : List Yd) (w : Int) : ∀ (l : List ByteArray) (e : Nat × Int), e ∈ Km d w l → e.2 = w ∧ e.1 < d.length
  | [], e, h => by simp [Km] at h
  | s :: r, e, h => by
    simp only [Km] at h
    split at h
    · rename_i h0
      rcases List.mem_cons.1 h with rfl | h
      · have := (ZZ d s).2
        exact ⟨rfl, by show Int.toNat _ < _; omega⟩
      exact Ni d w r e h
    exact Ni d w r e h
def J0 (d : List Yd) (i : Nat) : Vk := if i < d.length then Km d 0 (X8 (nth d i).2) ++ Km d 1 (Xr (nth d i).2) else []
theorem Lk (d : List Yd) (i : Nat) (e : Nat × Int) (h : e ∈ J0 d i) : e.2 ≤ 1 ∧ e.1 < d.length ∧ i < d.length := by
  unfold J0 at h
  split at h
  · rename_i hi
    rcases List.mem_append.1 h with h | h <;> (have := Ni d _ _ e h; omega)
  simp at h
theorem OG (E1 E2 : Vk) (L : List Int) : Fw (E1 ++ E2) L = max (Fw E1 L) (Fw E2 L) := by
  have h1 : Fw (E1 ++ E2) L ≤ max (Fw E1 L) (Fw E2 L) := Ba.2 ⟨by have := Nf E1 L; omega, fun e he => by
    rcases List.mem_append.1 he with he | he
    · have := (Ba.1 (Int.le_refl (Fw E1 L))).2 e he; omega
    have := (Ba.1 (Int.le_refl (Fw E2 L))).2 e he; omega⟩
  have h2 := Ba.1 (Int.le_refl (Fw (E1 ++ E2) L))
  have h3 : Fw E1 L ≤ Fw (E1 ++ E2) L := Ba.2 ⟨h2.1, fun e he => h2.2 e (List.mem_append_left _ he)⟩
  have h4 : Fw E2 L ≤ Fw (E1 ++ E2) L := Ba.2 ⟨h2.1, fun e he => h2.2 e (List.mem_append_right _ he)⟩
  omega
theorem P2 (d : List Yd) (L : List Int) (w : Int) (hw : 0 ≤ w ∧ w ≤ 1) (hL : ∀ j, 0 ≤ nth L j ∧ nth L j ≤ 1000000) : ∀ (l : List ByteArray) (k : Nat) (m : Int), Xp (U9 d L w) B4 l k m = .brk ((Km d w l).foldl (fun m e => max m (nth L e.1 + e.2)) m)
  | [], k, m => rfl
  | s :: r, k, m => by
    simp only [Xp, U9, Km]
    have hwr : ∀ j, IntKind.i64.wrap (nth L j + w) = nth L j + w := fun j => IntWalk.i64_in _ (by have := hL j; omega)
    by_cases h : 0 ≤ Xt d s
    · have h' : decide (Xt d s ≥ (0 : Int)) = true := decide_eq_true h
      rw [h', cond_true, if_pos h, hwr]
      exact P2 d L w hw hL r (k + 1) _
    have h' : decide (Xt d s ≥ (0 : Int)) = false := decide_eq_false h
    rw [h', cond_false, if_neg h]
    exact P2 d L w hw hL r (k + 1) _
theorem CL {d : List Yd} {L : List Int} {w : Int} (hw : 0 ≤ w ∧ w ≤ 1) (hL : ∀ j, 0 ≤ nth L j ∧ nth L j ≤ 1000000) (l : List ByteArray) : Xo d L l w = Fw (Km d w l) L := by
  unfold Xo
  rw [P2 d L w hw hL]
  rfl
theorem OH {d : List Yd} {L : List Int} (hL : ∀ j, 0 ≤ nth L j ∧ nth L j ≤ 1000000) {i : Nat} (hi : i < d.length) : max (Xo d L (X8 (nth d i).2) 0) (Xo d L (Xr (nth d i).2) 1) = Fw (J0 d i) L := by
  rw [CL (by omega) hL, CL (by omega) hL]
  unfold J0
  rw [if_pos hi, OG]
abbrev CM (d : List Yd) (a : Yd) (L : List Int) : Int := max (Xo d L (X8 a.2) 0) (Xo d L (Xr a.2) 1)
abbrev IL := Nat → Yd → List Int × Bool → Rd (Rd (List Int × Bool) (List Int × Bool) (List Int)) (List Int × Bool) (List Int × Bool)
def IM (d : List Yd) (f : IL) : Prop := ∀ k a s, f k a s = bif decide (CM d a s.1 > (d.length : Int)) then .ret (.ret ([], false)) else (bif decide (CM d a s.1 > nth s.1 k) then .next (List.set s.1 k (CM d a s.1), true) else .next (s.1, s.2))
theorem Nj {d : List Yd} {f : IL} {e : Nat → List Int × Bool → List Int × Bool} (hf : IM d f) (he : ∀ k s, e k s = s) (hd : d.length ≤ 1000000) :
    ∀ (l : List Yd) (k : Nat) (L : List Int) (c : Bool), d.drop k = l → L.length = d.length → (∀ j, 0 ≤ nth L j ∧ nth L j ≤ (d.length : Int)) →
      Xp f e l k (L, c) = (match C5 (J0 d) d.length (List.range' k l.length) (c, L) with
        | none => .ret (.ret ([], false))
        | some s => .brk (s.2, s.1))
  | [], k, L, c, _, _, _ => by simp [Xp, C5, he]
  | a :: l, k, L, c, hl, hlen, hL => by
    have hk : d[k]? = some a := by
      have := congrArg (·[0]?) hl
      simpa using this
    have hkl : k < d.length := (List.getElem?_eq_some_iff.1 hk).1
    have ha : nth d k = a := Ip hk
    have hrest : d.drop (k + 1) = l := by rw [← List.drop_drop, hl]; rfl
    have hb : ∀ j, 0 ≤ nth L j ∧ nth L j ≤ 1000000 := fun j => by have := hL j; omega
    have hM : CM d a L = Fw (J0 d k) L := by rw [← ha]; exact OH hb hkl
    simp only [Xp, hf k a (L, c), List.length_cons, List.range'_succ, C5, hM]
    by_cases h1 : (d.length : Int) < Fw (J0 d k) L
    · rw [decide_eq_true (show Fw (J0 d k) L > (d.length : Int) from h1), cond_true, if_pos h1]
    rw [decide_eq_false (show ¬ Fw (J0 d k) L > (d.length : Int) from h1), cond_false, if_neg h1]
    by_cases h2 : nth L k < Fw (J0 d k) L
    · rw [decide_eq_true (show Fw (J0 d k) L > nth L k from h2), cond_true, if_pos h2]
      refine Nj hf he hd l (k + 1) _ true hrest (by rw [List.length_set]; exact hlen) fun j => ?_
      have h0 := Nf (J0 d k) L
      rw [Ng _ _ (by omega)]
      split
      · omega
      exact hL j
    rw [decide_eq_false (show ¬ Fw (J0 d k) L > nth L k from h2), cond_false, if_neg h2]
    exact Nj hf he hd l (k + 1) L c hrest hlen hL
def Qat : Option (List Int) → Out (List Int × Bool) (List Int)
  | none => .ret ([], false)
  | some L => .brk L
def RI (d : List Yd) (f : IL) (e : Nat → List Int × Bool → List Int × Bool) (F : List Int × Bool → Rd (List Int × Bool) (List Int × Bool) (List Int)) : Prop := ∀ s, F s = bif s.2 then (Out.on (Xp f e d 0 (s.1, false)) fun y1 => .next (y1.1, y1.2)) else .brk s.1
theorem Gm {d : List Yd} {f : IL} {e : Nat → List Int × Bool → List Int × Bool} {F : List Int × Bool → Rd (List Int × Bool) (List Int × Bool) (List Int)} (hf : IM d f) (he : ∀ k s, e k s = s) (hF : RI d f e F) (hd : d.length ≤ 1000000) :
    ∀ (n : Nat) (L : List Int) (c : Bool), L.length = d.length → (∀ j, 0 ≤ nth L j ∧ nth L j ≤ (d.length : Int)) → whl F n (L, c) = (Py (J0 d) d.length d.length n (c, L)).map Qat
  | 0, L, c, _, _ => rfl
  | n + 1, L, false, _, _ => by
    simp only [whl, hF (L, false), cond_false, Py]
    rfl
  | n + 1, L, true, hlen, hL => by
    have hr := Nj hf he hd d 0 L false rfl hlen hL
    have e1 : List.range' 0 d.length = List.range d.length := (List.range_eq_range' ..).symm
    rw [e1] at hr
    simp only [whl, hF (L, true), cond_true, hr, Py]
    cases hc : C5 (J0 d) d.length (List.range d.length) (false, L) with
    | none => rfl
    | some s =>
      obtain ⟨h1, _, _, h4⟩ := Du (List.range d.length) false L s (fun i hi => by rw [hlen]; exact Ap hi) hc
      have := Gm hf he hF hd n s.2 s.1 (by rw [h1, L6, hlen]) fun j => ⟨by rw [h1]; exact Int.le_trans (hL j).1 (Ol (J0 d) j _ L), h4 (fun j => (hL j).2) j⟩
      exact this
theorem Aq (n : Nat) : (List.replicate n (0 : Int)).length = n ∧ ∀ j, 0 ≤ nth (List.replicate n (0 : Int)) j ∧ nth (List.replicate n (0 : Int)) j ≤ (n : Int) :=
  ⟨by simp, fun j => by rw [Sb]; omega⟩
theorem HX {d : List Yd} {f : IL} {e : Nat → List Int × Bool → List Int × Bool} {F : List Int × Bool → Rd (List Int × Bool) (List Int × Bool) (List Int)} (hf : IM d f) (he : ∀ k s, e k s = s) (hF : RI d f e F) (hd : d.length ≤ 1000000) :
    (whl F (List.length d * List.length d + 3) (List.replicate (Int.toNat (d.length : Int)) (0 : Int), true)).isSome = true := by
  rw [Int.toNat_natCast, Gm hf he hF hd _ _ _ (Aq _).1 (Aq _).2, Option.isSome_map]
  refine YI _ _ _ (Aq _).1 (fun j => ((Aq _).2 j).2) ?_
  have : ((List.length d * List.length d + 3 : Nat) : Int) = (d.length : Int) * (d.length : Int) + 3 := by rw [Int.natCast_add, Int.natCast_mul]; rfl
  have h0 : (List.replicate d.length (0 : Int)).sum = 0 := by simp
  rw [this, h0]
  omega
open GoE (enc wide)
def Am (b : (List Int)) (k0 : Nat) (a0 : Int) (_ : Unit) : Rd (Bool) (Unit) (Unit) := (bif (a0 != (nth b k0)) then (.ret false) else (.next ()))
def Df (_ : Nat) (_ : Unit) : Unit := ()
def Z4 (a_ : (List Int)) (b : (List Int)) : Bool := (bif ((a_.length : Int) != (b.length : Int)) then false else (Out.on (Xp (Am b) Df a_ 0 ()) (fun _ => true)))
theorem G9 (a_ : (List Int)) (b : (List Int)) : ACalls Tryz.prog 30 [.h a_, .h b] (.b (Z4 a_ b)) := by
 refine en Qb Tryz.func30 fun w0 F0 hG => ?_
 refine sn Qb [0, 1, 4] [] (p0) ?_
 refine Qe (tn Qb [0, 1, 4, 10] [] (pl 1 a_ (pl 3 b p0)) ?_)
 refine ck ((a_.length : Int) != (b.length : Int)) (fun h1 => ?_) (fun h1 => ?_)
 ·
  refine tu Qb [(4, .b false)] [] [] [] (p0) ?_
  refine Qg ?_
  exact pb [] (Q6 h1 (rfl))
 have h1d := J3 h1
 refine Qh ?_
 refine Qe (tu Qb [(4, .b false), (5, .i 0)] [] [] [] (p0) ?_)
 refine wT 0 0 .sh a_ (fun hw2 hl3 => ?_)
 refine L3 (Am b) Df a_ () (fun k0 _ => [(5, .i ((k0 : Nat) : Int))]) [5] (fun _ => []) [0, 1, 5] (Qd (by kernel_rfl)) (fun k0 s0 hk0 hI0 => ?_) (fun k0 s0 hk0 hI0 => ?_) (fun y0 hD0 => ?_)
 ·
  obtain ⟨a0, hx0⟩ := Xm (l := a_) (i := k0) hk0
  refine Qe (sn Qb [0, 1, 4, 5, 14] [] (pl 2 a_ (pe 3 (Qo (decide_eq_true (p := ((k0 : Nat) : Int) < (a_.length : Int)) (by omega))) p0)) ?_)
  refine ckT ?_
  refine Qh ?_
  refine Qe (Qs ?_)
  refine wT 1 0 .sh b (fun hw5 hl6 => ?_)
  have hx4 := ng b k0
  refine tN Qb Yo [0, 1, 4, 5, 25] [] (pn 2 hx0 (pn 6 hx4 p0)) ?_
  refine ck (a0 != (nth b k0)) (fun h7 => ?_) (fun h7 => ?_)
  ·
   refine tu Qb [] [] [] [] (p0) ?_
   refine Qg ?_
   have hr8 : (Xp (Am b) Df a_ 0 ()) = .ret false := Zx hx0 (Q6 h7 (rfl)) hI0
   exact pb [] (Qm h1 (Iq hr8))
  have h7d := J3 h7
  refine Qh ?_
  refine qu Qb [(5, .i ((k0 + 1 : Nat) : Int))] [5] [] [] (pe 1 (Jn (Qp k0 (by omega))) p0) ?_
  exact Exists.intro _ (And.intro (Qd (by kernel_rfl)) (Qx hx0 (Qm h7 (rfl)) hI0))
 ·
  refine Qe (sn Qb [0, 1, 4, 5, 14] [] (pl 2 a_ (pe 3 (Qo (decide_eq_false (p := ((k0 : Nat) : Int) < (a_.length : Int)) (by omega))) p0)) ?_)
  refine ckF ?_
  refine Q5 ?_
  exact Exists.intro _ (And.intro (Qd (by kernel_rfl)) (Xn hk0 (rfl) hI0))
 refine sn Qb [4] [] (p0) ?_
 refine Qg ?_
 exact pb [] (Qm h1 (Wc hD0 (rfl)))
def En (d : (List Yd)) (_ : Nat) (s0 : (List Int)) : Rd ((List Int) × Bool) ((List Int)) ((List Int)) := (.next (Vs d s0))
def Ia (_ : Nat) (s0 : (List Int)) : (List Int) := s0
def Xx (d : (List Yd)) : (List Int) × Bool := (bif (!(Wp d)) then ([], false) else (Out.on (Wd (En d) Ia (Int.toNat (IntKind.i64.wrap (IntKind.i64.wrap ((d.length : Int) * (d.length : Int)) + 1) + 1)) 0 (List.replicate (Int.toNat (d.length : Int)) (0 : Int))) (fun y0 => (bif (!(Z4 (Vs d y0) y0)) then ([], false) else (y0, true)))))
theorem Ll (d : (List Yd)) : ACalls Tryz.prog 119 [.h d] (.tup [(false, [.o 0 (((Xx d)).1)]), (false, [.b (((Xx d)).2)])]) := by
 refine en Qb Tryz.func119 fun w0 F0 hG => ?_
 refine sn Qb [0, 2, 3] [] (p0) ?_
 refine Qe (tn Qb [0, 2, 3, 8] [] (pc 1 (P1 d) p0) ?_)
 refine ck (!(Wp d)) (fun h1 => ?_) (fun h1 => ?_)
 ·
  refine tu Qb [(2, .one (.slc (.own true 576) 1 [])), (3, .b false)] [] [] [] (p0) ?_
  refine Qg ?_
  exact pz [] (show Xx d = _ from Q6 h1 (rfl)) (fun z => .tup [(false, [.o 0 z.1]), (false, [.b z.2])])
 have h1n : (Wp d) = true := Ze h1
 have h1nv := Qbf h1n
 refine Qh ?_
 refine wT 0 0 .sh d (fun hw2 hl3 => ?_)
 refine tu Qb [(2, .e 0), (3, .b false), (4, .one (.slc (.own true 768) 1 (List.replicate (Int.toNat (d.length : Int)) [.i 0])))] [] [] [] (pl 1 d (px (Fu (lo := 0) (hi := (d.length : Int)) (n := 1073741824) (⟨by omega, by omega, by omega⟩)) p0)) ?_
 refine eqn [(4, .o 768 (List.replicate (Int.toNat (d.length : Int)) (0 : Int)))] [4] [] [] (by rw [show (List.replicate (Int.toNat (d.length : Int)) [.i 0]) = (eL (List.replicate (Int.toNat (d.length : Int)) (0 : Int))) from NV _ (0 : Int)]; first | done | kernel_rfl) ?_
 refine Qe (sn Qb [0, 2, 3, 4, 5] [] (p0) ?_)
 refine mz [(5, .i 0)] [] [] [] ?_
 refine Qb3 (En d) Ia (Int.toNat (IntKind.i64.wrap (IntKind.i64.wrap ((d.length : Int) * (d.length : Int)) + 1) + 1)) (List.replicate (Int.toNat (d.length : Int)) (0 : Int)) (fun k0 s0 => [(4, .o 147203 s0), (5, .i ((k0 : Nat) : Int))]) [4, 5] (fun y0 => [(4, .o 147353 y0)]) [4, 5] (fun _ s0 => List.length s0 = List.length d) (fun y0 => List.length y0 = List.length d) (X2 [(768, 147203)] (by kernel_rfl)) (by simp) (fun k0 s0 hk0 hI0 => ?_) (fun k0 s0 hk0 hI0 => ?_) (fun y0 hD0 => ?_)
 ·
  have hA0_0 := hI0.2
  refine Qe (sn Qb [0, 2, 3, 4, 5, 20] [] (pl 2 d (pl 4 d (pe 7 (Qo (decide_eq_true (p := ((k0 : Nat) : Int) ≤ IntKind.i64.wrap (IntKind.i64.wrap ((d.length : Int) * (d.length : Int)) + 1)) (by omega))) p0))) ?_)
  refine ckT ?_
  refine Qh ?_
  refine Qe (Qs ?_)
  refine qn Qb [0, 2, 3, 4, 5] [] (pc 2 (Mp d s0 (by omega)) p0) ?_
  refine qu Qb [(4, .o 1600 (Vs d s0)), (5, .i ((k0 + 1 : Nat) : Int))] [4, 5] [] [] (pe 1 (Jn (Qp k0 (by omega))) p0) ?_
  exact Exists.intro (Vs d s0) (And.intro (X2 [(1600, 147203)] (by kernel_rfl)) ⟨K0 hk0 (rfl) hI0.1, (by have hz := VW d s0; omega)⟩)
 ·
  have hA0_0 := hI0.2
  refine Qe (sn Qb [0, 2, 3, 4, 5, 20] [] (pl 2 d (pl 4 d (pe 7 (Qo (decide_eq_false (p := ((k0 : Nat) : Int) ≤ IntKind.i64.wrap (IntKind.i64.wrap ((d.length : Int) * (d.length : Int)) + 1)) (by omega))) p0))) ?_)
  refine ckF ?_
  refine Q5 ?_
  exact Exists.intro s0 (And.intro (X2 [(147203, 147353)] (by kernel_rfl)) ⟨Bz hk0 (rfl) hI0.1, by first | omega | (simp only [List.length_set]; omega)⟩)
 have hD0_0 := hD0.2
 refine Qe (sn Qb [2, 3, 4, 31] [] (pc 2 (Mp d y0 (by omega)) (pc 4 (G9 (Vs d y0) y0) p0)) ?_)
 refine ck (!(Z4 (Vs d y0) y0)) (fun h4 => ?_) (fun h4 => ?_)
 ·
  refine tn Qb [2, 3, 4] [] (p0) ?_
  refine Qg ?_
  exact pz [] (show Xx d = _ from Qm h1 (Wc hD0.1 (Q6 h4 (rfl)))) (fun z => .tup [(false, [.o 0 z.1]), (false, [.b z.2])])
 refine Qh ?_
 refine tn Qb [2, 3] [] (p0) ?_
 refine Qg ?_
 exact pz [] (show Xx d = _ from Qm h1 (Wc hD0.1 (Qm h4 (rfl)))) (fun z => .tup [(false, [.o 0 z.1]), (false, [.b z.2])])
def W3 (d : (List Yd)) (k1 : Nat) (a1 : Yd) (s1 : (List Int) × Bool) : Rd (Rd ((List Int) × Bool) ((List Int) × Bool) ((List Int))) ((List Int) × Bool) ((List Int) × Bool) := (bif decide ((max (Xo d s1.1 (X8 a1.2) 0) (Xo d s1.1 (Xr a1.2) 1)) > (d.length : Int)) then (.ret (.ret ([], false))) else (bif decide ((max (Xo d s1.1 (X8 a1.2) 0) (Xo d s1.1 (Xr a1.2) 1)) > (nth s1.1 k1)) then (.next (List.set s1.1 k1 (max (Xo d s1.1 (X8 a1.2) 0) (Xo d s1.1 (Xr a1.2) 1)), true)) else (.next (s1.1, s1.2))))
def W4 (_ : Nat) (s1 : (List Int) × Bool) : (List Int) × Bool := (s1.1, s1.2)
def Vm (d : (List Yd)) (s0 : (List Int) × Bool) : Rd ((List Int) × Bool) ((List Int) × Bool) ((List Int)) := (bif s0.2 then (Out.on (Xp (W3 d) W4 d 0 (s0.1, false)) (fun y1 => (.next (y1.1, y1.2)))) else (.brk s0.1))
def Qu (d : (List Yd)) : (List Int) × Bool := (bif (!(Jp d)) then ([], false) else (Out.on (Fp (Vm d) (List.length d * List.length d + 3) ((List.replicate (Int.toNat (d.length : Int)) (0 : Int)), true)) (fun y0 => (y0, true))))
theorem Dv (d : List Yd) (hd : d.length ≤ 5) : (whl (Vm d) (List.length d * List.length d + 3) (List.replicate (Int.toNat (d.length : Int)) (0 : Int), true)).isSome = true := HX (f := W3 d) (e := W4) (fun _ _ _ => rfl) (fun _ _ => rfl) (fun _ => rfl) (by omega)
theorem Rs (d : (List Yd)) : ACalls Tryz.prog 130 [.h d] (.tup [(false, [.o 0 (((Qu d)).1)]), (false, [.b (((Qu d)).2)])]) := by
 refine en Qb Tryz.func130 fun w0 F0 hG => ?_
 refine sn Qb [0, 2, 3] [] (p0) ?_
 refine Qe (tn Qb [0, 2, 3, 11] [] (pc 1 (P0 d) p0) ?_)
 refine ck (!(Jp d)) (fun h1 => ?_) (fun h1 => ?_)
 ·
  refine tu Qb [(2, .e 0), (3, .b false)] [] [] [] (p0) ?_
  refine opn [(false, 2, 0, true, 384000, 1)] ?_
  refine Qg ?_
  exact pz [] (show Qu d = _ from Q6 h1 (rfl)) (fun z => .tup [(false, [.o 0 z.1]), (false, [.b z.2])])
 have h1n : (Jp d) = true := Ze h1
 refine Qh ?_
 refine wT 0 0 .sh d (fun hw2 hl3 => ?_)
 refine tu Qb [(2, .e 0), (3, .b false), (4, .one (.slc (.own true 896) 1 (List.replicate (Int.toNat (d.length : Int)) [.i 0])))] [] [] [] (pl 1 d (px (Fu (lo := 0) (hi := (d.length : Int)) (n := 1073741824) (⟨by omega, by omega, by omega⟩)) p0)) ?_
 refine eqn [(4, .o 896 (List.replicate (Int.toNat (d.length : Int)) (0 : Int)))] [4] [] [] (by rw [show (List.replicate (Int.toNat (d.length : Int)) [.i 0]) = (eL (List.replicate (Int.toNat (d.length : Int)) (0 : Int))) from NV _ (0 : Int)]; first | done | kernel_rfl) ?_
 refine Qe (sn Qb [0, 2, 3, 4, 5] [] (p0) ?_)
 refine mz [(5, .b true)] [] [] [] ?_
 refine blw (fun (s0 : (List Int) × Bool) => [(4, .o 896 s0.1), (5, .b s0.2)]) [4, 5] (fun s0 => []) [] (fun (y0 : (List Int)) => [(4, .o 896 y0)]) [0, 4, 5] (fun y0 => []) [] (fun (k0 : Nat) (s0 : (List Int) × Bool) => whl (Vm d) k0 s0 = some (Fp (Vm d) (List.length d * List.length d + 3) ((List.replicate (Int.toNat (d.length : Int)) (0 : Int)), true)) ∧ List.length s0.1 = List.length d) (fun (y0 : (List Int)) => (Fp (Vm d) (List.length d * List.length d + 3) ((List.replicate (Int.toNat (d.length : Int)) (0 : Int)), true)) = .brk y0) (List.length d * List.length d + 3) ((List.replicate (Int.toNat (d.length : Int)) (0 : Int)), true) (Qd (by kernel_rfl)) ⟨De (Dv d (Fe (h1n))), (by simp)⟩ (fun _ h => Ej h.1) (fun k0 s0 hI0 => ?_) (fun y0 hD0 => ?_)
 ·
  have hA0_0 := hI0.2
  refine Qe (sn Qb [0, 2, 3, 4, 5, 15] [] (p0) ?_)
  refine ck s0.2 (fun h4 => ?_) (fun h4 => ?_)
  ·
   refine Qh ?_
   refine Qs ?_
   refine tn Qb [0, 2, 3, 4, 5] [] (p0) ?_
   refine tu Qb [(5, .b false), (16, .h d), (17, .i (d.length : Int)), (18, .i 0)] [5] [] [] (pl 1 d p0) ?_
   refine TJ (W3 d) W4 d (s0.1, false) (fun k1 s1 => [(4, .o 896 s1.1), (5, .b s1.2), (18, .i ((k1 : Nat) : Int))]) [4, 5, 18] (fun y1 => [(4, .o 896 y1.1), (5, .b y1.2)]) [4, 5, 16, 17, 18] (fun _ s1 => List.length s1.1 = List.length s0.1) (fun y1 => List.length y1.1 = List.length s0.1) (Qd (by kernel_rfl)) (by simp) (fun k1 s1 hk1 hI1 => ?_) (fun k1 s1 hk1 hI1 => ?_) (fun y1 hD1 => ?_)
   ·
    have hA1_0 := hI1.2
    obtain ⟨a1, hx1⟩ := Xm (l := d) (i := k1) hk1
    refine su Qb [(19, .b true)] [] [] [] (pe 0 (Qo (decide_eq_true (p := ((k1 : Nat) : Int) < (d.length : Int)) (by omega))) p0) ?_
    refine Qe (ckT ?_)
    refine Qh ?_
    refine Qe (Qs ?_)
    refine sn Qb [0, 2, 3, 4, 5, 6, 7, 16, 17, 18] [7] (pn 1 hx1 p0) ?_
    refine tN Qb Yo [0, 2, 3, 4, 5, 6, 8, 16, 17, 18] [] (pc 4 (On a1.2) (pc 5 (Gl d s1.1 (X8 a1.2) 0 (by omega)) (pc 10 (Oo a1.2) (pc 11 (Gl d s1.1 (Xr a1.2) 1 (by omega)) p0)))) ?_
    refine Qe (tu Qb [(6, .i ((k1 : Nat) : Int)), (8, .i (max (Xo d s1.1 (X8 a1.2) 0) (Xo d s1.1 (Xr a1.2) 1))), (39, .b (decide ((max (Xo d s1.1 (X8 a1.2) 0) (Xo d s1.1 (Xr a1.2) 1)) > (d.length : Int))))] [19] [] [] (pl 2 d p0) ?_)
    refine ck (decide ((max (Xo d s1.1 (X8 a1.2) 0) (Xo d s1.1 (Xr a1.2) 1)) > (d.length : Int))) (fun h5 => ?_) (fun h5 => ?_)
    ·
     refine su Qb [] [39] [] [] (p0) ?_
     refine opn [(false, 2, 0, true, 384000, 1)] ?_
     refine Qg ?_
     have hr6 : (Xp (W3 d) W4 d 0 (s0.1, false)) = .ret (.ret ([], false)) := Zx hx1 (Q6 h5 (rfl)) hI1.1
     have hr7 : (Fp (Vm d) (List.length d * List.length d + 3) ((List.replicate (Int.toNat (d.length : Int)) (0 : Int)), true)) = .ret ([], false) := TF (Q6 h4 (Iq hr6)) hI0.1
     exact pz [] (show Qu d = _ from Qm h1 (Iq hr7)) (fun z => .tup [(false, [.o 0 z.1]), (false, [.b z.2])])
    have h5d := of_decide_eq_false h5
    refine Qh ?_
    refine wT 4 0 (.own true 896) s1.1 (fun hw9 hl10 => ?_)
    have hx8 := ng s1.1 k1
    refine sn Qb [0, 2, 3, 4, 5, 6, 8, 16, 17, 18, 45] [] (pN 3 hx8 p0) ?_
    refine ck (decide ((max (Xo d s1.1 (X8 a1.2) 0) (Xo d s1.1 (Xr a1.2) 1)) > (nth s1.1 k1))) (fun h11 => ?_) (fun h11 => ?_)
    ·
     have h11d := of_decide_eq_true h11
     refine tu Qb [(4, .one (.slc (.own true 896) 1 (setRow (eL s1.1) k1 0 [.i (max (Xo d s1.1 (X8 a1.2) 0) (Xo d s1.1 (Xr a1.2) 1))])))] [4, 6, 8, 39] [] [] (pN 3 hx8 p0) ?_
     refine eqn [(4, .o 896 (List.set s1.1 k1 (max (Xo d s1.1 (X8 a1.2) 0) (Xo d s1.1 (Xr a1.2) 1))))] [4] [] [] (by rw [Zw (y := (max (Xo d s1.1 (X8 a1.2) 0) (Xo d s1.1 (Xr a1.2) 1))) hx8 rfl]; first | done | kernel_rfl) ?_
     refine ru Qb [(5, .b true)] [5] [] [] (p0) ?_
     refine rn Qb [0, 2, 3, 4, 5, 16, 17, 18] [] (pe 0 (Jn (Qp k1 (by omega))) p0) ?_
     exact Exists.intro (List.set s1.1 k1 (max (Xo d s1.1 (X8 a1.2) 0) (Xo d s1.1 (Xr a1.2) 1)), true) (And.intro (Qd (by kernel_rfl)) ⟨Qx hx1 (Qm h5 (Q6 h11 (rfl))) hI1.1, (by first | omega | (simp only [List.length_set]; omega))⟩)
    have h11d := of_decide_eq_false h11
    refine Qh ?_
    refine qn Qb [0, 2, 3, 4, 5, 16, 17, 18] [] (pe 0 (Jn (Qp k1 (by omega))) p0) ?_
    exact Exists.intro (s1.1, s1.2) (And.intro (Qd (by kernel_rfl)) ⟨Qx hx1 (Qm h5 (Qm h11 (rfl))) hI1.1, (by first | omega | (simp only [List.length_set]; omega))⟩)
   ·
    have hA1_0 := hI1.2
    refine su Qb [(19, .b false)] [] [] [] (pe 0 (Qo (decide_eq_false (p := ((k1 : Nat) : Int) < (d.length : Int)) (by omega))) p0) ?_
    refine Qe (ckF ?_)
    refine Q5 ?_
    exact Exists.intro (s1.1, s1.2) (And.intro (Qd (by kernel_rfl)) ⟨Xn hk1 (rfl) hI1.1, by first | omega | (simp only [List.length_set]; omega)⟩)
   have hD1_0 := hD1.2
   exact Exists.intro (y1.1, y1.2) (And.intro (Qd (by kernel_rfl)) ⟨wn hI0.1 (Q6 h4 (Wc hD1.1 (rfl))), (by first | omega | (simp only [List.length_set]; omega))⟩)
  refine Q5 ?_
  exact Exists.intro _ (And.intro (Qd (by kernel_rfl)) (wb hI0.1 (Qm h4 (rfl))))
 refine sn Qb [2, 3] [] (p0) ?_
 refine Qg ?_
 exact pz [] (show Qu d = _ from Qm h1 (Wc hD0 (rfl))) (fun z => .tup [(false, [.o 0 z.1]), (false, [.b z.2])])
end Go.Proofs.YtkbfhiamdcoieaaGreatDoor
namespace Go.Proofs.YtkbfhiamdcoieaaGreatDoor
open Go.RowKit
def Low (b : Int) (L : List Int) : Prop := ∀ j, 0 ≤ nth L j ∧ nth L j ≤ b
theorem CN {b w : Int} {i : Nat} {L : List Int} {p : Nat} (hi : i < L.length) (hw : 0 ≤ w ∧ w ≤ 1) (h : Low b L) : Low (b + w) (Pe i L (p, w)) := fun j => by
  rw [Sd _ hi]
  have h1 := h j
  have h2 := h p
  have h3 := h i
  split
  · show 0 ≤ max (nth L i) (nth L p + w) ∧ max (nth L i) (nth L p + w) ≤ b + w; omega
  omega
theorem HY (d : List Yd) (k0 : Nat) : ∀ (l : List ByteArray) (k : Nat) (s : List Int) (b : Int), k0 < s.length → Low b s → Xp (Uk d k0) Hr l k s = .brk (Bb k0 (Km d 0 l) s) ∧ Low b (Bb k0 (Km d 0 l) s)
  | [], k, s, b, _, h => ⟨rfl, h⟩
  | a :: l, k, s, b, hk, h => by
    have hf : Uk d k0 k a s = (bif (decide (0 ≤ Xt d a) && decide (nth s k0 < nth s (Int.toNat (Xt d a)))) then .next (List.set s k0 (nth s (Int.toNat (Xt d a)))) else .next s) := rfl
    simp only [Xp, hf, Km]
    by_cases h0 : 0 ≤ Xt d a
    · rw [if_pos h0, decide_eq_true h0, Bool.true_and]
      have hb : Low b (Pe k0 s (Int.toNat (Xt d a), 0)) := by have := CN (w := 0) (p := Int.toNat (Xt d a)) hk (by omega) h; simpa using this
      have hbk : Bb k0 ((Int.toNat (Xt d a), 0) :: Km d 0 l) s = Bb k0 (Km d 0 l) (Pe k0 s (Int.toNat (Xt d a), 0)) := rfl
      rw [hbk]
      have ih := HY d k0 l (k + 1) (Pe k0 s (Int.toNat (Xt d a), 0)) b (by rw [G8]; exact hk) hb
      by_cases h1 : nth s k0 < nth s (Int.toNat (Xt d a))
      · have e : Pe k0 s (Int.toNat (Xt d a), 0) = List.set s k0 (nth s (Int.toNat (Xt d a))) := by unfold Pe; simp [h1]
        rw [decide_eq_true h1, cond_true]
        rw [e] at ih ⊢; exact ih
      have e : Pe k0 s (Int.toNat (Xt d a), 0) = s := by unfold Pe; simp [h1]
      rw [decide_eq_false h1, cond_false]
      rw [e] at ih ⊢; exact ih
    rw [if_neg h0, decide_eq_false h0, Bool.false_and, cond_false]
    exact HY d k0 l (k + 1) s b hk h
theorem HZ (d : List Yd) (k0 : Nat) : ∀ (l : List ByteArray) (k : Nat) (s : List Int) (b : Int), k0 < s.length → Low b s → b + l.length ≤ 1000000 → Xp (Ul d k0) B5 l k s = .brk (Bb k0 (Km d 1 l) s) ∧ Low (b + l.length) (Bb k0 (Km d 1 l) s)
  | [], k, s, b, _, h, _ => ⟨rfl, by show Low (b + ((0 : Nat) : Int)) s; simpa using h⟩
  | a :: l, k, s, b, hk, h, hb => by
    rw [List.length_cons] at hb ⊢
    have hf : Ul d k0 k a s = (bif (decide (0 ≤ Xt d a) && decide (nth s k0 < IntKind.i64.wrap (nth s (Int.toNat (Xt d a)) + 1))) then .next (List.set s k0 (IntKind.i64.wrap (nth s (Int.toNat (Xt d a)) + 1))) else .next s) := rfl
    simp only [Xp, hf, Km]
    have hl : b + ((l.length + 1 : Nat) : Int) = b + 1 + (l.length : Int) := by omega
    have hw : IntKind.i64.wrap (nth s (Int.toNat (Xt d a)) + 1) = nth s (Int.toNat (Xt d a)) + 1 := IntWalk.i64_in _ (by have := h (Int.toNat (Xt d a)); omega)
    rw [hl] at hb ⊢
    by_cases h0 : 0 ≤ Xt d a
    · rw [if_pos h0, decide_eq_true h0, Bool.true_and, hw]
      have hlow := CN (w := 1) (p := Int.toNat (Xt d a)) hk (by omega) h
      have hbk : Bb k0 ((Int.toNat (Xt d a), 1) :: Km d 1 l) s = Bb k0 (Km d 1 l) (Pe k0 s (Int.toNat (Xt d a), 1)) := rfl
      rw [hbk]
      have ih := HZ d k0 l (k + 1) (Pe k0 s (Int.toNat (Xt d a), 1)) (b + 1) (by rw [G8]; exact hk) hlow hb
      by_cases h1 : nth s k0 < nth s (Int.toNat (Xt d a)) + 1
      · have e : Pe k0 s (Int.toNat (Xt d a), 1) = List.set s k0 (nth s (Int.toNat (Xt d a)) + 1) := by unfold Pe; rw [if_pos h1]
        rw [decide_eq_true h1, cond_true]
        rw [e] at ih ⊢; exact ih
      have e : Pe k0 s (Int.toNat (Xt d a), 1) = s := by unfold Pe; rw [if_neg h1]
      rw [decide_eq_false h1, cond_false]
      rw [e] at ih ⊢; exact ih
    rw [if_neg h0, decide_eq_false h0, Bool.false_and, cond_false]
    exact HZ d k0 l (k + 1) s (b + 1) hk (fun j => by have := h j; omega) hb
theorem Tq (q : List X4) (b : Bool) : ∀ (l : List Bool) (k : Nat) (s : List ByteArray), ∃ t, Xp (K7 q b) Wv l k s = .brk t ∧ t.length ≤ s.length + l.length
  | [], k, s => ⟨s, rfl, by simp⟩
  | a :: l, k, s => by
    simp only [Xp, K7]
    cases (J5 (nth q k) && (a == b)) with
    | true =>
      obtain ⟨t, h1, h2⟩ := Tq q b l (k + 1) (s ++ [(nth q k).2.2.2.1])
      exact ⟨t, h1, by simp at h2 ⊢; omega⟩
    | false =>
      obtain ⟨t, h1, h2⟩ := Tq q b l (k + 1) s
      exact ⟨t, h1, by simp at h2 ⊢; omega⟩
theorem OI (q : List X4) : List.length (Xq q) ≤ 9 := by
  cases hv : Q4 q with
  | true => have := Nb q; have := (Tg hv).2; omega
  | false => unfold Xq; rw [hv]; simp
theorem Qcl (q : List X4) (b : Bool) : List.length (Vl q b) ≤ 9 := by
  unfold Vl
  obtain ⟨t, h1, h2⟩ := Tq q b (Xq q) 0 []
  rw [h1]
  have h3 := OI q
  have h4 := IA (Lf t)
  rw [VK] at h4
  show (Th (Lf t)).length ≤ 9
  simp at h2
  omega
theorem IN (i : Nat) (E1 E2 : Vk) (L : List Int) : Bb i (E1 ++ E2) L = Bb i E2 (Bb i E1 L) := List.foldl_append
theorem TW {d : List Yd} {k : Nat} {a : Yd} {s : List Int} {b : Int} (hk : d[k]? = some a) (hs : s.length = d.length) (h : Low b s) (hb : b + 9 ≤ 1000000) : Wq d k a s = .next (Bb k (J0 d k) s) ∧ Low (b + 9) (Bb k (J0 d k) s) := by
  have hkl : k < d.length := (List.getElem?_eq_some_iff.1 hk).1
  have ha : nth d k = a := Ip hk
  obtain ⟨h1, h2⟩ := HY d k (X8 a.2) 0 s b (by omega) h
  have h9 : (Xr a.2).length ≤ 9 := Qcl a.2 true
  obtain ⟨h3, h4⟩ := HZ d k (Xr a.2) 0 (Bb k (Km d 0 (X8 a.2)) s) b (by rw [Fa]; omega) h2 (by omega)
  have he : J0 d k = Km d 0 (X8 a.2) ++ Km d 1 (Xr a.2) := by unfold J0; rw [if_pos hkl, ha]
  rw [he, IN]
  refine ⟨?_, fun j => by have := h4 j; omega⟩
  unfold Wq
  rw [EA, EB, h1]
  simp only [Out.on]
  rw [h3]
theorem YM {d : List Yd} : ∀ (l : List Yd) (k : Nat) (s : List Int) (b : Int), d.drop k = l → s.length = d.length → Low b s → b + 9 * l.length ≤ 1000000 → Xp (Wq d) B6 l k s = .brk (Ai (J0 d) (List.range' k l.length) s) ∧ Low (b + 9 * l.length) (Ai (J0 d) (List.range' k l.length) s)
  | [], k, s, b, _, _, h, _ => ⟨rfl, by show Low (b + 9 * ((0 : Nat) : Int)) s; simpa using h⟩
  | a :: l, k, s, b, hl, hs, h, hb => by
    have hk : d[k]? = some a := by
      have := congrArg (·[0]?) hl
      simpa using this
    have hrest : d.drop (k + 1) = l := by rw [← List.drop_drop, hl]; rfl
    rw [List.length_cons] at hb ⊢
    obtain ⟨h1, h2⟩ := TW hk hs h (by omega)
    have e : b + 9 * ((l.length + 1 : Nat) : Int) = b + 9 + 9 * (l.length : Int) := by omega
    rw [e] at hb ⊢
    obtain ⟨h3, h4⟩ := YM l (k + 1) (Bb k (J0 d k) s) (b + 9) hrest (by rw [Fa]; exact hs) h2 hb
    simp only [Xp, h1, List.range'_succ]
    exact ⟨h3, h4⟩
theorem YN {d : List Yd} {s : List Int} {b : Int} (hs : s.length = d.length) (h : Low b s) (hb : b + 9 * d.length ≤ 1000000) : Vs d s = Ai (J0 d) (List.range d.length) s ∧ Low (b + 9 * d.length) (Ai (J0 d) (List.range d.length) s) := by
  obtain ⟨h1, h2⟩ := YM d 0 s b rfl hs h hb
  have e1 : List.range' 0 d.length = List.range d.length := (List.range_eq_range' ..).symm
  rw [e1] at h1 h2
  refine ⟨?_, h2⟩
  unfold Vs
  rw [h1]
  rfl
theorem Tr {d : List Yd} (hd : d.length ≤ 5) : ∀ (n k m : Nat), m + n ≤ 1000 → Low (45 * m) (Hp (J0 d) d.length m) → Wd (En d) Ia n k (Hp (J0 d) d.length m) = .brk (Hp (J0 d) d.length (m + n)) ∧ Low (45 * (m + n)) (Hp (J0 d) d.length (m + n))
  | 0, k, m, _, h => ⟨rfl, by simpa using h⟩
  | n + 1, k, m, hm, h => by
    obtain ⟨h1, h2⟩ := YN (L9 (J0 d) d.length m) h (by omega)
    have e : Hp (J0 d) d.length (m + 1) = Ai (J0 d) (List.range d.length) (Hp (J0 d) d.length m) := rfl
    simp only [Wd, En, h1]
    rw [← e] at h2 ⊢
    have := Tr hd n (k + 1) (m + 1) (by omega) (fun j => by have := h2 j; omega)
    rw [show m + (n + 1) = m + 1 + n by omega]
    refine ⟨this.1, fun j => by have := this.2 j; omega⟩
theorem IP (b : List Int) : ∀ (l : List Int) (k : Nat), l.length = (b.drop k).length → Out.on (Xp (Am b) Df l k ()) (fun _ => true) = decide (l = b.drop k)
  | [], k, h => by
    have : b.drop k = [] := List.eq_nil_of_length_eq_zero (by rw [← h]; rfl)
    rw [this]; rfl
  | a :: l, k, h => by
    have hk : k < b.length := by simp only [List.length_cons, List.length_drop] at h; omega
    have hd : b.drop k = nth b k :: b.drop (k + 1) := by
      rw [List.drop_eq_getElem_cons hk, show nth b k = b[k] by simp [nth, List.getD, hk]]
    rw [hd] at h ⊢
    simp only [Xp, Am]
    by_cases e : a = nth b k
    · rw [show (a != nth b k) = false by simp [e], cond_false, IP b l (k + 1) (by simpa using h)]
      simp [e]
    rw [show (a != nth b k) = true by simp [e], cond_true]
    simp [e, Out.on]
theorem IQ (a b : List Int) (h : a.length = b.length) : Z4 a b = decide (a = b) := by
  unfold Z4
  rw [show ((a.length : Int) != (b.length : Int)) = false by simp [h], cond_false, IP b a 0 (by simpa using h), List.drop_zero]
theorem Hs (d : List Yd) : Xx d = Qu d := by
  unfold Xx Qu
  rw [← ZY]
  cases hv : Jp d with
  | false => rfl
  | true =>
    have h5 := Fe hv
    obtain ⟨hn, _⟩ := Qbf ((ZY d).symm.trans hv)
    simp only [Bool.not_true, cond_false]
    have hz : Hp (J0 d) d.length 0 = List.replicate (Int.toNat (d.length : Int)) (0 : Int) := by rw [Int.toNat_natCast]; rfl
    have hnn : d.length * d.length ≤ 25 := Nat.le_trans (Nat.mul_le_mul h5 h5) (by decide)
    obtain ⟨h1, h2⟩ := Tr (d := d) h5 (d.length * d.length + 2) 0 0 (by omega) (fun j => by rw [hz, Int.toNat_natCast, Sb]; omega)
    rw [hz, Nat.zero_add] at h1
    rw [Nat.zero_add] at h2
    rw [hn, show Int.toNat (((d.length * d.length + 1 : Nat) : Int) + 1) = d.length * d.length + 2 by omega, h1]
    simp only [Out.on]
    have hlen := L9 (J0 d) d.length (d.length * d.length + 2)
    obtain ⟨h3, _⟩ := YN (d := d) hlen h2 (by omega)
    rw [h3, IQ _ _ (by rw [Nh])]
    have hw := Gm (d := d) (f := W3 d) (e := W4) (F := Vm d) (fun _ _ _ => rfl) (fun _ _ => rfl) (fun _ => rfl) (by omega) (d.length * d.length + 3) (List.replicate d.length 0) true (Aq _).1 (Aq _).2
    have hsome : (Py (J0 d) d.length d.length (d.length * d.length + 3) (true, List.replicate d.length 0)).isSome = true := by
      have := Dv d h5
      rw [Int.toNat_natCast, hw, Option.isSome_map] at this
      exact this
    obtain ⟨r, hr⟩ := Option.isSome_iff_exists.1 hsome
    unfold Fp
    rw [Int.toNat_natCast, hw, hr]
    obtain ⟨h6, h7⟩ := IH (E := J0 d) (n := d.length) (fun i e he => Lk d i e he) hr
    by_cases hfix : Ai (J0 d) (List.range d.length) (Hp (J0 d) d.length (d.length * d.length + 2)) = Hp (J0 d) d.length (d.length * d.length + 2)
    · rw [h6 hfix, decide_eq_true hfix]
      rfl
    rw [h7 hfix, decide_eq_false hfix]
    rfl
end Go.Proofs.YtkbfhiamdcoieaaGreatDoor
