/- Texts of this proof, put together by a program: Cka, Ckb, Nga, Ngb, Zd, Sh, Ts, Dpa, Dpb, Dpc, Dpd, Sta, Stb, Stc, Stg, Sth, Std, Ste. -/
import Derived.Test.YtockoklfegpgeaaGreatP3
import Derived.Test.YtockoklfegpgeaaGreatProg
import Derived.KernelRfl
import Derived.Sort.EncStr
import Derived.Sort.Grow
import Derived.Lib.SlicesCompact
import Derived.Sort.Walk0
import Derived.Shelf.Small.Bits
import Derived.Shelf.Strconv.Itoa0
import Derived.Shelf.Sort.Plain
import Derived.Shelf.Slices.Turned
import Derived.Shelf.Slices.Equal
import Derived.Ground.Names2Prog
import Derived.Shelf.Slices.Clone
import Derived.Shelf.Slices.CompactI
import Derived.Shelf.Slices.CompactS
import Derived.Shelf.Slices.SearchI
import Derived.Shelf.Slices.Cells
import Derived.Shelf.Slices.In.SortNone
import Derived.Ground.SlgnProg
import Derived.Shelf.SlicesE.Equal
import Derived.Shelf.SlicesE.Compact
import Derived.Shelf.SlicesE.Clone
import Derived.Ground.SlgfProg
import Derived.Shelf.SlicesE.IndexFunc
import Derived.Shelf.SlicesE.DeleteFunc
set_option linter.unusedVariables false
set_option linter.unusedSimpArgs false
namespace Go.Proofs.YtockoklfegpgeaaGreat
open Go.RowKit
open GoE (enc wide)
def tt : List (Nat × TI) := [(3, ⟨.int .i64, 1, [.i 0], []⟩),
 (4, ⟨.bool, 1, [.b false], []⟩),
 (5, ⟨.int .u8, 1, [.int .u8 0], []⟩),
 (9, ⟨.str, 1, [.s ⟨#[]⟩], []⟩),
 (22, ⟨.sli 5, 1, [.e 1], []⟩),
 (24, ⟨.sli 3, 1, [.e 1], []⟩),
 (25, ⟨.sli 61, 1, [.e 3], []⟩),
 (27, ⟨.struct [(0, 1, false), (1, 1, false), (2, 1, false), (3, 1, false)], 4, [.i 0, .s ⟨#[]⟩, .e 1, .e 3], []⟩),
 (28, ⟨.sli 134, 1, [.e 2], []⟩),
 (29, ⟨.sli 107, 1, [.e 5], []⟩),
 (31, ⟨.struct [(0, 1, false), (1, 1, false), (2, 1, false)], 3, [.e 2, .e 5, .i 0], []⟩),
 (32, ⟨.sli 87, 1, [.e 2], []⟩),
 (61, ⟨.struct [(0, 1, false), (1, 1, false), (2, 1, false)], 3, [.i 0, .e 1, .e 1], []⟩),
 (71, ⟨.struct [(0, 1, false), (1, 1, false), (2, 1, false)], 3, [.s ⟨#[]⟩, .e 1, .e 1], []⟩),
 (77, ⟨.sli 100, 1, [.e 2], []⟩),
 (82, ⟨.struct [(0, 1, false), (1, 1, false), (2, 1, false)], 3, [.e 1, .i 0, .i 0], []⟩),
 (85, ⟨.sli 115, 1, [.e 7], []⟩),
 (87, ⟨.struct [(0, 1, false), (1, 1, false)], 2, [.s ⟨#[]⟩, .e 7], []⟩),
 (100, ⟨.struct [(0, 1, false), (1, 1, false)], 2, [.s ⟨#[]⟩, .e 1], []⟩),
 (105, ⟨.sli 143, 1, [.e 4], []⟩),
 (107, ⟨.struct [(0, 1, false), (1, 1, false), (2, 1, false), (3, 1, false), (4, 1, false)], 5, [.i 0, .i 0, .b false, .i 0, .e 4], []⟩),
 (113, ⟨.struct [(0, 1, false), (1, 1, false), (2, 1, false)], 3, [.i 0, .i 0, .s ⟨#[]⟩], [.int, .int, .str]⟩),
 (115, ⟨.struct [(0, 1, false), (1, 1, false), (2, 1, false), (3, 1, false), (4, 3, true)], 7, [.i 0, .i 0, .i 0, .s ⟨#[]⟩, .i 0, .i 0, .s ⟨#[]⟩], [.int, .int, .int, .str, .int, .int, .str]⟩),
 (119, ⟨.sli 9, 1, [.e 1], []⟩),
 (134, ⟨.struct [(0, 1, false), (1, 1, false)], 2, [.s ⟨#[]⟩, .i 0], []⟩),
 (143, ⟨.struct [(0, 1, false), (1, 3, true)], 4, [.s ⟨#[]⟩, .i 0, .i 0, .s ⟨#[]⟩], []⟩),
 (195, ⟨.sli 4, 1, [.e 1], []⟩)]
theorem Qb : Fm Tryz.prog tt = true := by kernel_rfl
theorem Yn : Tryz.prog.follows .mixedOrders = true := by kernel_rfl
def Yx (n : Int) (low : Int) (high_ : Int) : Bool := (decide (low ≤ n) && decide (n ≤ high_))
theorem Jv (n : Int) (low : Int) (high_ : Int) : ACalls Tryz.prog 66 [.i n, .i low, .i high_] (.b (Yx n low high_)) := by
 refine en Qb Tryz.func66 fun w0 F0 hG => ?_
 refine sn Qb [0, 1, 2, 6] [] (p0) ?_
 refine Qe ?_
 refine mz [(6, .b false)] [] [] [] ?_
 refine jn [(6, .b (decide (low ≤ n) && decide (n ≤ high_)))] [0, 1, 2, 6] [] [] (decide (low ≤ n)) (fun h1 => ?_) (fun h1 => ?_) ?_
 ·
  refine rn Qb [6] [] (pt 2 h1 p0) ?_
  exact ⟨rfl, Qd (by rw [h1]; first | done | kernel_rfl)⟩
 ·
  refine rn Qb [6] [] (pf 2 h1 p0) ?_
  exact ⟨rfl, Qd (by rw [h1]; first | done | kernel_rfl)⟩
 refine Qf ?_
 exact pb [] (show Yx n low high_ = (decide (low ≤ n) && decide (n ≤ high_)) from rfl)
def Aq (s_ : ByteArray) (k0 : Nat) (_ : Unit) : Rd (Bool) (Unit) (Unit) := (bif (decide (Ac s_ ((k0 : Nat) : Int) < (97 : Int)) || decide (Ac s_ ((k0 : Nat) : Int) > (122 : Int))) then (.ret false) else (.next ()))
def Ar (_ : Nat) (_ : Unit) : Unit := ()
def Y6 (s_ : ByteArray) : Bool := (Out.on (Vz (Aq s_) Ar (Int.toNat (ByteArray.size s_ : Int)) 0 ()) (fun _ => (Yx (ByteArray.size s_ : Int) 1 6)))
theorem J4 (s_ : ByteArray) : ACalls Tryz.prog 174 [.s s_] (.b (Y6 s_)) := by
 refine en Qb Tryz.func174 fun w0 F0 hG => ?_
 refine sn Qb [0, 2] [] (p0) ?_
 refine Qe ?_
 refine tn Qb [0, 2, 5, 6] [] (p0) ?_
 refine mz [(2, .b false), (5, .i (ByteArray.size s_ : Int)), (6, .i 0)] [] [] [] ?_
 refine stT 0 0 s_ (fun hs1 => ?_)
 refine Qal (Aq s_) Ar (Int.toNat (ByteArray.size s_ : Int)) () (fun k0 _ => [(6, .i ((k0 : Nat) : Int))]) [6] (fun _ => []) [5, 6] (Qd (by kernel_rfl)) (fun k0 s0 hk0 hI0 => ?_) (fun k0 s0 hk0 hI0 => ?_) (fun y0 hD0 => ?_)
 ·
  refine sn Qb [0, 2, 5, 6, 7] [] (pe 0 (Qs (decide_eq_true (p := ((k0 : Nat) : Int) < (ByteArray.size s_ : Int)) (by omega))) p0) ?_
  refine Qe ?_
  refine ckT ?_
  refine Qj ?_
  refine Qe ?_
  refine Qt ?_
  refine tn Qb [0, 2, 3, 5, 6] [] (p0) ?_
  refine Qe ?_
  refine mz [(3, .i ((k0 : Nat) : Int))] [] [] [] ?_
  refine jn [(18, .b (decide (Ac s_ ((k0 : Nat) : Int) < (97 : Int)) || decide (Ac s_ ((k0 : Nat) : Int) > (122 : Int))))] [3] [] [] (decide (Ac s_ ((k0 : Nat) : Int) < (97 : Int))) (fun h2 => ?_) (fun h2 => ?_) ?_
  ·
   have h2d := of_decide_eq_true h2
   refine rn Qb [0, 2, 5, 6, 18] [] (px (Oc (i := ((k0 : Nat) : Int)) (n := (ByteArray.size s_)) (by omega)) (pt 3 h2 p0)) ?_
   exact ⟨rfl, Qd (by rw [h2]; first | done | kernel_rfl)⟩
  ·
   have h2d := of_decide_eq_false h2
   refine rn Qb [0, 2, 5, 6, 18] [] (px (Oc (i := ((k0 : Nat) : Int)) (n := (ByteArray.size s_)) (by omega)) (pf 3 h2 (px (Oc (i := ((k0 : Nat) : Int)) (n := (ByteArray.size s_)) (by omega)) p0))) ?_
   exact ⟨rfl, Qd (by rw [h2]; first | done | kernel_rfl)⟩
  refine ck (decide (Ac s_ ((k0 : Nat) : Int) < (97 : Int)) || decide (Ac s_ ((k0 : Nat) : Int) > (122 : Int))) (fun h3 => ?_) (fun h3 => ?_)
  ·
   refine su Qb [] [18] [] [] (p0) ?_
   refine Qf ?_
   have hr4 : (Vz (Aq s_) Ar (Int.toNat (ByteArray.size s_ : Int)) 0 ()) = .ret false := Sa hk0 (Q8 h3 (rfl)) hI0
   exact pb [] (Gu hr4)
  ·
   have h3l : (decide (Ac s_ ((k0 : Nat) : Int) < (97 : Int))) = false := Pq h3
   have h3ld := of_decide_eq_false h3l
   have h3r : (decide (Ac s_ ((k0 : Nat) : Int) > (122 : Int))) = false := I0 h3
   have h3rd := of_decide_eq_false h3r
   refine Qj ?_
   refine rn Qb [0, 2, 5, 6] [] (pe 0 (Jb (Qv k0 (by omega))) p0) ?_
   exact Exists.intro _ (And.intro (Qd (by kernel_rfl)) (K3 hk0 (Qn h3 (rfl)) hI0))
 ·
  refine sn Qb [0, 2, 5, 6, 7] [] (pe 0 (Qs (decide_eq_false (p := ((k0 : Nat) : Int) < (ByteArray.size s_ : Int)) (by omega))) p0) ?_
  refine Qe ?_
  refine ckF ?_
  refine Q3 ?_
  exact Exists.intro _ (And.intro (Qd (by kernel_rfl)) (A5 hk0 (rfl) hI0))
 ·
  refine sn Qb [2] [] (pc 2 (Jv (ByteArray.size s_ : Int) 1 6) p0) ?_
  refine Qf ?_
  exact pb [] (Wf hD0 (rfl))
def Ks (v : Wg) : Bool := (bif (v.1 == (0 : Int)) then ((v.1 == 0) && ((v.2.1 == 0) && ((v.2.2.toList == (⟨#[]⟩ : ByteArray).toList) && true))) else (bif (v.1 == (1 : Int)) then ((Yx v.2.1 0 999) && (v.2.2.toList == (⟨#[]⟩ : ByteArray).toList)) else (bif (v.1 == (2 : Int)) then ((Y6 v.2.2) && (v.2.1 == (0 : Int))) else false)))
theorem K7 (v : Wg) : ACalls Tryz.prog 160 [.a [.i v.1, .i v.2.1, .s v.2.2]] (.b (Ks v)) := by
 refine en Qb Tryz.func160 fun w0 F0 hG => ?_
 refine sn Qb [1, 2] [1] (p0) ?_
 refine Qe ?_
 refine tn Qb [1, 2, 4] [1] (p0) ?_
 refine Qt ?_
 refine tu Qb [(1, .p 1 0), (2, .b false), (4, .i v.1), (5, .b (v.1 == (0 : Int)))] [0] [(1, [.i v.1, .i v.2.1, .s v.2.2])] [] (p0) ?_
 refine ck (v.1 == (0 : Int)) (fun h1 => ?_) (fun h1 => ?_)
 ·
  refine sn Qb [2] [] (p0) ?_
  refine Qf ?_
  exact pb [] (Q8 h1 (rfl))
 ·
  refine sn Qb [1, 2, 4, 10] [1] (p0) ?_
  refine ck (v.1 == (1 : Int)) (fun h2 => ?_) (fun h2 => ?_)
  ·
   refine Qe ?_
   refine mz [(10, .b (v.1 == (1 : Int)))] [5] [] [] ?_
   refine jn [(2, .b ((Yx v.2.1 0 999) && (v.2.2.toList == (⟨#[]⟩ : ByteArray).toList)))] [1, 2, 4, 10] [] [1] (Yx v.2.1 0 999) (fun h3 => ?_) (fun h3 => ?_) ?_
   ·
    refine rn Qb [2] [] (pc 2 (cb h3 (Jv v.2.1 0 999)) p0) ?_
    exact ⟨rfl, Qd (by rw [h3]; first | done | kernel_rfl)⟩
   ·
    refine rn Qb [2] [] (pc 2 (cb h3 (Jv v.2.1 0 999)) p0) ?_
    exact ⟨rfl, Qd (by rw [h3]; first | done | kernel_rfl)⟩
   refine Qf ?_
   exact pb [] (Qn h1 (Q8 h2 (rfl)))
  ·
   refine tn Qb [1, 2, 20] [1] (p0) ?_
   refine ck (v.1 == (2 : Int)) (fun h4 => ?_) (fun h4 => ?_)
   ·
    refine Qe ?_
    refine mz [(20, .b (v.1 == (2 : Int)))] [4, 5] [] [] ?_
    refine jn [(2, .b ((Y6 v.2.2) && (v.2.1 == (0 : Int))))] [1, 2, 20] [] [1] (Y6 v.2.2) (fun h5 => ?_) (fun h5 => ?_) ?_
    ·
     refine rn Qb [2] [] (pc 2 (cb h5 (J4 v.2.2)) p0) ?_
     exact ⟨rfl, Qd (by rw [h5]; first | done | kernel_rfl)⟩
    ·
     refine rn Qb [2] [] (pc 2 (cb h5 (J4 v.2.2)) p0) ?_
     exact ⟨rfl, Qd (by rw [h5]; first | done | kernel_rfl)⟩
    refine Qf ?_
    exact pb [] (Qn h1 (Qn h2 (Q8 h4 (rfl))))
   ·
    refine Qj ?_
    refine tu Qb [] [1, 4, 5] [] [1] (p0) ?_
    refine Qf ?_
    exact pb [] (Qn h1 (Qn h2 (Qn h4 (rfl))))
def Q6 (x : Int) (least : Int) (most : Int) : Bool := (decide (x ≥ least) && decide (x ≤ most))
theorem Zb (x : Int) (least : Int) (most : Int) : ACalls Tryz.prog 48 [.i x, .i least, .i most] (.b (Q6 x least most)) := by
 refine en Qb Tryz.func48 fun w0 F0 hG => ?_
 refine sn Qb [0, 1, 2, 6] [] (p0) ?_
 refine Qe ?_
 refine mz [(6, .b false)] [] [] [] ?_
 refine jn [(6, .b (decide (x ≥ least) && decide (x ≤ most)))] [0, 1, 2, 6] [] [] (decide (x ≥ least)) (fun h1 => ?_) (fun h1 => ?_) ?_
 ·
  refine rn Qb [6] [] (pt 2 h1 p0) ?_
  exact ⟨rfl, Qd (by rw [h1]; first | done | kernel_rfl)⟩
 ·
  refine rn Qb [6] [] (pf 2 h1 p0) ?_
  exact ⟨rfl, Qd (by rw [h1]; first | done | kernel_rfl)⟩
 refine Qf ?_
 exact pb [] (show Q6 x least most = (decide (x ≥ least) && decide (x ≤ most)) from rfl)
def Uw (s_ : ByteArray) (k0 : Nat) (_ : Unit) : Rd (Bool) (Unit) (Unit) := (bif (decide (Ac s_ ((k0 : Nat) : Int) < (97 : Int)) || decide (Ac s_ ((k0 : Nat) : Int) > (122 : Int))) then (.ret false) else (.next ()))
def Hh (_ : Nat) (_ : Unit) : Unit := ()
def Dd (s_ : ByteArray) (most : Int) : Bool := (Out.on (Vz (Uw s_) Hh (Int.toNat (ByteArray.size s_ : Int)) 0 ()) (fun _ => (Q6 (ByteArray.size s_ : Int) 1 most)))
theorem Om (s_ : ByteArray) (most : Int) : ACalls Tryz.prog 153 [.s s_, .i most] (.b (Dd s_ most)) := by
 refine en Qb Tryz.func153 fun w0 F0 hG => ?_
 refine sn Qb [0, 1, 4] [] (p0) ?_
 refine Qe ?_
 refine tn Qb [0, 1, 4, 5] [] (p0) ?_
 refine mz [(4, .b false), (5, .i 0)] [] [] [] ?_
 refine stT 0 0 s_ (fun hs1 => ?_)
 refine Qal (Uw s_) Hh (Int.toNat (ByteArray.size s_ : Int)) () (fun k0 _ => [(5, .i ((k0 : Nat) : Int))]) [5] (fun _ => []) [5] (Qd (by kernel_rfl)) (fun k0 s0 hk0 hI0 => ?_) (fun k0 s0 hk0 hI0 => ?_) (fun y0 hD0 => ?_)
 ·
  refine Qe ?_
  refine sn Qb [0, 1, 4, 5, 9] [] (pe 3 (Qs (decide_eq_true (p := ((k0 : Nat) : Int) < (ByteArray.size s_ : Int)) (by omega))) p0) ?_
  refine ckT ?_
  refine Qj ?_
  refine Qe ?_
  refine Qt ?_
  refine Qe ?_
  refine mz [(9, .b true)] [] [] [] ?_
  refine jn [(21, .b (decide (Ac s_ ((k0 : Nat) : Int) < (97 : Int)) || decide (Ac s_ ((k0 : Nat) : Int) > (122 : Int))))] [9] [] [] (decide (Ac s_ ((k0 : Nat) : Int) < (97 : Int))) (fun h2 => ?_) (fun h2 => ?_) ?_
  ·
   have h2d := of_decide_eq_true h2
   refine rn Qb [0, 1, 4, 5, 21] [] (px (Oc (i := ((k0 : Nat) : Int)) (n := (ByteArray.size s_)) (by omega)) (pt 3 h2 p0)) ?_
   exact ⟨rfl, Qd (by rw [h2]; first | done | kernel_rfl)⟩
  ·
   have h2d := of_decide_eq_false h2
   refine rn Qb [0, 1, 4, 5, 21] [] (px (Oc (i := ((k0 : Nat) : Int)) (n := (ByteArray.size s_)) (by omega)) (pf 3 h2 (px (Oc (i := ((k0 : Nat) : Int)) (n := (ByteArray.size s_)) (by omega)) p0))) ?_
   exact ⟨rfl, Qd (by rw [h2]; first | done | kernel_rfl)⟩
  refine ck (decide (Ac s_ ((k0 : Nat) : Int) < (97 : Int)) || decide (Ac s_ ((k0 : Nat) : Int) > (122 : Int))) (fun h3 => ?_) (fun h3 => ?_)
  ·
   refine su Qb [] [21] [] [] (p0) ?_
   refine Qf ?_
   have hr4 : (Vz (Uw s_) Hh (Int.toNat (ByteArray.size s_ : Int)) 0 ()) = .ret false := Sa hk0 (Q8 h3 (rfl)) hI0
   exact pb [] (Gu hr4)
  ·
   have h3l : (decide (Ac s_ ((k0 : Nat) : Int) < (97 : Int))) = false := Pq h3
   have h3ld := of_decide_eq_false h3l
   have h3r : (decide (Ac s_ ((k0 : Nat) : Int) > (122 : Int))) = false := I0 h3
   have h3rd := of_decide_eq_false h3r
   refine Qj ?_
   refine rn Qb [0, 1, 4, 5] [] (pe 1 (Jb (Qv k0 (by omega))) p0) ?_
   exact Exists.intro _ (And.intro (Qd (by kernel_rfl)) (K3 hk0 (Qn h3 (rfl)) hI0))
 ·
  refine Qe ?_
  refine sn Qb [0, 1, 4, 5, 9] [] (pe 3 (Qs (decide_eq_false (p := ((k0 : Nat) : Int) < (ByteArray.size s_ : Int)) (by omega))) p0) ?_
  refine ckF ?_
  refine Q3 ?_
  exact Exists.intro _ (And.intro (Qd (by kernel_rfl)) (A5 hk0 (rfl) hI0))
 ·
  refine sn Qb [4] [] (pc 3 (Zb (ByteArray.size s_ : Int) 1 most) p0) ?_
  refine Qf ?_
  exact pb [] (Wf hD0 (rfl))
def Yh (s_ : ByteArray) : Bool := (Dd s_ 6)
theorem Z5 (s_ : ByteArray) : ACalls Tryz.prog 155 [.s s_] (.b (Yh s_)) := by
 refine en Qb Tryz.func155 fun w0 F0 hG => ?_
 refine sn Qb [0, 2] [] (p0) ?_
 refine tn Qb [2] [] (pc 1 (Om s_ 6) p0) ?_
 refine Qf ?_
 exact pb [] (show Yh s_ = (Dd s_ 6) from rfl)
def Jc (v : Wg) : Bool := (bif (v.1 == (0 : Int)) then ((v.1 == 0) && ((v.2.1 == 0) && ((v.2.2.toList == (⟨#[]⟩ : ByteArray).toList) && true))) else (bif (v.1 == (1 : Int)) then ((Q6 v.2.1 0 999) && (v.2.2.toList == (⟨#[]⟩ : ByteArray).toList)) else (bif (v.1 == (2 : Int)) then ((Yh v.2.2) && (v.2.1 == (0 : Int))) else false)))
theorem Z2 (v : Wg) : ACalls Tryz.prog 151 [.a [.i v.1, .i v.2.1, .s v.2.2]] (.b (Jc v)) := by
 refine en Qb Tryz.func151 fun w0 F0 hG => ?_
 refine sn Qb [1, 2] [1] (p0) ?_
 refine Qe ?_
 refine tn Qb [1, 2, 4] [1] (p0) ?_
 refine Qt ?_
 refine tu Qb [(1, .p 1 0), (2, .b false), (4, .i v.1), (5, .b (v.1 == (0 : Int)))] [0] [(1, [.i v.1, .i v.2.1, .s v.2.2])] [] (p0) ?_
 refine ck (v.1 == (0 : Int)) (fun h1 => ?_) (fun h1 => ?_)
 ·
  refine sn Qb [2] [] (p0) ?_
  refine Qf ?_
  exact pb [] (Q8 h1 (rfl))
 ·
  refine sn Qb [1, 2, 4, 10] [1] (p0) ?_
  refine ck (v.1 == (1 : Int)) (fun h2 => ?_) (fun h2 => ?_)
  ·
   refine Qe ?_
   refine mz [(10, .b (v.1 == (1 : Int)))] [5] [] [] ?_
   refine jn [(2, .b ((Q6 v.2.1 0 999) && (v.2.2.toList == (⟨#[]⟩ : ByteArray).toList)))] [1, 2, 4, 10] [] [1] (Q6 v.2.1 0 999) (fun h3 => ?_) (fun h3 => ?_) ?_
   ·
    refine rn Qb [2] [] (pc 2 (cb h3 (Zb v.2.1 0 999)) p0) ?_
    exact ⟨rfl, Qd (by rw [h3]; first | done | kernel_rfl)⟩
   ·
    refine rn Qb [2] [] (pc 2 (cb h3 (Zb v.2.1 0 999)) p0) ?_
    exact ⟨rfl, Qd (by rw [h3]; first | done | kernel_rfl)⟩
   refine Qf ?_
   exact pb [] (Qn h1 (Q8 h2 (rfl)))
  ·
   refine tn Qb [1, 2, 20] [1] (p0) ?_
   refine ck (v.1 == (2 : Int)) (fun h4 => ?_) (fun h4 => ?_)
   ·
    refine Qe ?_
    refine mz [(20, .b (v.1 == (2 : Int)))] [4, 5] [] [] ?_
    refine jn [(2, .b ((Yh v.2.2) && (v.2.1 == (0 : Int))))] [1, 2, 20] [] [1] (Yh v.2.2) (fun h5 => ?_) (fun h5 => ?_) ?_
    ·
     refine rn Qb [2] [] (pc 2 (cb h5 (Z5 v.2.2)) p0) ?_
     exact ⟨rfl, Qd (by rw [h5]; first | done | kernel_rfl)⟩
    ·
     refine rn Qb [2] [] (pc 2 (cb h5 (Z5 v.2.2)) p0) ?_
     exact ⟨rfl, Qd (by rw [h5]; first | done | kernel_rfl)⟩
    refine Qf ?_
    exact pb [] (Qn h1 (Qn h2 (Q8 h4 (rfl))))
   ·
    refine Qj ?_
    refine tu Qb [] [1, 4, 5] [] [1] (p0) ?_
    refine Qf ?_
    exact pb [] (Qn h1 (Qn h2 (Qn h4 (rfl))))
def Xr (s_ : ByteArray) : Bool := (Dd s_ 1)
theorem X1 (s_ : ByteArray) : ACalls Tryz.prog 127 [.s s_] (.b (Xr s_)) := by
 refine en Qb Tryz.func127 fun w0 F0 hG => ?_
 refine sn Qb [0, 2] [] (p0) ?_
 refine tn Qb [2] [] (pc 1 (Om s_ 1) p0) ?_
 refine Qf ?_
 exact pb [] (show Xr s_ = (Dd s_ 1) from rfl)
def Yq (s_ : ByteArray) : Bool := (((ByteArray.size s_ : Int) == (1 : Int)) && (decide (Ac s_ 0 ≥ (97 : Int)) && decide (Ac s_ 0 ≤ (122 : Int))))
theorem Y0 (s_ : ByteArray) : ACalls Tryz.prog 136 [.s s_] (.b (Yq s_)) := by
 refine en Qb Tryz.func136 fun w0 F0 hG => ?_
 refine sn Qb [0, 2] [] (p0) ?_
 refine Qe ?_
 refine mz [(2, .b false)] [] [] [] ?_
 refine jn [(2, .b (((ByteArray.size s_ : Int) == (1 : Int)) && (decide (Ac s_ 0 ≥ (97 : Int)) && decide (Ac s_ 0 ≤ (122 : Int)))))] [0, 2] [] [] ((ByteArray.size s_ : Int) == (1 : Int)) (fun h1 => ?_) (fun h1 => ?_) ?_
 ·
  have h1d := eq_of_beq h1
  refine Xb (decide (Ac s_ 0 ≥ (97 : Int))) (fun h2 => ?_) (fun h2 => ?_)
  ·
   have h2d := of_decide_eq_true h2
   refine rn Qb [2] [] (pt 2 h1 (px (Oc (i := 0) (n := (ByteArray.size s_)) (by omega)) (pt 6 h2 (px (Oc (i := 0) (n := (ByteArray.size s_)) (by omega)) p0)))) ?_
   exact ⟨rfl, Qd (by rw [h1, h2]; first | done | kernel_rfl)⟩
  ·
   have h2d := of_decide_eq_false h2
   refine rn Qb [2] [] (pt 2 h1 (px (Oc (i := 0) (n := (ByteArray.size s_)) (by omega)) (pf 6 h2 p0))) ?_
   exact ⟨rfl, Qd (by rw [h1, h2]; first | done | kernel_rfl)⟩
 ·
  refine rn Qb [2] [] (pf 2 h1 p0) ?_
  exact ⟨rfl, Qd (by rw [h1]; first | done | kernel_rfl)⟩
 refine Qf ?_
 exact pb [] (show Yq s_ = (((ByteArray.size s_ : Int) == (1 : Int)) && (decide (Ac s_ 0 ≥ (97 : Int)) && decide (Ac s_ 0 ≤ (122 : Int)))) from rfl)
def Zk (n : X9) (at_ : Int) : Bool := (bif (n.1 == (1 : Int)) then ((n.1 == n.1) && ((n.2.1 == 0) && ((n.2.2.1 == 0) && ((n.2.2.2.1.toList == (⟨#[]⟩ : ByteArray).toList) && ((n.2.2.2.2.1 == 0) && ((n.2.2.2.2.2.1 == 0) && ((n.2.2.2.2.2.2.toList == (⟨#[]⟩ : ByteArray).toList) && true))))))) else (bif (n.1 == (2 : Int)) then (((n.1 == n.1) && ((n.2.1 == 0) && ((n.2.2.1 == 0) && ((n.2.2.2.1.toList == n.2.2.2.1.toList) && ((n.2.2.2.2.1 == 0) && ((n.2.2.2.2.2.1 == 0) && ((n.2.2.2.2.2.2.toList == (⟨#[]⟩ : ByteArray).toList) && true))))))) && (Yq n.2.2.2.1)) else (bif (bif (n.1 == (3 : Int)) then (n.1 == (3 : Int)) else (n.1 == (4 : Int))) then (((n.1 == n.1) && ((n.2.1 == 0) && ((n.2.2.1 == 0) && ((n.2.2.2.1.toList == n.2.2.2.1.toList) && ((n.2.2.2.2.1 == n.2.2.2.2.1) && ((n.2.2.2.2.2.1 == n.2.2.2.2.2.1) && ((n.2.2.2.2.2.2.toList == n.2.2.2.2.2.2.toList) && true))))))) && ((Yq n.2.2.2.1) && ((Ks n.2.2.2.2) && ((n.2.2.2.2.1 != (0 : Int)) && ((n.1 == (3 : Int)) || (n.2.2.2.2.1 == (1 : Int))))))) else (bif (n.1 == (5 : Int)) then (((n.1 == n.1) && ((n.2.1 == n.2.1) && ((n.2.2.1 == 0) && ((n.2.2.2.1.toList == (⟨#[]⟩ : ByteArray).toList) && ((n.2.2.2.2.1 == 0) && ((n.2.2.2.2.2.1 == 0) && ((n.2.2.2.2.2.2.toList == (⟨#[]⟩ : ByteArray).toList) && true))))))) && (decide (at_ > (0 : Int)) && (Yx n.2.1 0 (IntKind.i64.wrap (at_ - 1))))) else (bif (bif (n.1 == (6 : Int)) then (n.1 == (6 : Int)) else (n.1 == (7 : Int))) then (((n.1 == n.1) && ((n.2.1 == n.2.1) && ((n.2.2.1 == n.2.2.1) && ((n.2.2.2.1.toList == (⟨#[]⟩ : ByteArray).toList) && ((n.2.2.2.2.1 == 0) && ((n.2.2.2.2.2.1 == 0) && ((n.2.2.2.2.2.2.toList == (⟨#[]⟩ : ByteArray).toList) && true))))))) && (decide (at_ > (0 : Int)) && ((Yx n.2.1 0 (IntKind.i64.wrap (at_ - 1))) && (Yx n.2.2.1 0 (IntKind.i64.wrap (at_ - 1)))))) else (bif (n.1 == (8 : Int)) then (((n.1 == n.1) && ((n.2.1 == 0) && ((n.2.2.1 == 0) && ((n.2.2.2.1.toList == n.2.2.2.1.toList) && ((n.2.2.2.2.1 == 0) && ((n.2.2.2.2.2.1 == 0) && ((n.2.2.2.2.2.2.toList == (⟨#[]⟩ : ByteArray).toList) && true))))))) && (Y6 n.2.2.2.1)) else (bif (n.1 == (9 : Int)) then (((n.1 == n.1) && ((n.2.1 == 0) && ((n.2.2.1 == 0) && ((n.2.2.2.1.toList == n.2.2.2.1.toList) && ((n.2.2.2.2.1 == 0) && ((n.2.2.2.2.2.1 == 0) && ((n.2.2.2.2.2.2.toList == (⟨#[]⟩ : ByteArray).toList) && true))))))) && (Y6 n.2.2.2.1)) else false)))))))
theorem De (n : X9) (at_ : Int) : ACalls Tryz.prog 182 [.a [.i n.1, .i n.2.1, .i n.2.2.1, .s n.2.2.2.1, .i n.2.2.2.2.1, .i n.2.2.2.2.2.1, .s n.2.2.2.2.2.2], .i at_] (.b (Zk n at_)) := by
 refine en Qb Tryz.func182 fun w0 F0 hG => ?_
 refine sn Qb [1, 2, 4] [2] (p0) ?_
 refine tn Qb [1, 2, 4, 5] [2, 5] (p0) ?_
 refine Qe ?_
 refine tu Qb [(2, .p 2 0), (4, .b false), (5, .p 5 0), (10, .i n.1)] [0] [(2, [.i n.1, .i n.2.1, .i n.2.2.1, .s n.2.2.2.1, .i n.2.2.2.2.1, .i n.2.2.2.2.2.1, .s n.2.2.2.2.2.2]), (5, [.i n.1, .i 0, .i 0, .s ⟨#[]⟩, .i 0, .i 0, .s ⟨#[]⟩])] [] (p0) ?_
 refine Qt ?_
 refine sn Qb [1, 2, 4, 5, 10, 11] [2, 5] (p0) ?_
 refine ck (n.1 == (1 : Int)) (fun h1 => ?_) (fun h1 => ?_)
 ·
  refine Qj ?_
  refine tn Qb [4] [] (p0) ?_
  refine Qf ?_
  exact pb [] (Q8 h1 (rfl))
 ·
  refine tn Qb [1, 2, 4, 5, 10, 13] [2, 5] (p0) ?_
  refine ck (n.1 == (2 : Int)) (fun h2 => ?_) (fun h2 => ?_)
  ·
   refine tu Qb [] [1, 10] [(5, [.i n.1, .i 0, .i 0, .s n.2.2.2.1, .i 0, .i 0, .s ⟨#[]⟩])] [5] (p0) ?_
   refine Qe ?_
   refine jn [(4, .b (((n.1 == n.1) && ((n.2.1 == 0) && ((n.2.2.1 == 0) && ((n.2.2.2.1.toList == n.2.2.2.1.toList) && ((n.2.2.2.2.1 == 0) && ((n.2.2.2.2.2.1 == 0) && ((n.2.2.2.2.2.2.toList == (⟨#[]⟩ : ByteArray).toList) && true))))))) && (Yq n.2.2.2.1)))] [4] [] [] ((n.1 == n.1) && ((n.2.1 == 0) && ((n.2.2.1 == 0) && ((n.2.2.2.1.toList == n.2.2.2.1.toList) && ((n.2.2.2.2.1 == 0) && ((n.2.2.2.2.2.1 == 0) && ((n.2.2.2.2.2.2.toList == (⟨#[]⟩ : ByteArray).toList) && true))))))) (fun h3 => ?_) (fun h3 => ?_) ?_
   ·
    refine rn Qb [2, 4, 5] [2, 5] (pt 2 h3 (pc 6 (Y0 n.2.2.2.1) p0)) ?_
    exact ⟨rfl, Qd (by rw [h3]; first | done | kernel_rfl)⟩
   ·
    refine ru Qb [] [] [] [] (pf 2 h3 p0) ?_
    exact ⟨rfl, Qd (by rw [h3]; first | done | kernel_rfl)⟩
   refine Qf ?_
   exact pb [] (Qn h1 (Q8 h2 (rfl)))
  ·
   refine Qe ?_
   refine tu Qb [(26, .b (n.1 == (3 : Int)))] [] [] [] (p0) ?_
   refine jn [(26, .b (bif (n.1 == (3 : Int)) then (n.1 == (3 : Int)) else (n.1 == (4 : Int))))] [26] [] [] (n.1 == (3 : Int)) (fun h4 => ?_) (fun h4 => ?_) ?_
   ·
    refine ckt h4 ?_
    refine Qj ?_
    exact ⟨rfl, Qd (by rw [h4]; first | done | kernel_rfl)⟩
   ·
    refine ckf h4 ?_
    refine rn Qb [1, 2, 4, 5, 10, 26] [2, 5] (p0) ?_
    exact ⟨rfl, Qd (by rw [h4]; first | done | kernel_rfl)⟩
   refine ck (bif (n.1 == (3 : Int)) then (n.1 == (3 : Int)) else (n.1 == (4 : Int))) (fun h5 => ?_) (fun h5 => ?_)
   ·
    refine sN Qb Yn [2, 4, 5] [2, 5] (p0) ?_
    refine Qe ?_
    refine mz [] [1, 10, 26] [(5, [.i n.1, .i 0, .i 0, .s n.2.2.2.1, .i n.2.2.2.2.1, .i n.2.2.2.2.2.1, .s n.2.2.2.2.2.2])] [5] ?_
    refine jn [(4, .b (((n.1 == n.1) && ((n.2.1 == 0) && ((n.2.2.1 == 0) && ((n.2.2.2.1.toList == n.2.2.2.1.toList) && ((n.2.2.2.2.1 == n.2.2.2.2.1) && ((n.2.2.2.2.2.1 == n.2.2.2.2.2.1) && ((n.2.2.2.2.2.2.toList == n.2.2.2.2.2.2.toList) && true))))))) && ((Yq n.2.2.2.1) && ((Ks n.2.2.2.2) && ((n.2.2.2.2.1 != (0 : Int)) && ((n.1 == (3 : Int)) || (n.2.2.2.2.1 == (1 : Int))))))))] [4] [] [] ((n.1 == n.1) && ((n.2.1 == 0) && ((n.2.2.1 == 0) && ((n.2.2.2.1.toList == n.2.2.2.1.toList) && ((n.2.2.2.2.1 == n.2.2.2.2.1) && ((n.2.2.2.2.2.1 == n.2.2.2.2.2.1) && ((n.2.2.2.2.2.2.toList == n.2.2.2.2.2.2.toList) && true))))))) (fun h6 => ?_) (fun h6 => ?_) ?_
    ·
     refine Xb (Yq n.2.2.2.1) (fun h7 => ?_) (fun h7 => ?_)
     ·
      refine Xb (Ks n.2.2.2.2) (fun h8 => ?_) (fun h8 => ?_)
      ·
       refine Xb (n.2.2.2.2.1 != (0 : Int)) (fun h9 => ?_) (fun h9 => ?_)
       ·
        refine Xb (n.1 == (3 : Int)) (fun h10 => ?_) (fun h10 => ?_)
        ·
         refine rn Qb [2, 4, 5] [2, 5] (pt 2 h6 (pc 6 (cb h7 (Y0 n.2.2.2.1)) (pc 11 (cb h8 (K7 n.2.2.2.2)) (pt 17 h9 (pt 22 h10 p0))))) ?_
         exact ⟨rfl, Qd (by rw [h6, h7, h8, h9, h10]; first | done | kernel_rfl)⟩
        ·
         refine rn Qb [2, 4, 5] [2, 5] (pt 2 h6 (pc 6 (cb h7 (Y0 n.2.2.2.1)) (pc 11 (cb h8 (K7 n.2.2.2.2)) (pt 17 h9 (pf 22 h10 p0))))) ?_
         exact ⟨rfl, Qd (by rw [h6, h7, h8, h9, h10]; first | done | kernel_rfl)⟩
       ·
        refine ru Qb [] [] [] [] (pt 2 h6 (pc 6 (cb h7 (Y0 n.2.2.2.1)) (pc 11 (cb h8 (K7 n.2.2.2.2)) (pf 17 h9 p0)))) ?_
        exact ⟨rfl, Qd (by rw [h6, h7, h8, h9]; first | done | kernel_rfl)⟩
      ·
       refine ru Qb [] [] [] [] (pt 2 h6 (pc 6 (cb h7 (Y0 n.2.2.2.1)) (pc 11 (cb h8 (K7 n.2.2.2.2)) p0))) ?_
       exact ⟨rfl, Qd (by rw [h6, h7, h8]; first | done | kernel_rfl)⟩
     ·
      refine ru Qb [] [] [] [] (pt 2 h6 (pc 6 (cb h7 (Y0 n.2.2.2.1)) p0)) ?_
      exact ⟨rfl, Qd (by rw [h6, h7]; first | done | kernel_rfl)⟩
    ·
     refine ru Qb [] [] [] [] (pf 2 h6 p0) ?_
     exact ⟨rfl, Qd (by rw [h6]; first | done | kernel_rfl)⟩
    refine Qf ?_
    exact pb [] (Qn h1 (Qn h2 (Q8 h5 (rfl))))
   ·
    refine sn Qb [1, 2, 4, 5, 10, 65] [2, 5] (p0) ?_
    refine ck (n.1 == (5 : Int)) (fun h11 => ?_) (fun h11 => ?_)
    ·
     refine tn Qb [1, 2, 4, 5] [2, 5] (p0) ?_
     refine Qe ?_
     refine mz [] [10, 26] [(5, [.i n.1, .i n.2.1, .i 0, .s ⟨#[]⟩, .i 0, .i 0, .s ⟨#[]⟩])] [5] ?_
     refine jn [(4, .b (((n.1 == n.1) && ((n.2.1 == n.2.1) && ((n.2.2.1 == 0) && ((n.2.2.2.1.toList == (⟨#[]⟩ : ByteArray).toList) && ((n.2.2.2.2.1 == 0) && ((n.2.2.2.2.2.1 == 0) && ((n.2.2.2.2.2.2.toList == (⟨#[]⟩ : ByteArray).toList) && true))))))) && (decide (at_ > (0 : Int)) && (Yx n.2.1 0 (IntKind.i64.wrap (at_ - 1))))))] [1, 4] [] [] ((n.1 == n.1) && ((n.2.1 == n.2.1) && ((n.2.2.1 == 0) && ((n.2.2.2.1.toList == (⟨#[]⟩ : ByteArray).toList) && ((n.2.2.2.2.1 == 0) && ((n.2.2.2.2.2.1 == 0) && ((n.2.2.2.2.2.2.toList == (⟨#[]⟩ : ByteArray).toList) && true))))))) (fun h12 => ?_) (fun h12 => ?_) ?_
     ·
      refine Xb (decide (at_ > (0 : Int))) (fun h13 => ?_) (fun h13 => ?_)
      ·
       refine rn Qb [2, 4, 5] [2, 5] (pt 2 h12 (pt 5 h13 (pc 12 (Jv n.2.1 0 (IntKind.i64.wrap (at_ - 1))) p0))) ?_
       exact ⟨rfl, Qd (by rw [h12, h13]; first | done | kernel_rfl)⟩
      ·
       refine ru Qb [] [1] [] [] (pt 2 h12 (pf 5 h13 p0)) ?_
       exact ⟨rfl, Qd (by rw [h12, h13]; first | done | kernel_rfl)⟩
     ·
      refine ru Qb [] [1] [] [] (pf 2 h12 p0) ?_
      exact ⟨rfl, Qd (by rw [h12]; first | done | kernel_rfl)⟩
     refine Qf ?_
     exact pb [] (Qn h1 (Qn h2 (Qn h5 (Q8 h11 (rfl)))))
    ·
     refine Qe ?_
     refine tn Qb [1, 2, 4, 5, 10, 84] [2, 5] (p0) ?_
     refine mz [(84, .b (n.1 == (6 : Int)))] [26] [] [] ?_
     refine jn [(84, .b (bif (n.1 == (6 : Int)) then (n.1 == (6 : Int)) else (n.1 == (7 : Int))))] [84] [] [] (n.1 == (6 : Int)) (fun h14 => ?_) (fun h14 => ?_) ?_
     ·
      refine ckt h14 ?_
      refine Qj ?_
      exact ⟨rfl, Qd (by rw [h14]; first | done | kernel_rfl)⟩
     ·
      refine ckf h14 ?_
      refine rn Qb [1, 2, 4, 5, 10, 84] [2, 5] (p0) ?_
      exact ⟨rfl, Qd (by rw [h14]; first | done | kernel_rfl)⟩
     refine ck (bif (n.1 == (6 : Int)) then (n.1 == (6 : Int)) else (n.1 == (7 : Int))) (fun h15 => ?_) (fun h15 => ?_)
     ·
      refine sN Qb Yn [1, 2, 4, 5] [2, 5] (p0) ?_
      refine Qe ?_
      refine mz [] [10, 84] [(5, [.i n.1, .i n.2.1, .i n.2.2.1, .s ⟨#[]⟩, .i 0, .i 0, .s ⟨#[]⟩])] [5] ?_
      refine jn [(4, .b (((n.1 == n.1) && ((n.2.1 == n.2.1) && ((n.2.2.1 == n.2.2.1) && ((n.2.2.2.1.toList == (⟨#[]⟩ : ByteArray).toList) && ((n.2.2.2.2.1 == 0) && ((n.2.2.2.2.2.1 == 0) && ((n.2.2.2.2.2.2.toList == (⟨#[]⟩ : ByteArray).toList) && true))))))) && (decide (at_ > (0 : Int)) && ((Yx n.2.1 0 (IntKind.i64.wrap (at_ - 1))) && (Yx n.2.2.1 0 (IntKind.i64.wrap (at_ - 1)))))))] [1, 4] [] [] ((n.1 == n.1) && ((n.2.1 == n.2.1) && ((n.2.2.1 == n.2.2.1) && ((n.2.2.2.1.toList == (⟨#[]⟩ : ByteArray).toList) && ((n.2.2.2.2.1 == 0) && ((n.2.2.2.2.2.1 == 0) && ((n.2.2.2.2.2.2.toList == (⟨#[]⟩ : ByteArray).toList) && true))))))) (fun h16 => ?_) (fun h16 => ?_) ?_
      ·
       refine Xb (decide (at_ > (0 : Int))) (fun h17 => ?_) (fun h17 => ?_)
       ·
        refine Xb (Yx n.2.1 0 (IntKind.i64.wrap (at_ - 1))) (fun h18 => ?_) (fun h18 => ?_)
        ·
         refine rn Qb [2, 4, 5] [2, 5] (pt 2 h16 (pt 5 h17 (pc 12 (cb h18 (Jv n.2.1 0 (IntKind.i64.wrap (at_ - 1)))) (pc 19 (Jv n.2.2.1 0 (IntKind.i64.wrap (at_ - 1))) p0)))) ?_
         exact ⟨rfl, Qd (by rw [h16, h17, h18]; first | done | kernel_rfl)⟩
        ·
         refine ru Qb [] [1] [] [] (pt 2 h16 (pt 5 h17 (pc 12 (cb h18 (Jv n.2.1 0 (IntKind.i64.wrap (at_ - 1)))) p0))) ?_
         exact ⟨rfl, Qd (by rw [h16, h17, h18]; first | done | kernel_rfl)⟩
       ·
        refine ru Qb [] [1] [] [] (pt 2 h16 (pf 5 h17 p0)) ?_
        exact ⟨rfl, Qd (by rw [h16, h17]; first | done | kernel_rfl)⟩
      ·
       refine ru Qb [] [1] [] [] (pf 2 h16 p0) ?_
       exact ⟨rfl, Qd (by rw [h16]; first | done | kernel_rfl)⟩
      refine Qf ?_
      exact pb [] (Qn h1 (Qn h2 (Qn h5 (Qn h11 (Q8 h15 (rfl))))))
     ·
      refine Qe ?_
      refine sn Qb [2, 4, 5, 10, 114] [2, 5] (p0) ?_
      refine ck (n.1 == (8 : Int)) (fun h19 => ?_) (fun h19 => ?_)
      ·
       refine Qj ?_
       refine ckt h19 ?_
       refine tn Qb [2, 4, 5] [2, 5] (p0) ?_
       refine Qe ?_
       refine mz [] [1, 10, 84] [(5, [.i n.1, .i 0, .i 0, .s n.2.2.2.1, .i 0, .i 0, .s ⟨#[]⟩])] [5] ?_
       refine jn [(4, .b (((n.1 == n.1) && ((n.2.1 == 0) && ((n.2.2.1 == 0) && ((n.2.2.2.1.toList == n.2.2.2.1.toList) && ((n.2.2.2.2.1 == 0) && ((n.2.2.2.2.2.1 == 0) && ((n.2.2.2.2.2.2.toList == (⟨#[]⟩ : ByteArray).toList) && true))))))) && (Y6 n.2.2.2.1)))] [4] [] [] ((n.1 == n.1) && ((n.2.1 == 0) && ((n.2.2.1 == 0) && ((n.2.2.2.1.toList == n.2.2.2.1.toList) && ((n.2.2.2.2.1 == 0) && ((n.2.2.2.2.2.1 == 0) && ((n.2.2.2.2.2.2.toList == (⟨#[]⟩ : ByteArray).toList) && true))))))) (fun h20 => ?_) (fun h20 => ?_) ?_
       ·
        refine rn Qb [2, 4, 5] [2, 5] (pt 2 h20 (pc 6 (J4 n.2.2.2.1) p0)) ?_
        exact ⟨rfl, Qd (by rw [h20]; first | done | kernel_rfl)⟩
       ·
        refine ru Qb [] [] [] [] (pf 2 h20 p0) ?_
        exact ⟨rfl, Qd (by rw [h20]; first | done | kernel_rfl)⟩
       refine Qf ?_
       exact pb [] (Qn h1 (Qn h2 (Qn h5 (Qn h11 (Qn h15 (Q8 h19 (rfl)))))))
      ·
       refine qn Qb [2, 4, 5, 114] [2, 5] (p0) ?_
       refine ck (n.1 == (9 : Int)) (fun h21 => ?_) (fun h21 => ?_)
       ·
        refine tu Qb [] [1, 10, 84] [(5, [.i n.1, .i 0, .i 0, .s n.2.2.2.1, .i 0, .i 0, .s ⟨#[]⟩])] [5] (p0) ?_
        refine Qe ?_
        refine jn [(4, .b (((n.1 == n.1) && ((n.2.1 == 0) && ((n.2.2.1 == 0) && ((n.2.2.2.1.toList == n.2.2.2.1.toList) && ((n.2.2.2.2.1 == 0) && ((n.2.2.2.2.2.1 == 0) && ((n.2.2.2.2.2.2.toList == (⟨#[]⟩ : ByteArray).toList) && true))))))) && (Y6 n.2.2.2.1)))] [4] [] [] ((n.1 == n.1) && ((n.2.1 == 0) && ((n.2.2.1 == 0) && ((n.2.2.2.1.toList == n.2.2.2.1.toList) && ((n.2.2.2.2.1 == 0) && ((n.2.2.2.2.2.1 == 0) && ((n.2.2.2.2.2.2.toList == (⟨#[]⟩ : ByteArray).toList) && true))))))) (fun h22 => ?_) (fun h22 => ?_) ?_
        ·
         refine rn Qb [2, 4, 5] [2, 5] (pt 2 h22 (pc 6 (J4 n.2.2.2.1) p0)) ?_
         exact ⟨rfl, Qd (by rw [h22]; first | done | kernel_rfl)⟩
        ·
         refine ru Qb [] [] [] [] (pf 2 h22 p0) ?_
         exact ⟨rfl, Qd (by rw [h22]; first | done | kernel_rfl)⟩
        refine Qf ?_
        exact pb [] (Qn h1 (Qn h2 (Qn h5 (Qn h11 (Qn h15 (Qn h19 (Q8 h21 (rfl))))))))
       ·
        refine tu Qb [] [1, 10, 84] [] [] (p0) ?_
        refine Qf ?_
        exact pb [] (Qn h1 (Qn h2 (Qn h5 (Qn h11 (Qn h15 (Qn h19 (Qn h21 (rfl))))))))
def Jx (at_ : Int) (_ : Nat) (a0 : X9) (s0 : Int) : Rd (Int) (Int) (Int) := (bif ((a0.2.1 == at_) && (((a0.1 == (6 : Int)) || (a0.1 == (7 : Int))) || (a0.1 == (5 : Int)))) then (bif ((a0.2.2.1 == at_) && ((a0.1 == (6 : Int)) || (a0.1 == (7 : Int)))) then (.next (IntKind.i64.wrap (IntKind.i64.wrap (s0 + 1) + 1))) else (.next (IntKind.i64.wrap (s0 + 1)))) else (bif ((a0.2.2.1 == at_) && ((a0.1 == (6 : Int)) || (a0.1 == (7 : Int)))) then (.next (IntKind.i64.wrap (s0 + 1))) else (.next s0)))
def W9 (_ : Nat) (s0 : Int) : Int := s0
def Jm (q : (List X9)) (at_ : Int) : Int := (Out.on (Xm (Jx at_) W9 q 0 0) (fun y0 => y0))
theorem Lm (q : (List X9)) (at_ : Int) : ACalls Tryz.prog 183 [.h q, .i at_] (.i (Jm q at_)) := by
 refine en Qb Tryz.func183 fun w0 F0 hG => ?_
 refine sn Qb [0, 1, 4] [] (p0) ?_
 refine tn Qb [0, 1, 4, 5] [] (p0) ?_
 refine Qe ?_
 refine tu Qb [(4, .i 0), (5, .i 0), (9, .h q), (10, .i (q.length : Int)), (11, .i 0)] [0] [] [] (pl 1 q p0) ?_
 refine wT 9 0 .sh q (fun hw1 hl2 => ?_)
 refine Mq (Jx at_) W9 q 0 (fun k0 s0 => [(5, .i s0), (11, .i ((k0 : Nat) : Int))]) [5, 11] (fun y0 => [(5, .i y0)]) [1, 5, 9, 10, 11] (Qd (by kernel_rfl)) (fun k0 s0 hk0 hI0 => ?_) (fun k0 s0 hk0 hI0 => ?_) (fun y0 hD0 => ?_)
 ·
  obtain ⟨a0, hx0⟩ := Xk (l := q) (i := k0) hk0
  refine su Qb [(12, .b true)] [] [] [] (pe 0 (Qs (decide_eq_true (p := ((k0 : Nat) : Int) < (q.length : Int)) (by omega))) p0) ?_
  refine Qe ?_
  refine ckT ?_
  refine Qj ?_
  refine Qe ?_
  refine Qt ?_
  refine sn Qb [1, 4, 5, 7, 9, 10, 11] [7] (pn 0 hx0 p0) ?_
  refine Qe ?_
  refine mz [(7, .p 7 0)] [12] [(7, [.i a0.1, .i a0.2.1, .i a0.2.2.1, .s a0.2.2.2.1, .i a0.2.2.2.2.1, .i a0.2.2.2.2.2.1, .s a0.2.2.2.2.2.2])] [] ?_
  refine jn [(8, .b ((a0.1 == (6 : Int)) || (a0.1 == (7 : Int))))] [] [] [] (a0.1 == (6 : Int)) (fun h3 => ?_) (fun h3 => ?_) ?_
  ·
   refine ru Qb [(8, .b true)] [] [] [] (pt 2 h3 p0) ?_
   exact ⟨rfl, Qd (by rw [h3]; first | done | kernel_rfl)⟩
  ·
   refine rn Qb [1, 4, 5, 7, 8, 9, 10, 11] [7] (pf 2 h3 p0) ?_
   exact ⟨rfl, Qd (by rw [h3]; first | done | kernel_rfl)⟩
  refine Qe ?_
  refine Qe ?_
  refine jn [(34, .b ((a0.2.1 == at_) && (((a0.1 == (6 : Int)) || (a0.1 == (7 : Int))) || (a0.1 == (5 : Int)))))] [] [] [] (a0.2.1 == at_) (fun h4 => ?_) (fun h4 => ?_) ?_
  ·
   refine Xb ((a0.1 == (6 : Int)) || (a0.1 == (7 : Int))) (fun h5 => ?_) (fun h5 => ?_)
   ·
    refine ru Qb [(34, .b true)] [] [] [] (pt 3 h4 (pt 5 h5 p0)) ?_
    exact ⟨rfl, Qd (by rw [h4, h5]; first | done | kernel_rfl)⟩
   ·
    refine rn Qb [1, 4, 5, 7, 8, 9, 10, 11, 34] [7] (pt 3 h4 (pf 5 h5 p0)) ?_
    exact ⟨rfl, Qd (by rw [h4, h5]; first | done | kernel_rfl)⟩
  ·
   refine ru Qb [(34, .b false)] [] [] [] (pf 3 h4 p0) ?_
   exact ⟨rfl, Qd (by rw [h4]; first | done | kernel_rfl)⟩
  refine ck ((a0.2.1 == at_) && (((a0.1 == (6 : Int)) || (a0.1 == (7 : Int))) || (a0.1 == (5 : Int)))) (fun h6 => ?_) (fun h6 => ?_)
  ·
   have h6l : ((a0.2.1 == at_)) = true := HO h6
   have h6ld := eq_of_beq h6l
   refine rn Qb [1, 4, 5, 7, 8, 9, 10, 11] [7] (p0) ?_
   refine Qe ?_
   refine mz [(5, .i (IntKind.i64.wrap (s0 + 1)))] [5, 34] [] [] ?_
   refine jn [(43, .b ((a0.2.2.1 == at_) && ((a0.1 == (6 : Int)) || (a0.1 == (7 : Int)))))] [7, 8] [] [7] (a0.2.2.1 == at_) (fun h7 => ?_) (fun h7 => ?_) ?_
   ·
    refine rn Qb [1, 4, 5, 9, 10, 11, 43] [] (pt 3 h7 p0) ?_
    exact ⟨rfl, Qd (by rw [h7]; first | done | kernel_rfl)⟩
   ·
    refine rn Qb [1, 4, 5, 9, 10, 11, 43] [] (pf 3 h7 p0) ?_
    exact ⟨rfl, Qd (by rw [h7]; first | done | kernel_rfl)⟩
   refine ck ((a0.2.2.1 == at_) && ((a0.1 == (6 : Int)) || (a0.1 == (7 : Int)))) (fun h8 => ?_) (fun h8 => ?_)
   ·
    have h8l : ((a0.2.2.1 == at_)) = true := HO h8
    have h8ld := eq_of_beq h8l
    refine rn Qb [1, 4, 5, 9, 10, 11] [] (p0) ?_
    refine qn Qb [1, 4, 5, 9, 10, 11] [] (pe 0 (Jb (Qv k0 (by omega))) p0) ?_
    exact Exists.intro _ (And.intro (Qd (by kernel_rfl)) (Qz hx0 (Q8 h6 (Q8 h8 (rfl))) hI0))
   ·
    refine Qj ?_
    refine rn Qb [1, 4, 5, 9, 10, 11] [] (pe 0 (Jb (Qv k0 (by omega))) p0) ?_
    exact Exists.intro _ (And.intro (Qd (by kernel_rfl)) (Qz hx0 (Q8 h6 (Qn h8 (rfl))) hI0))
  ·
   refine Qj ?_
   refine Qe ?_
   refine jn [(43, .b ((a0.2.2.1 == at_) && ((a0.1 == (6 : Int)) || (a0.1 == (7 : Int)))))] [7, 8, 34] [] [7] (a0.2.2.1 == at_) (fun h9 => ?_) (fun h9 => ?_) ?_
   ·
    refine rn Qb [1, 4, 5, 9, 10, 11, 43] [] (pt 3 h9 p0) ?_
    exact ⟨rfl, Qd (by rw [h9]; first | done | kernel_rfl)⟩
   ·
    refine rn Qb [1, 4, 5, 9, 10, 11, 43] [] (pf 3 h9 p0) ?_
    exact ⟨rfl, Qd (by rw [h9]; first | done | kernel_rfl)⟩
   refine ck ((a0.2.2.1 == at_) && ((a0.1 == (6 : Int)) || (a0.1 == (7 : Int)))) (fun h10 => ?_) (fun h10 => ?_)
   ·
    have h10l : ((a0.2.2.1 == at_)) = true := HO h10
    have h10ld := eq_of_beq h10l
    refine rn Qb [1, 4, 5, 9, 10, 11] [] (p0) ?_
    refine qn Qb [1, 4, 5, 9, 10, 11] [] (pe 0 (Jb (Qv k0 (by omega))) p0) ?_
    exact Exists.intro _ (And.intro (Qd (by kernel_rfl)) (Qz hx0 (Qn h6 (Q8 h10 (rfl))) hI0))
   ·
    refine Qj ?_
    refine rn Qb [1, 4, 5, 9, 10, 11] [] (pe 0 (Jb (Qv k0 (by omega))) p0) ?_
    exact Exists.intro _ (And.intro (Qd (by kernel_rfl)) (Qz hx0 (Qn h6 (Qn h10 (rfl))) hI0))
 ·
  refine su Qb [(12, .b false)] [] [] [] (pe 0 (Qs (decide_eq_false (p := ((k0 : Nat) : Int) < (q.length : Int)) (by omega))) p0) ?_
  refine Qe ?_
  refine ckF ?_
  refine Q3 ?_
  exact Exists.intro _ (And.intro (Qd (by kernel_rfl)) (Xl hk0 (rfl) hI0))
 ·
  refine sn Qb [4] [] (p0) ?_
  refine Qf ?_
  exact pi [] (Wf hD0 (rfl))
def Y7 (q : (List X9)) (k0 : Nat) (a0 : X9) (_ : Unit) : Rd (Bool) (Unit) (Unit) := (bif ((!(Zk a0 ((k0 : Nat) : Int))) || (decide (((k0 : Nat) : Int) < ((q.length : Int) - 1)) && ((Jm q ((k0 : Nat) : Int)) != (1 : Int)))) then (.ret false) else (.next ()))
def Kz (_ : Nat) (_ : Unit) : Unit := ()
def Q1 (q : (List X9)) : Bool := (Out.on (Xm (Y7 q) Kz q 0 ()) (fun _ => (Yx (q.length : Int) 1 9)))
theorem Ug (q : (List X9)) : ACalls Tryz.prog 175 [.h q] (.b (Q1 q)) := by
 refine en Qb Tryz.func175 fun w0 F0 hG => ?_
 refine sn Qb [0, 2] [] (p0) ?_
 refine Qe ?_
 refine tn Qb [0, 2, 5, 6, 7] [] (pl 1 q p0) ?_
 refine mz [(2, .b false), (5, .h q), (6, .i (q.length : Int)), (7, .i 0)] [] [] [] ?_
 refine wT 0 0 .sh q (fun hw1 hl2 => ?_)
 refine Mq (Y7 q) Kz q () (fun k0 _ => [(7, .i ((k0 : Nat) : Int))]) [7] (fun _ => []) [5, 6, 7] (Qd (by kernel_rfl)) (fun k0 s0 hk0 hI0 => ?_) (fun k0 s0 hk0 hI0 => ?_) (fun y0 hD0 => ?_)
 ·
  obtain ⟨a0, hx0⟩ := Xk (l := q) (i := k0) hk0
  refine sn Qb [0, 2, 5, 6, 7, 8] [] (pe 0 (Qs (decide_eq_true (p := ((k0 : Nat) : Int) < (q.length : Int)) (by omega))) p0) ?_
  refine Qe ?_
  refine ckT ?_
  refine Qj ?_
  refine Qe ?_
  refine Qt ?_
  refine tn Qb [0, 2, 3, 4, 5, 6, 7] [4] (pn 1 hx0 p0) ?_
  refine Qe ?_
  refine mz [(3, .i ((k0 : Nat) : Int)), (4, .p 4 0)] [] [(4, [.i a0.1, .i a0.2.1, .i a0.2.2.1, .s a0.2.2.2.1, .i a0.2.2.2.2.1, .i a0.2.2.2.2.2.1, .s a0.2.2.2.2.2.2])] [] ?_
  refine jn [(28, .b ((!(Zk a0 ((k0 : Nat) : Int))) || (decide (((k0 : Nat) : Int) < ((q.length : Int) - 1)) && ((Jm q ((k0 : Nat) : Int)) != (1 : Int)))))] [3, 4] [] [4] (!(Zk a0 ((k0 : Nat) : Int))) (fun h3 => ?_) (fun h3 => ?_) ?_
  ·
   have h3n : (Zk a0 ((k0 : Nat) : Int)) = false := Wz h3
   refine rn Qb [0, 2, 5, 6, 7, 28] [] (pc 2 (cb h3n (De a0 ((k0 : Nat) : Int))) (pe 3 (show .b (!false) = .b true from rfl) p0)) ?_
   exact ⟨rfl, Qd (by rw [h3]; first | done | kernel_rfl)⟩
  ·
   have h3n : (Zk a0 ((k0 : Nat) : Int)) = true := Je h3
   refine Xb (decide (((k0 : Nat) : Int) < ((q.length : Int) - 1))) (fun h4 => ?_) (fun h4 => ?_)
   ·
    have h4d := of_decide_eq_true h4
    refine rn Qb [0, 2, 5, 6, 7, 28] [] (pc 2 (cb h3n (De a0 ((k0 : Nat) : Int))) (pe 3 (show .b (!true) = .b false from rfl) (pl 7 q (pe 8 (Jb (IntWalk.i64_in ((q.length : Int) - 1) (by omega))) (pt 9 h4 (pc 13 (Lm q ((k0 : Nat) : Int)) p0)))))) ?_
    exact ⟨rfl, Qd (by rw [h3, h4]; first | done | kernel_rfl)⟩
   ·
    have h4d := of_decide_eq_false h4
    refine rn Qb [0, 2, 5, 6, 7, 28] [] (pc 2 (cb h3n (De a0 ((k0 : Nat) : Int))) (pe 3 (show .b (!true) = .b false from rfl) (pl 7 q (pe 8 (Jb (IntWalk.i64_in ((q.length : Int) - 1) (by omega))) (pf 9 h4 p0))))) ?_
    exact ⟨rfl, Qd (by rw [h3, h4]; first | done | kernel_rfl)⟩
  refine ck ((!(Zk a0 ((k0 : Nat) : Int))) || (decide (((k0 : Nat) : Int) < ((q.length : Int) - 1)) && ((Jm q ((k0 : Nat) : Int)) != (1 : Int)))) (fun h5 => ?_) (fun h5 => ?_)
  ·
   refine su Qb [] [28] [] [] (p0) ?_
   refine Qf ?_
   have hr6 : (Xm (Y7 q) Kz q 0 ()) = .ret false := Z1 hx0 (Q8 h5 (rfl)) hI0
   exact pb [] (Gu hr6)
  ·
   refine Qj ?_
   refine rn Qb [0, 2, 5, 6, 7] [] (pe 0 (Jb (Qv k0 (by omega))) p0) ?_
   exact Exists.intro _ (And.intro (Qd (by kernel_rfl)) (Qz hx0 (Qn h5 (rfl)) hI0))
 ·
  refine sn Qb [0, 2, 5, 6, 7, 8] [] (pe 0 (Qs (decide_eq_false (p := ((k0 : Nat) : Int) < (q.length : Int)) (by omega))) p0) ?_
  refine Qe ?_
  refine ckF ?_
  refine Q3 ?_
  exact Exists.intro _ (And.intro (Qd (by kernel_rfl)) (Xl hk0 (rfl) hI0))
 ·
  refine sn Qb [2] [] (pl 1 q (pc 2 (Jv (q.length : Int) 1 9) p0)) ?_
  refine Qf ?_
  exact pb [] (Wf hD0 (rfl))
def K8 (n : X9) (at_ : Int) : Bool := (bif (n.1 == (1 : Int)) then ((n.1 == 1) && ((n.2.1 == 0) && ((n.2.2.1 == 0) && ((n.2.2.2.1.toList == (⟨#[]⟩ : ByteArray).toList) && ((n.2.2.2.2.1 == 0) && ((n.2.2.2.2.2.1 == 0) && ((n.2.2.2.2.2.2.toList == (⟨#[]⟩ : ByteArray).toList) && true))))))) else (bif (n.1 == (2 : Int)) then ((Xr n.2.2.2.1) && ((n.1 == n.1) && ((n.2.1 == 0) && ((n.2.2.1 == 0) && ((n.2.2.2.1.toList == n.2.2.2.1.toList) && ((n.2.2.2.2.1 == 0) && ((n.2.2.2.2.2.1 == 0) && ((n.2.2.2.2.2.2.toList == (⟨#[]⟩ : ByteArray).toList) && true)))))))) else (bif (n.1 == (3 : Int)) then ((Xr n.2.2.2.1) && ((Jc n.2.2.2.2) && ((n.2.2.2.2.1 != (0 : Int)) && ((n.2.1 == (0 : Int)) && (n.2.2.1 == (0 : Int)))))) else (bif (n.1 == (4 : Int)) then ((Xr n.2.2.2.1) && ((Jc n.2.2.2.2) && ((n.2.2.2.2.1 == (1 : Int)) && ((n.2.1 == (0 : Int)) && (n.2.2.1 == (0 : Int)))))) else (bif (n.1 == (5 : Int)) then (((Q6 n.2.1 0 (IntKind.i64.wrap (at_ - 1))) && decide (at_ > (0 : Int))) && ((n.2.2.1 == (0 : Int)) && ((n.2.2.2.1.toList == (⟨#[]⟩ : ByteArray).toList) && ((n.2.2.2.2.1 == 0) && ((n.2.2.2.2.2.1 == 0) && ((n.2.2.2.2.2.2.toList == (⟨#[]⟩ : ByteArray).toList) && true)))))) else (bif (bif (n.1 == (6 : Int)) then (n.1 == (6 : Int)) else (n.1 == (7 : Int))) then ((((Q6 n.2.1 0 (IntKind.i64.wrap (at_ - 1))) && decide (at_ > (0 : Int))) && (Q6 n.2.2.1 0 (IntKind.i64.wrap (at_ - 1)))) && ((n.2.2.2.1.toList == (⟨#[]⟩ : ByteArray).toList) && ((n.2.2.2.2.1 == 0) && ((n.2.2.2.2.2.1 == 0) && ((n.2.2.2.2.2.2.toList == (⟨#[]⟩ : ByteArray).toList) && true))))) else (bif (n.1 == (8 : Int)) then ((Yh n.2.2.2.1) && ((n.1 == n.1) && ((n.2.1 == 0) && ((n.2.2.1 == 0) && ((n.2.2.2.1.toList == n.2.2.2.1.toList) && ((n.2.2.2.2.1 == 0) && ((n.2.2.2.2.2.1 == 0) && ((n.2.2.2.2.2.2.toList == (⟨#[]⟩ : ByteArray).toList) && true)))))))) else (bif (n.1 == (9 : Int)) then ((Yh n.2.2.2.1) && ((n.1 == n.1) && ((n.2.1 == 0) && ((n.2.2.1 == 0) && ((n.2.2.2.1.toList == n.2.2.2.1.toList) && ((n.2.2.2.2.1 == 0) && ((n.2.2.2.2.2.1 == 0) && ((n.2.2.2.2.2.2.toList == (⟨#[]⟩ : ByteArray).toList) && true)))))))) else false))))))))
theorem Df (n : X9) (at_ : Int) : ACalls Tryz.prog 171 [.a [.i n.1, .i n.2.1, .i n.2.2.1, .s n.2.2.2.1, .i n.2.2.2.2.1, .i n.2.2.2.2.2.1, .s n.2.2.2.2.2.2], .i at_] (.b (K8 n at_)) := by
 refine en Qb Tryz.func171 fun w0 F0 hG => ?_
 refine sn Qb [1, 2, 4] [2] (p0) ?_
 refine Qe ?_
 refine mz [(2, .p 2 0), (4, .b false)] [0] [(2, [.i n.1, .i n.2.1, .i n.2.2.1, .s n.2.2.2.1, .i n.2.2.2.2.1, .i n.2.2.2.2.2.1, .s n.2.2.2.2.2.2])] [] ?_
 refine jn [(5, .b ((Q6 n.2.1 0 (IntKind.i64.wrap (at_ - 1))) && decide (at_ > (0 : Int))))] [] [] [] (Q6 n.2.1 0 (IntKind.i64.wrap (at_ - 1))) (fun h1 => ?_) (fun h1 => ?_) ?_
 ·
  refine rn Qb [1, 2, 4, 5] [2] (pc 4 (cb h1 (Zb n.2.1 0 (IntKind.i64.wrap (at_ - 1)))) p0) ?_
  exact ⟨rfl, Qd (by rw [h1]; first | done | kernel_rfl)⟩
 ·
  refine rn Qb [1, 2, 4, 5] [2] (pc 4 (cb h1 (Zb n.2.1 0 (IntKind.i64.wrap (at_ - 1)))) p0) ?_
  exact ⟨rfl, Qd (by rw [h1]; first | done | kernel_rfl)⟩
 refine Qe ?_
 refine jn [(6, .b (((Q6 n.2.1 0 (IntKind.i64.wrap (at_ - 1))) && decide (at_ > (0 : Int))) && (Q6 n.2.2.1 0 (IntKind.i64.wrap (at_ - 1)))))] [1] [] [] ((Q6 n.2.1 0 (IntKind.i64.wrap (at_ - 1))) && decide (at_ > (0 : Int))) (fun h2 => ?_) (fun h2 => ?_) ?_
 ·
  refine rn Qb [2, 4, 5, 6] [2] (pt 0 h2 (pc 6 (Zb n.2.2.1 0 (IntKind.i64.wrap (at_ - 1))) p0)) ?_
  exact ⟨rfl, Qd (by rw [h2]; first | done | kernel_rfl)⟩
 ·
  refine rn Qb [2, 4, 5, 6] [2] (pf 0 h2 p0) ?_
  exact ⟨rfl, Qd (by rw [h2]; first | done | kernel_rfl)⟩
 refine Qe ?_
 refine sn Qb [2, 4, 5, 6, 25] [2] (p0) ?_
 refine Qt ?_
 refine tn Qb [2, 4, 5, 6, 25, 26] [2] (p0) ?_
 refine ck (n.1 == (1 : Int)) (fun h3 => ?_) (fun h3 => ?_)
 ·
  refine tu Qb [(4, .b ((n.1 == 1) && ((n.2.1 == 0) && ((n.2.2.1 == 0) && ((n.2.2.2.1.toList == (⟨#[]⟩ : ByteArray).toList) && ((n.2.2.2.2.1 == 0) && ((n.2.2.2.2.2.1 == 0) && ((n.2.2.2.2.2.2.toList == (⟨#[]⟩ : ByteArray).toList) && true))))))))] [2, 4, 5, 6] [] [2] (p0) ?_
  refine Qf ?_
  exact pb [] (Q8 h3 (rfl))
 ·
  refine tu Qb [(25, .i n.1), (31, .b (n.1 == (2 : Int)))] [] [] [] (p0) ?_
  refine ck (n.1 == (2 : Int)) (fun h4 => ?_) (fun h4 => ?_)
  ·
   refine Qe ?_
   refine jn [(4, .b ((Xr n.2.2.2.1) && ((n.1 == n.1) && ((n.2.1 == 0) && ((n.2.2.1 == 0) && ((n.2.2.2.1.toList == n.2.2.2.1.toList) && ((n.2.2.2.2.1 == 0) && ((n.2.2.2.2.2.1 == 0) && ((n.2.2.2.2.2.2.toList == (⟨#[]⟩ : ByteArray).toList) && true)))))))))] [2, 4, 5, 6, 25, 31] [] [2] (Xr n.2.2.2.1) (fun h5 => ?_) (fun h5 => ?_) ?_
   ·
    refine rn Qb [4] [] (pc 2 (cb h5 (X1 n.2.2.2.1)) p0) ?_
    exact ⟨rfl, Qd (by rw [h5]; first | done | kernel_rfl)⟩
   ·
    refine rn Qb [4] [] (pc 2 (cb h5 (X1 n.2.2.2.1)) p0) ?_
    exact ⟨rfl, Qd (by rw [h5]; first | done | kernel_rfl)⟩
   refine Qf ?_
   exact pb [] (Qn h3 (Q8 h4 (rfl)))
  ·
   refine sn Qb [2, 4, 5, 6, 25, 45] [2] (p0) ?_
   refine ck (n.1 == (3 : Int)) (fun h6 => ?_) (fun h6 => ?_)
   ·
    refine Qe ?_
    refine mz [(45, .b (n.1 == (3 : Int)))] [31] [] [] ?_
    refine jn [(4, .b ((Xr n.2.2.2.1) && ((Jc n.2.2.2.2) && ((n.2.2.2.2.1 != (0 : Int)) && ((n.2.1 == (0 : Int)) && (n.2.2.1 == (0 : Int)))))))] [2, 4, 5, 6, 25, 45] [] [2] (Xr n.2.2.2.1) (fun h7 => ?_) (fun h7 => ?_) ?_
    ·
     refine Xb (Jc n.2.2.2.2) (fun h8 => ?_) (fun h8 => ?_)
     ·
      refine Xb (n.2.2.2.2.1 != (0 : Int)) (fun h9 => ?_) (fun h9 => ?_)
      ·
       refine Xb (n.2.1 == (0 : Int)) (fun h10 => ?_) (fun h10 => ?_)
       ·
        refine rn Qb [4] [] (pc 2 (cb h7 (X1 n.2.2.2.1)) (pc 6 (cb h8 (Z2 n.2.2.2.2)) (pt 12 h9 (pt 17 h10 p0)))) ?_
        exact ⟨rfl, Qd (by rw [h7, h8, h9, h10]; first | done | kernel_rfl)⟩
       ·
        refine rn Qb [4] [] (pc 2 (cb h7 (X1 n.2.2.2.1)) (pc 6 (cb h8 (Z2 n.2.2.2.2)) (pt 12 h9 (pf 17 h10 p0)))) ?_
        exact ⟨rfl, Qd (by rw [h7, h8, h9, h10]; first | done | kernel_rfl)⟩
      ·
       refine rn Qb [4] [] (pc 2 (cb h7 (X1 n.2.2.2.1)) (pc 6 (cb h8 (Z2 n.2.2.2.2)) (pf 12 h9 p0))) ?_
       exact ⟨rfl, Qd (by rw [h7, h8, h9]; first | done | kernel_rfl)⟩
     ·
      refine rn Qb [4] [] (pc 2 (cb h7 (X1 n.2.2.2.1)) (pc 6 (cb h8 (Z2 n.2.2.2.2)) p0)) ?_
      exact ⟨rfl, Qd (by rw [h7, h8]; first | done | kernel_rfl)⟩
    ·
     refine rn Qb [4] [] (pc 2 (cb h7 (X1 n.2.2.2.1)) p0) ?_
     exact ⟨rfl, Qd (by rw [h7]; first | done | kernel_rfl)⟩
    refine Qf ?_
    exact pb [] (Qn h3 (Qn h4 (Q8 h6 (rfl))))
   ·
    refine tn Qb [2, 4, 5, 6, 25, 71] [2] (p0) ?_
    refine ck (n.1 == (4 : Int)) (fun h11 => ?_) (fun h11 => ?_)
    ·
     refine Qe ?_
     refine mz [(71, .b (n.1 == (4 : Int)))] [31] [] [] ?_
     refine jn [(4, .b ((Xr n.2.2.2.1) && ((Jc n.2.2.2.2) && ((n.2.2.2.2.1 == (1 : Int)) && ((n.2.1 == (0 : Int)) && (n.2.2.1 == (0 : Int)))))))] [2, 4, 5, 6, 25, 71] [] [2] (Xr n.2.2.2.1) (fun h12 => ?_) (fun h12 => ?_) ?_
     ·
      refine Xb (Jc n.2.2.2.2) (fun h13 => ?_) (fun h13 => ?_)
      ·
       refine Xb (n.2.2.2.2.1 == (1 : Int)) (fun h14 => ?_) (fun h14 => ?_)
       ·
        refine Xb (n.2.1 == (0 : Int)) (fun h15 => ?_) (fun h15 => ?_)
        ·
         refine rn Qb [4] [] (pc 2 (cb h12 (X1 n.2.2.2.1)) (pc 6 (cb h13 (Z2 n.2.2.2.2)) (pt 12 h14 (pt 17 h15 p0)))) ?_
         exact ⟨rfl, Qd (by rw [h12, h13, h14, h15]; first | done | kernel_rfl)⟩
        ·
         refine rn Qb [4] [] (pc 2 (cb h12 (X1 n.2.2.2.1)) (pc 6 (cb h13 (Z2 n.2.2.2.2)) (pt 12 h14 (pf 17 h15 p0)))) ?_
         exact ⟨rfl, Qd (by rw [h12, h13, h14, h15]; first | done | kernel_rfl)⟩
       ·
        refine rn Qb [4] [] (pc 2 (cb h12 (X1 n.2.2.2.1)) (pc 6 (cb h13 (Z2 n.2.2.2.2)) (pf 12 h14 p0))) ?_
        exact ⟨rfl, Qd (by rw [h12, h13, h14]; first | done | kernel_rfl)⟩
      ·
       refine rn Qb [4] [] (pc 2 (cb h12 (X1 n.2.2.2.1)) (pc 6 (cb h13 (Z2 n.2.2.2.2)) p0)) ?_
       exact ⟨rfl, Qd (by rw [h12, h13]; first | done | kernel_rfl)⟩
     ·
      refine rn Qb [4] [] (pc 2 (cb h12 (X1 n.2.2.2.1)) p0) ?_
      exact ⟨rfl, Qd (by rw [h12]; first | done | kernel_rfl)⟩
     refine Qf ?_
     exact pb [] (Qn h3 (Qn h4 (Qn h6 (Q8 h11 (rfl)))))
    ·
     refine tu Qb [(97, .b (n.1 == (5 : Int)))] [31] [] [] (p0) ?_
     refine ck (n.1 == (5 : Int)) (fun h16 => ?_) (fun h16 => ?_)
     ·
      refine Qe ?_
      refine jn [(4, .b (((Q6 n.2.1 0 (IntKind.i64.wrap (at_ - 1))) && decide (at_ > (0 : Int))) && ((n.2.2.1 == (0 : Int)) && ((n.2.2.2.1.toList == (⟨#[]⟩ : ByteArray).toList) && ((n.2.2.2.2.1 == 0) && ((n.2.2.2.2.2.1 == 0) && ((n.2.2.2.2.2.2.toList == (⟨#[]⟩ : ByteArray).toList) && true)))))))] [2, 4, 5, 6, 25, 97] [] [2] ((Q6 n.2.1 0 (IntKind.i64.wrap (at_ - 1))) && decide (at_ > (0 : Int))) (fun h17 => ?_) (fun h17 => ?_) ?_
      ·
       refine Xb (n.2.2.1 == (0 : Int)) (fun h18 => ?_) (fun h18 => ?_)
       ·
        refine Xb (n.2.2.2.1.toList == (⟨#[]⟩ : ByteArray).toList) (fun h19 => ?_) (fun h19 => ?_)
        ·
         refine rn Qb [4] [] (pt 0 h17 (pt 4 h18 (pt 9 h19 p0))) ?_
         exact ⟨rfl, Qd (by rw [h17, h18, h19]; first | done | kernel_rfl)⟩
        ·
         refine rn Qb [4] [] (pt 0 h17 (pt 4 h18 (pf 9 h19 p0))) ?_
         exact ⟨rfl, Qd (by rw [h17, h18, h19]; first | done | kernel_rfl)⟩
       ·
        refine rn Qb [4] [] (pt 0 h17 (pf 4 h18 p0)) ?_
        exact ⟨rfl, Qd (by rw [h17, h18]; first | done | kernel_rfl)⟩
      ·
       refine rn Qb [4] [] (pf 0 h17 p0) ?_
       exact ⟨rfl, Qd (by rw [h17]; first | done | kernel_rfl)⟩
      refine Qf ?_
      exact pb [] (Qn h3 (Qn h4 (Qn h6 (Qn h11 (Q8 h16 (rfl))))))
     ·
      refine Qe ?_
      refine sn Qb [2, 4, 6, 25, 116] [2] (p0) ?_
      refine mz [(116, .b (n.1 == (6 : Int)))] [5, 97] [] [] ?_
      refine jn [(116, .b (bif (n.1 == (6 : Int)) then (n.1 == (6 : Int)) else (n.1 == (7 : Int))))] [116] [] [] (n.1 == (6 : Int)) (fun h20 => ?_) (fun h20 => ?_) ?_
      ·
       refine ckt h20 ?_
       refine Qj ?_
       exact ⟨rfl, Qd (by rw [h20]; first | done | kernel_rfl)⟩
      ·
       refine ckf h20 ?_
       refine rn Qb [2, 4, 6, 25, 116] [2] (p0) ?_
       exact ⟨rfl, Qd (by rw [h20]; first | done | kernel_rfl)⟩
      refine ck (bif (n.1 == (6 : Int)) then (n.1 == (6 : Int)) else (n.1 == (7 : Int))) (fun h21 => ?_) (fun h21 => ?_)
      ·
       refine Qe ?_
       refine jn [(4, .b ((((Q6 n.2.1 0 (IntKind.i64.wrap (at_ - 1))) && decide (at_ > (0 : Int))) && (Q6 n.2.2.1 0 (IntKind.i64.wrap (at_ - 1)))) && ((n.2.2.2.1.toList == (⟨#[]⟩ : ByteArray).toList) && ((n.2.2.2.2.1 == 0) && ((n.2.2.2.2.2.1 == 0) && ((n.2.2.2.2.2.2.toList == (⟨#[]⟩ : ByteArray).toList) && true))))))] [2, 4, 6, 25, 116] [] [2] (((Q6 n.2.1 0 (IntKind.i64.wrap (at_ - 1))) && decide (at_ > (0 : Int))) && (Q6 n.2.2.1 0 (IntKind.i64.wrap (at_ - 1)))) (fun h22 => ?_) (fun h22 => ?_) ?_
       ·
        refine Xb (n.2.2.2.1.toList == (⟨#[]⟩ : ByteArray).toList) (fun h23 => ?_) (fun h23 => ?_)
        ·
         refine rn Qb [4] [] (pt 0 h22 (pt 4 h23 p0)) ?_
         exact ⟨rfl, Qd (by rw [h22, h23]; first | done | kernel_rfl)⟩
        ·
         refine rn Qb [4] [] (pt 0 h22 (pf 4 h23 p0)) ?_
         exact ⟨rfl, Qd (by rw [h22, h23]; first | done | kernel_rfl)⟩
       ·
        refine rn Qb [4] [] (pf 0 h22 p0) ?_
        exact ⟨rfl, Qd (by rw [h22]; first | done | kernel_rfl)⟩
       refine Qf ?_
       exact pb [] (Qn h3 (Qn h4 (Qn h6 (Qn h11 (Qn h16 (Q8 h21 (rfl)))))))
      ·
       refine Qe ?_
       refine sn Qb [2, 4, 25, 131] [2] (p0) ?_
       refine ck (n.1 == (8 : Int)) (fun h24 => ?_) (fun h24 => ?_)
       ·
        refine Qj ?_
        refine ckt h24 ?_
        refine Qe ?_
        refine mz [(131, .b (n.1 == (8 : Int)))] [6, 116] [] [] ?_
        refine jn [(4, .b ((Yh n.2.2.2.1) && ((n.1 == n.1) && ((n.2.1 == 0) && ((n.2.2.1 == 0) && ((n.2.2.2.1.toList == n.2.2.2.1.toList) && ((n.2.2.2.2.1 == 0) && ((n.2.2.2.2.2.1 == 0) && ((n.2.2.2.2.2.2.toList == (⟨#[]⟩ : ByteArray).toList) && true)))))))))] [2, 4, 25, 131] [] [2] (Yh n.2.2.2.1) (fun h25 => ?_) (fun h25 => ?_) ?_
        ·
         refine rn Qb [4] [] (pc 2 (cb h25 (Z5 n.2.2.2.1)) p0) ?_
         exact ⟨rfl, Qd (by rw [h25]; first | done | kernel_rfl)⟩
        ·
         refine rn Qb [4] [] (pc 2 (cb h25 (Z5 n.2.2.2.1)) p0) ?_
         exact ⟨rfl, Qd (by rw [h25]; first | done | kernel_rfl)⟩
        refine Qf ?_
        exact pb [] (Qn h3 (Qn h4 (Qn h6 (Qn h11 (Qn h16 (Qn h21 (Q8 h24 (rfl))))))))
       ·
        refine qn Qb [2, 4, 131] [2] (p0) ?_
        refine ck (n.1 == (9 : Int)) (fun h26 => ?_) (fun h26 => ?_)
        ·
         refine Qe ?_
         refine mz [(131, .b (n.1 == (9 : Int)))] [6, 25, 116] [] [] ?_
         refine jn [(4, .b ((Yh n.2.2.2.1) && ((n.1 == n.1) && ((n.2.1 == 0) && ((n.2.2.1 == 0) && ((n.2.2.2.1.toList == n.2.2.2.1.toList) && ((n.2.2.2.2.1 == 0) && ((n.2.2.2.2.2.1 == 0) && ((n.2.2.2.2.2.2.toList == (⟨#[]⟩ : ByteArray).toList) && true)))))))))] [2, 4, 131] [] [2] (Yh n.2.2.2.1) (fun h27 => ?_) (fun h27 => ?_) ?_
         ·
          refine rn Qb [4] [] (pc 2 (cb h27 (Z5 n.2.2.2.1)) p0) ?_
          exact ⟨rfl, Qd (by rw [h27]; first | done | kernel_rfl)⟩
         ·
          refine rn Qb [4] [] (pc 2 (cb h27 (Z5 n.2.2.2.1)) p0) ?_
          exact ⟨rfl, Qd (by rw [h27]; first | done | kernel_rfl)⟩
         refine Qf ?_
         exact pb [] (Qn h3 (Qn h4 (Qn h6 (Qn h11 (Qn h16 (Qn h21 (Qn h24 (Q8 h26 (rfl)))))))))
        ·
         refine Qj ?_
         refine tu Qb [] [2, 6, 25, 116] [] [2] (p0) ?_
         refine Qf ?_
         exact pb [] (Qn h3 (Qn h4 (Qn h6 (Qn h11 (Qn h16 (Qn h21 (Qn h24 (Qn h26 (rfl)))))))))
def Ua (at_ : Int) (_ : Nat) (a0 : X9) (s0 : Int) : Rd (Int) (Int) (Int) := (bif (bif ((a0.1 == (6 : Int)) || (a0.1 == (7 : Int))) then (a0.2.1 == at_) else ((a0.1 == (5 : Int)) && (a0.2.1 == at_))) then (bif (((a0.1 == (6 : Int)) || (a0.1 == (7 : Int))) && (a0.2.2.1 == at_)) then (.next (IntKind.i64.wrap (IntKind.i64.wrap (s0 + 1) + 1))) else (.next (IntKind.i64.wrap (s0 + 1)))) else (bif (((a0.1 == (6 : Int)) || (a0.1 == (7 : Int))) && (a0.2.2.1 == at_)) then (.next (IntKind.i64.wrap (s0 + 1))) else (.next s0)))
def Hp (_ : Nat) (s0 : Int) : Int := s0
def Vl (q : (List X9)) (at_ : Int) : Int := (Out.on (Xm (Ua at_) Hp q 0 0) (fun y0 => y0))
theorem Ln (q : (List X9)) (at_ : Int) : ACalls Tryz.prog 172 [.h q, .i at_] (.i (Vl q at_)) := by
 refine en Qb Tryz.func172 fun w0 F0 hG => ?_
 refine sn Qb [0, 1, 4] [] (p0) ?_
 refine tn Qb [0, 1, 4, 5] [] (p0) ?_
 refine Qe ?_
 refine tu Qb [(4, .i 0), (5, .i 0), (6, .i 0)] [] [] [] (p0) ?_
 refine wT 0 0 .sh q (fun hw1 hl2 => ?_)
 refine Mq (Ua at_) Hp q 0 (fun k0 s0 => [(5, .i s0), (6, .i ((k0 : Nat) : Int))]) [5, 6] (fun y0 => [(5, .i y0)]) [0, 1, 5, 6] (Qd (by kernel_rfl)) (fun k0 s0 hk0 hI0 => ?_) (fun k0 s0 hk0 hI0 => ?_) (fun y0 hD0 => ?_)
 ·
  obtain ⟨a0, hx0⟩ := Xk (l := q) (i := k0) hk0
  refine Qe ?_
  refine sn Qb [0, 1, 4, 5, 6, 11] [] (pl 2 q (pe 3 (Qs (decide_eq_true (p := ((k0 : Nat) : Int) < (q.length : Int)) (by omega))) p0)) ?_
  refine ckT ?_
  refine Qj ?_
  refine Qe ?_
  refine Qt ?_
  refine Qe ?_
  refine mz [(11, .b true)] [] [] [] ?_
  refine jn [(7, .b ((a0.1 == (6 : Int)) || (a0.1 == (7 : Int))))] [11] [] [] (a0.1 == (6 : Int)) (fun h3 => ?_) (fun h3 => ?_) ?_
  ·
   refine rn Qb [0, 1, 4, 5, 6, 7] [] (pn 2 hx0 (pt 5 h3 p0)) ?_
   exact ⟨rfl, Qd (by rw [h3]; first | done | kernel_rfl)⟩
  ·
   refine rn Qb [0, 1, 4, 5, 6, 7] [] (pn 2 hx0 (pf 5 h3 (pn 9 hx0 p0))) ?_
   exact ⟨rfl, Qd (by rw [h3]; first | done | kernel_rfl)⟩
  refine Qe ?_
  refine Qe ?_
  refine jn [(45, .b (bif ((a0.1 == (6 : Int)) || (a0.1 == (7 : Int))) then (a0.2.1 == at_) else ((a0.1 == (5 : Int)) && (a0.2.1 == at_))))] [] [] [] ((a0.1 == (6 : Int)) || (a0.1 == (7 : Int))) (fun h4 => ?_) (fun h4 => ?_) ?_
  ·
   refine rn Qb [0, 1, 4, 5, 6, 7, 45] [] (pt 0 h4 (pn 12 hx0 p0)) ?_
   exact ⟨rfl, Qd (by rw [h4]; first | done | kernel_rfl)⟩
  ·
   refine Xb (a0.1 == (5 : Int)) (fun h5 => ?_) (fun h5 => ?_)
   ·
    refine rn Qb [0, 1, 4, 5, 6, 7, 45] [] (pf 0 h4 (pn 4 hx0 (pt 7 h5 (pn 12 hx0 p0)))) ?_
    exact ⟨rfl, Qd (by rw [h4, h5]; first | done | kernel_rfl)⟩
   ·
    refine ru Qb [(45, .b false)] [] [] [] (pf 0 h4 (pn 4 hx0 (pf 7 h5 p0))) ?_
    exact ⟨rfl, Qd (by rw [h4, h5]; first | done | kernel_rfl)⟩
  refine ck (bif ((a0.1 == (6 : Int)) || (a0.1 == (7 : Int))) then (a0.2.1 == at_) else ((a0.1 == (5 : Int)) && (a0.2.1 == at_))) (fun h6 => ?_) (fun h6 => ?_)
  ·
   refine rn Qb [0, 1, 4, 5, 6, 7] [] (p0) ?_
   refine Qe ?_
   refine mz [(5, .i (IntKind.i64.wrap (s0 + 1)))] [5, 45] [] [] ?_
   refine jn [(57, .b (((a0.1 == (6 : Int)) || (a0.1 == (7 : Int))) && (a0.2.2.1 == at_)))] [7] [] [] ((a0.1 == (6 : Int)) || (a0.1 == (7 : Int))) (fun h7 => ?_) (fun h7 => ?_) ?_
   ·
    refine rn Qb [0, 1, 4, 5, 6, 57] [] (pt 0 h7 (pn 4 hx0 p0)) ?_
    exact ⟨rfl, Qd (by rw [h7]; first | done | kernel_rfl)⟩
   ·
    refine rn Qb [0, 1, 4, 5, 6, 57] [] (pf 0 h7 p0) ?_
    exact ⟨rfl, Qd (by rw [h7]; first | done | kernel_rfl)⟩
   refine ck (((a0.1 == (6 : Int)) || (a0.1 == (7 : Int))) && (a0.2.2.1 == at_)) (fun h8 => ?_) (fun h8 => ?_)
   ·
    have h8r : ((a0.2.2.1 == at_)) = true := HP h8
    have h8rd := eq_of_beq h8r
    refine rn Qb [0, 1, 4, 5, 6] [] (p0) ?_
    refine qn Qb [0, 1, 4, 5, 6] [] (pe 1 (Jb (Qv k0 (by omega))) p0) ?_
    exact Exists.intro _ (And.intro (Qd (by kernel_rfl)) (Qz hx0 (Q8 h6 (Q8 h8 (rfl))) hI0))
   ·
    refine Qj ?_
    refine rn Qb [0, 1, 4, 5, 6] [] (pe 1 (Jb (Qv k0 (by omega))) p0) ?_
    exact Exists.intro _ (And.intro (Qd (by kernel_rfl)) (Qz hx0 (Q8 h6 (Qn h8 (rfl))) hI0))
  ·
   refine Qj ?_
   refine Qe ?_
   refine jn [(57, .b (((a0.1 == (6 : Int)) || (a0.1 == (7 : Int))) && (a0.2.2.1 == at_)))] [7, 45] [] [] ((a0.1 == (6 : Int)) || (a0.1 == (7 : Int))) (fun h9 => ?_) (fun h9 => ?_) ?_
   ·
    refine rn Qb [0, 1, 4, 5, 6, 57] [] (pt 0 h9 (pn 4 hx0 p0)) ?_
    exact ⟨rfl, Qd (by rw [h9]; first | done | kernel_rfl)⟩
   ·
    refine rn Qb [0, 1, 4, 5, 6, 57] [] (pf 0 h9 p0) ?_
    exact ⟨rfl, Qd (by rw [h9]; first | done | kernel_rfl)⟩
   refine ck (((a0.1 == (6 : Int)) || (a0.1 == (7 : Int))) && (a0.2.2.1 == at_)) (fun h10 => ?_) (fun h10 => ?_)
   ·
    have h10r : ((a0.2.2.1 == at_)) = true := HP h10
    have h10rd := eq_of_beq h10r
    refine rn Qb [0, 1, 4, 5, 6] [] (p0) ?_
    refine qn Qb [0, 1, 4, 5, 6] [] (pe 1 (Jb (Qv k0 (by omega))) p0) ?_
    exact Exists.intro _ (And.intro (Qd (by kernel_rfl)) (Qz hx0 (Qn h6 (Q8 h10 (rfl))) hI0))
   ·
    refine Qj ?_
    refine rn Qb [0, 1, 4, 5, 6] [] (pe 1 (Jb (Qv k0 (by omega))) p0) ?_
    exact Exists.intro _ (And.intro (Qd (by kernel_rfl)) (Qz hx0 (Qn h6 (Qn h10 (rfl))) hI0))
 ·
  refine Qe ?_
  refine sn Qb [0, 1, 4, 5, 6, 11] [] (pl 2 q (pe 3 (Qs (decide_eq_false (p := ((k0 : Nat) : Int) < (q.length : Int)) (by omega))) p0)) ?_
  refine ckF ?_
  refine Q3 ?_
  exact Exists.intro _ (And.intro (Qd (by kernel_rfl)) (Xl hk0 (rfl) hI0))
 ·
  refine sn Qb [4] [] (p0) ?_
  refine Qf ?_
  exact pi [] (Wf hD0 (rfl))
def W0 (q : (List X9)) (k0 : Nat) (a0 : X9) (_ : Unit) : Rd (Bool) (Unit) (Unit) := (bif ((!(K8 a0 ((k0 : Nat) : Int))) || (decide (((k0 : Nat) : Int) < ((q.length : Int) - 1)) && ((Vl q ((k0 : Nat) : Int)) != (1 : Int)))) then (.ret false) else (.next ()))
def U9 (_ : Nat) (_ : Unit) : Unit := ()
def Yw (q : (List X9)) : Bool := (Out.on (Xm (W0 q) U9 q 0 ()) (fun _ => (Q6 (q.length : Int) 1 9)))
theorem V0 (q : (List X9)) : ACalls Tryz.prog 156 [.h q] (.b (Yw q)) := by
 refine en Qb Tryz.func156 fun w0 F0 hG => ?_
 refine sn Qb [0, 2] [] (p0) ?_
 refine Qe ?_
 refine tn Qb [0, 2, 3] [] (p0) ?_
 refine mz [(2, .b false), (3, .i 0)] [] [] [] ?_
 refine wT 0 0 .sh q (fun hw1 hl2 => ?_)
 refine Mq (W0 q) U9 q () (fun k0 _ => [(3, .i ((k0 : Nat) : Int))]) [3] (fun _ => []) [3] (Qd (by kernel_rfl)) (fun k0 s0 hk0 hI0 => ?_) (fun k0 s0 hk0 hI0 => ?_) (fun y0 hD0 => ?_)
 ·
  obtain ⟨a0, hx0⟩ := Xk (l := q) (i := k0) hk0
  refine Qe ?_
  refine sn Qb [0, 2, 3, 7] [] (pl 2 q (pe 3 (Qs (decide_eq_true (p := ((k0 : Nat) : Int) < (q.length : Int)) (by omega))) p0)) ?_
  refine ckT ?_
  refine Qj ?_
  refine Qe ?_
  refine Qt ?_
  refine Qe ?_
  refine mz [(7, .b true)] [] [] [] ?_
  refine jn [(29, .b ((!(K8 a0 ((k0 : Nat) : Int))) || (decide (((k0 : Nat) : Int) < ((q.length : Int) - 1)) && ((Vl q ((k0 : Nat) : Int)) != (1 : Int)))))] [7] [] [] (!(K8 a0 ((k0 : Nat) : Int))) (fun h3 => ?_) (fun h3 => ?_) ?_
  ·
   have h3n : (K8 a0 ((k0 : Nat) : Int)) = false := Wz h3
   refine rn Qb [0, 2, 3, 29] [] (pn 2 hx0 (pc 5 (cb h3n (Df a0 ((k0 : Nat) : Int))) (pe 6 (show .b (!false) = .b true from rfl) p0))) ?_
   exact ⟨rfl, Qd (by rw [h3]; first | done | kernel_rfl)⟩
  ·
   have h3n : (K8 a0 ((k0 : Nat) : Int)) = true := Je h3
   refine Xb (decide (((k0 : Nat) : Int) < ((q.length : Int) - 1))) (fun h4 => ?_) (fun h4 => ?_)
   ·
    have h4d := of_decide_eq_true h4
    refine rn Qb [0, 2, 3, 29] [] (pn 2 hx0 (pc 5 (cb h3n (Df a0 ((k0 : Nat) : Int))) (pe 6 (show .b (!true) = .b false from rfl) (pl 10 q (pe 11 (Jb (IntWalk.i64_in ((q.length : Int) - 1) (by omega))) (pt 12 h4 (pc 16 (Ln q ((k0 : Nat) : Int)) p0))))))) ?_
    exact ⟨rfl, Qd (by rw [h3, h4]; first | done | kernel_rfl)⟩
   ·
    have h4d := of_decide_eq_false h4
    refine rn Qb [0, 2, 3, 29] [] (pn 2 hx0 (pc 5 (cb h3n (Df a0 ((k0 : Nat) : Int))) (pe 6 (show .b (!true) = .b false from rfl) (pl 10 q (pe 11 (Jb (IntWalk.i64_in ((q.length : Int) - 1) (by omega))) (pf 12 h4 p0)))))) ?_
    exact ⟨rfl, Qd (by rw [h3, h4]; first | done | kernel_rfl)⟩
  refine ck ((!(K8 a0 ((k0 : Nat) : Int))) || (decide (((k0 : Nat) : Int) < ((q.length : Int) - 1)) && ((Vl q ((k0 : Nat) : Int)) != (1 : Int)))) (fun h5 => ?_) (fun h5 => ?_)
  ·
   refine sn Qb [0, 2, 3] [] (p0) ?_
   refine Qf ?_
   have hr6 : (Xm (W0 q) U9 q 0 ()) = .ret false := Z1 hx0 (Q8 h5 (rfl)) hI0
   exact pb [] (Gu hr6)
  ·
   refine Qj ?_
   refine rn Qb [0, 2, 3] [] (pe 1 (Jb (Qv k0 (by omega))) p0) ?_
   exact Exists.intro _ (And.intro (Qd (by kernel_rfl)) (Qz hx0 (Qn h5 (rfl)) hI0))
 ·
  refine Qe ?_
  refine sn Qb [0, 2, 3, 7] [] (pl 2 q (pe 3 (Qs (decide_eq_false (p := ((k0 : Nat) : Int) < (q.length : Int)) (by omega))) p0)) ?_
  refine ckF ?_
  refine Q3 ?_
  exact Exists.intro _ (And.intro (Qd (by kernel_rfl)) (Xl hk0 (rfl) hI0))
 ·
  refine sn Qb [2] [] (pl 1 q (pc 2 (Zb (q.length : Int) 1 9) p0)) ?_
  refine Qf ?_
  exact pb [] (Wf hD0 (rfl))
end Go.Proofs.YtockoklfegpgeaaGreat
namespace Go.Proofs.YtockoklfegpgeaaGreat
open Go.RowKit
theorem On (a b c : Int) : Yx a b c = Q6 a b c := rfl
theorem Mh {a b c : Int} : Yx a b c = true ↔ b ≤ a ∧ a ≤ c := by simp [Yx]
theorem D1 {a b c : Int} : Q6 a b c = true ↔ b ≤ a ∧ a ≤ c := by simp [Q6]
theorem GQ (s : ByteArray) : Y6 s = Yh s := rfl
theorem BP (s : ByteArray) : Yq s = Xr s := by
  unfold Yq Xr Dd
  by_cases h : s.size = 1
  · simp only [h, Int.toNat_natCast, Vz, Uw]
    by_cases h1 : Ac s 0 < 97 <;> by_cases h2 : Ac s 0 > 122 <;> simp [h1, h2, Out.on, Q6, Hh] <;> omega
  · have h1 : ((s.size : Int) == 1) = false := by simpa using fun e : (s.size : Int) = 1 => h (by omega)
    have h2 : Q6 (s.size : Int) 1 1 = false := by simp [Q6]; omega
    rw [h1, h2, Bool.false_and]
    cases hf : Vz (Uw s) Hh (Int.toNat (s.size : Int)) 0 () with
    | brk t => rfl
    | ret r =>
      have key : ∀ n k, ∀ r, Vz (Uw s) Hh n k () = .ret r → r = false := by
        intro n
        induction n with
        | zero => intro k r h; simp [Vz] at h
        | succ n ih =>
          intro k r h
          simp only [Vz, Uw] at h
          cases hc : (decide (Ac s ((k : Nat) : Int) < (97 : Int)) || decide (Ac s ((k : Nat) : Int) > (122 : Int))) with
          | true => rw [hc] at h; simp only [cond_true] at h; cases h; rfl
          | false => rw [hc] at h; exact ih _ _ h
      exact (key _ _ _ hf).symm
theorem GR (v : Wg) : Ks v = Jc v := rfl
theorem NJ (n : X9) (k : Int) : Zk n k = K8 n k := by
  unfold Zk K8
  rw [BP, GR, GQ]
  simp only [On]
  by_cases h1 : n.1 = 1
  · simp [h1]
  by_cases h2 : n.1 = 2
  · simp [h1, h2, Bool.and_comm]
  by_cases h3 : n.1 = 3
  · simp [h1, h2, h3]; ac_rfl
  by_cases h4 : n.1 = 4
  · simp [h1, h2, h3, h4]; cases h : (n.2.2.2.2.1 == 1) <;> simp_all <;> ac_rfl
  by_cases h5 : n.1 = 5
  · simp [h1, h2, h3, h4, h5]; ac_rfl
  by_cases h6 : n.1 = 6
  · simp [h1, h2, h3, h4, h5, h6]; ac_rfl
  by_cases h7 : n.1 = 7
  · simp [h1, h2, h3, h4, h5, h6, h7]; ac_rfl
  by_cases h8 : n.1 = 8
  · simp [h1, h2, h3, h4, h5, h6, h7, h8, Bool.and_comm]
  by_cases h9 : n.1 = 9
  · simp [h1, h2, h3, h4, h5, h6, h7, h8, h9, Bool.and_comm]
  simp only [beq_eq_false_iff_ne.2 h1, beq_eq_false_iff_ne.2 h2, beq_eq_false_iff_ne.2 h3, beq_eq_false_iff_ne.2 h4, beq_eq_false_iff_ne.2 h5, beq_eq_false_iff_ne.2 h6, beq_eq_false_iff_ne.2 h7, beq_eq_false_iff_ne.2 h8, beq_eq_false_iff_ne.2 h9, cond_false]
theorem SP (q : List X9) (k : Int) : Jm q k = Vl q k := by
  unfold Jm Vl
  rw [Ia (f := Jx k) (g := Ua k) (e := W9) (e' := Hp) (fun i a s => by
    unfold Jx Ua
    cases (a.2.1 == k) <;> cases (a.2.2.1 == k) <;> cases (a.1 == 6) <;> cases (a.1 == 7) <;> cases (a.1 == 5) <;> rfl) (fun _ _ => rfl)]
theorem NK (q : List X9) : Q1 q = Yw q := by
  unfold Q1 Yw
  rw [Ia (f := Y7 q) (g := W0 q) (e := Kz) (e' := U9) (fun i a s => by
    unfold Y7 W0
    rw [NJ, SP]) (fun _ _ => rfl)]
  rfl
theorem Nl {q : List X9} (h : Yw q = true) : Q1 q = true := (NK q).trans h
theorem GS {q : List X9} (h : Q1 q = true) : (∃ t, Xm (Y7 q) Kz q 0 () = .brk t) ∧ Yx (q.length : Int) 1 9 = true := by
  unfold Q1 at h
  cases hf : Xm (Y7 q) Kz q 0 () with
  | brk t => rw [hf] at h; exact ⟨⟨t, rfl⟩, h⟩
  | ret r =>
    rw [hf] at h
    obtain rfl : r = true := h
    exfalso
    have key : ∀ (l : List X9) k, Xm (Y7 q) Kz l k () ≠ .ret true := by
      intro l
      induction l with
      | nil => intro k h; simp [Xm] at h
      | cons a l ih =>
        intro k h
        simp only [Xm] at h
        unfold Y7 at h
        split at h
        · rename_i hf; exact ih _ h
        · cases h
        · rename_i r hf; cases h; revert hf; generalize (_ || _ : Bool) = c; cases c <;> simp
    exact key _ _ hf
theorem Tk {q : List X9} (h : Q1 q = true) : 1 ≤ q.length ∧ q.length ≤ 9 := by
  have := Mh.1 (GS h).2
  omega
theorem HU {q : List X9} (h : Q1 q = true) {i : Nat} {n : X9} (hi : q[i]? = some n) : Zk n (i : Int) = true := by
  obtain ⟨⟨t, ht⟩, _⟩ := GS h
  have := Fs (fun k a t => by unfold Y7; generalize (_ || _ : Bool) = c; cases c <;> simp) ht i n hi
  unfold Y7 at this
  rw [Nat.zero_add] at this
  cases hn : Zk n (i : Int) with
  | true => rfl
  | false => rw [hn] at this; simp at this
theorem SQ {n : X9} {k : Int} (h : Zk n k = true) (hk : 0 ≤ k ∧ k < 4611686018427387904) : (n.1 = 5 ∨ n.1 = 6 ∨ n.1 = 7 → 0 ≤ n.2.1 ∧ n.2.1 < k) ∧ (n.1 = 6 ∨ n.1 = 7 → 0 ≤ n.2.2.1 ∧ n.2.2.1 < k) := by
  have hw : IntKind.i64.wrap (k - 1) = k - 1 := IntWalk.i64_in _ (by omega)
  unfold Zk at h
  rw [hw] at h
  refine ⟨fun h5 => ?_, fun h5 => ?_⟩
  · rcases h5 with h5 | h5 | h5 <;> (simp [h5, Yx] at h; omega)
  · rcases h5 with h5 | h5 <;> (simp [h5, Yx] at h; omega)
theorem Ea {q : List X9} (h : Q1 q = true) {k : Int} (ha : 0 ≤ k) (hb : k < (q.length : Int)) :
    ((nth q (Int.toNat k)).1 = 5 ∨ (nth q (Int.toNat k)).1 = 6 ∨ (nth q (Int.toNat k)).1 = 7 → 0 ≤ (nth q (Int.toNat k)).2.1 ∧ (nth q (Int.toNat k)).2.1 < k) ∧ ((nth q (Int.toNat k)).1 = 6 ∨ (nth q (Int.toNat k)).1 = 7 → 0 ≤ (nth q (Int.toNat k)).2.2.1 ∧ (nth q (Int.toNat k)).2.2.1 < k) := by
  have hi : q[Int.toNat k]? = some (nth q (Int.toNat k)) := Ho (by omega)
  have := HU h hi
  rw [Int.toNat_of_nonneg ha] at this
  exact SQ this ⟨ha, by have := (Tk h).2; omega⟩
section
variable {q : List X9} {k : Int} (h : Q1 q = true) (ha : 0 ≤ k) (hb : k < (q.length : Int))
include h ha hb
theorem PH (h5 : ((nth q (Int.toNat k)).1 == (5 : Int)) = true) : 0 ≤ (nth q (Int.toNat k)).2.1 ∧ (nth q (Int.toNat k)).2.1 < k := (Ea h ha hb).1 (.inl (eq_of_beq h5))
theorem BQ (h5 : ((nth q (Int.toNat k)).1 == (6 : Int)) = true) : 0 ≤ (nth q (Int.toNat k)).2.1 ∧ (nth q (Int.toNat k)).2.1 < k := (Ea h ha hb).1 (.inr (.inl (eq_of_beq h5)))
theorem DX (h5 : ((nth q (Int.toNat k)).1 == (7 : Int)) = true) : 0 ≤ (nth q (Int.toNat k)).2.1 ∧ (nth q (Int.toNat k)).2.1 < k := (Ea h ha hb).1 (.inr (.inr (eq_of_beq h5)))
theorem PI (h5 : ((nth q (Int.toNat k)).1 == (6 : Int)) = true) : 0 ≤ (nth q (Int.toNat k)).2.2.1 ∧ (nth q (Int.toNat k)).2.2.1 < k := (Ea h ha hb).2 (.inl (eq_of_beq h5))
theorem SR (h5 : ((nth q (Int.toNat k)).1 == (7 : Int)) = true) : 0 ≤ (nth q (Int.toNat k)).2.2.1 ∧ (nth q (Int.toNat k)).2.2.1 < k := (Ea h ha hb).2 (.inr (eq_of_beq h5))
theorem PJ (h5 : (((nth q (Int.toNat k)).1 == (6 : Int)) || ((nth q (Int.toNat k)).1 == (7 : Int))) = true) : (0 ≤ (nth q (Int.toNat k)).2.1 ∧ (nth q (Int.toNat k)).2.1 < k) ∧ (0 ≤ (nth q (Int.toNat k)).2.2.1 ∧ (nth q (Int.toNat k)).2.2.1 < k) := by
  have h6 : (nth q (Int.toNat k)).1 = 6 ∨ (nth q (Int.toNat k)).1 = 7 := by simpa using h5
  exact ⟨(Ea h ha hb).1 (.inr h6), (Ea h ha hb).2 h6⟩
end
open GoE (enc wide)
def Ze (q : (List X9)) (k0 : Nat) (s0 : (List Bool)) : Rd ((List Bool)) ((List Bool)) ((List Bool)) := (bif ((nth q (Int.toNat (dn ((q.length : Int) - 1) k0))).1 == (5 : Int)) then (.next (List.set s0 (Int.toNat ((nth q (Int.toNat (dn ((q.length : Int) - 1) k0))).2.1)) ((nth s0 (Int.toNat (dn ((q.length : Int) - 1) k0))) || ((nth q (Int.toNat (dn ((q.length : Int) - 1) k0))).1 == (5 : Int))))) else (bif ((nth q (Int.toNat (dn ((q.length : Int) - 1) k0))).1 == (6 : Int)) then (.next (List.set (List.set s0 (Int.toNat ((nth q (Int.toNat (dn ((q.length : Int) - 1) k0))).2.1)) ((nth s0 (Int.toNat (dn ((q.length : Int) - 1) k0))) || ((nth q (Int.toNat (dn ((q.length : Int) - 1) k0))).1 == (5 : Int)))) (Int.toNat ((nth q (Int.toNat (dn ((q.length : Int) - 1) k0))).2.2.1)) ((nth s0 (Int.toNat (dn ((q.length : Int) - 1) k0))) || ((nth q (Int.toNat (dn ((q.length : Int) - 1) k0))).1 == (5 : Int))))) else (bif ((nth q (Int.toNat (dn ((q.length : Int) - 1) k0))).1 == (7 : Int)) then (.next (List.set (List.set s0 (Int.toNat ((nth q (Int.toNat (dn ((q.length : Int) - 1) k0))).2.1)) ((nth s0 (Int.toNat (dn ((q.length : Int) - 1) k0))) || ((nth q (Int.toNat (dn ((q.length : Int) - 1) k0))).1 == (5 : Int)))) (Int.toNat ((nth q (Int.toNat (dn ((q.length : Int) - 1) k0))).2.2.1)) ((nth s0 (Int.toNat (dn ((q.length : Int) - 1) k0))) || ((nth q (Int.toNat (dn ((q.length : Int) - 1) k0))).1 == (5 : Int))))) else (.next s0))))
def W1 (_ : Nat) (s0 : (List Bool)) : (List Bool) := s0
def Xo (q : (List X9)) : (List Bool) := (bif (!(Q1 q)) then [] else (Out.on (Vz (Ze q) W1 (List.length q) 0 (List.replicate (Int.toNat (q.length : Int)) false)) (fun y0 => y0)))
theorem Oo (q : (List X9)) : ACalls Tryz.prog 186 [.h q] (.o 0 (Xo q)) := by
 refine en Qb Tryz.func186 fun w0 F0 hG => ?_
 refine sn Qb [0, 2] [] (p0) ?_
 refine Qe ?_
 refine tn Qb [0, 2, 8] [] (pc 1 (Ug q) p0) ?_
 refine ck (!(Q1 q)) (fun h1 => ?_) (fun h1 => ?_)
 ·
  refine tu Qb [(2, .e 0)] [] [] [] (p0) ?_
  refine opn [(false, 2, 0, true, 384000, 1)] ?_
  refine Qf ?_
  exact po0 [] (Q8 h1 (rfl))
 ·
  have h1n : (Q1 q) = true := Je h1
  refine Qj ?_
  refine wT 0 0 .sh q (fun hw2 hl3 => ?_)
  refine tu Qb [(2, .e 0), (3, .one (.slc (.own true 704) 1 (List.replicate (Int.toNat (q.length : Int)) [.b false])))] [] [] [] (pl 1 q (px (Ek (lo := 0) (hi := (q.length : Int)) (n := 1073741824) (⟨by omega, by omega, by omega⟩)) p0)) ?_
  refine eqn [(3, .o 704 (List.replicate (Int.toNat (q.length : Int)) false))] [3] [] [] (by rw [show (List.replicate (Int.toNat (q.length : Int)) [.b false]) = (eL (List.replicate (Int.toNat (q.length : Int)) false)) from NF _ false]; first | done | kernel_rfl) ?_
  refine Qe ?_
  refine sn Qb [0, 2, 3, 4] [] (pl 1 q (pe 2 (Jb (IntWalk.i64_in ((q.length : Int) - 1) (by omega))) p0)) ?_
  refine mz [(4, .i ((q.length : Int) - 1))] [] [] [] ?_
  refine Qbq (Ze q) W1 (List.length q) (List.replicate (Int.toNat (q.length : Int)) false) (fun k0 s0 => [(3, .o 704 s0), (4, .i (dn ((q.length : Int) - 1) k0))]) [3, 4] (fun y0 => [(3, .o 704 y0)]) [0, 3, 4] (fun _ s0 => List.length s0 = (Int.toNat (q.length : Int))) (fun y0 => List.length y0 = (Int.toNat (q.length : Int))) (Qd (by kernel_rfl)) (by simp) (fun k0 s0 hk0 hI0 => ?_) (fun k0 s0 hk0 hI0 => ?_) (fun y0 hD0 => ?_)
  ·
   have hA0_0 := hI0.2
   have hdn0 := HN ((q.length : Int) - 1) k0
   refine Qe ?_
   refine sn Qb [0, 2, 3, 4, 16] [] (pe 1 (Qs (decide_eq_true (p := (dn ((q.length : Int) - 1) k0) ≥ (0 : Int)) (by omega))) p0) ?_
   refine ckT ?_
   refine Qj ?_
   refine Qe ?_
   refine Qt ?_
   refine Qe ?_
   refine mz [(16, .b true)] [] [] [] ?_
   refine jn [(5, .b ((nth s0 (Int.toNat (dn ((q.length : Int) - 1) k0))) || ((nth q (Int.toNat (dn ((q.length : Int) - 1) k0))).1 == (5 : Int))))] [16] [] [] (nth s0 (Int.toNat (dn ((q.length : Int) - 1) k0))) (fun h4 => ?_) (fun h4 => ?_) ?_
   ·
    refine wT 3 0 (.own true 704) s0 (fun hw6 hl7 => ?_)
    have hx5 := ng s0 (Int.toNat (dn ((q.length : Int) - 1) k0))
    refine rn Qb [0, 2, 3, 4, 5] [] (pG 2 (dn ((q.length : Int) - 1) k0) hx5 (pt 3 h4 p0)) ?_
    exact ⟨rfl, Qd (by rw [h4]; first | done | kernel_rfl)⟩
   ·
    refine wT 3 0 (.own true 704) s0 (fun hw9 hl10 => ?_)
    have hx8 := ng s0 (Int.toNat (dn ((q.length : Int) - 1) k0))
    have hx11 := ng q (Int.toNat (dn ((q.length : Int) - 1) k0))
    refine rn Qb [0, 2, 3, 4, 5] [] (pG 2 (dn ((q.length : Int) - 1) k0) hx8 (pf 3 h4 (pg 7 (dn ((q.length : Int) - 1) k0) hx11 p0))) ?_
    exact ⟨rfl, Qd (by rw [h4]; first | done | kernel_rfl)⟩
   have hx12 := ng q (Int.toNat (dn ((q.length : Int) - 1) k0))
   refine sn Qb [0, 2, 3, 4, 5, 35] [] (pg 2 (dn ((q.length : Int) - 1) k0) hx12 p0) ?_
   refine Qt ?_
   refine tn Qb [0, 2, 3, 4, 5, 35, 36] [] (p0) ?_
   refine ck ((nth q (Int.toNat (dn ((q.length : Int) - 1) k0))).1 == (5 : Int)) (fun h13 => ?_) (fun h13 => ?_)
   ·
    have h13k := PH h1n (by omega) (by omega) h13
    have h13d := eq_of_beq h13
    refine wT 3 0 (.own true 704) s0 (fun hw15 hl16 => ?_)
    have hx14 := ng s0 (Int.toNat ((nth q (Int.toNat (dn ((q.length : Int) - 1) k0))).2.1))
    refine qu Qb [(3, .one (.slc (.own true 704) 1 (setRow (eL s0) (Int.toNat ((nth q (Int.toNat (dn ((q.length : Int) - 1) k0))).2.1)) 0 [.b ((nth s0 (Int.toNat (dn ((q.length : Int) - 1) k0))) || ((nth q (Int.toNat (dn ((q.length : Int) - 1) k0))).1 == (5 : Int)))])))] [3, 5] [] [] (pg 3 (dn ((q.length : Int) - 1) k0) hx12 (pG 7 ((nth q (Int.toNat (dn ((q.length : Int) - 1) k0))).2.1) hx14 p0)) ?_
    refine eqn [(3, .o 704 (List.set s0 (Int.toNat ((nth q (Int.toNat (dn ((q.length : Int) - 1) k0))).2.1)) ((nth s0 (Int.toNat (dn ((q.length : Int) - 1) k0))) || ((nth q (Int.toNat (dn ((q.length : Int) - 1) k0))).1 == (5 : Int)))))] [3] [] [] (by rw [Z0 (y := ((nth s0 (Int.toNat (dn ((q.length : Int) - 1) k0))) || ((nth q (Int.toNat (dn ((q.length : Int) - 1) k0))).1 == (5 : Int)))) hx14 rfl]; first | done | kernel_rfl) ?_
    refine rn Qb [0, 2, 3, 4] [] (pe 1 (show .i (IntKind.i64.wrap ((dn ((q.length : Int) - 1) k0) - 1)) = .i (dn ((q.length : Int) - 1) (k0 + 1)) from Jb (show IntKind.i64.wrap ((dn ((q.length : Int) - 1) k0) - 1) = (dn ((q.length : Int) - 1) (k0 + 1)) from IntWalk.i64_in ((dn ((q.length : Int) - 1) k0) - 1) (by omega))) p0) ?_
    exact Exists.intro (List.set s0 (Int.toNat ((nth q (Int.toNat (dn ((q.length : Int) - 1) k0))).2.1)) ((nth s0 (Int.toNat (dn ((q.length : Int) - 1) k0))) || ((nth q (Int.toNat (dn ((q.length : Int) - 1) k0))).1 == (5 : Int)))) (And.intro (Qd (by kernel_rfl)) ⟨K3 hk0 (Q8 h13 (rfl)) hI0.1, (by first | omega | (simp only [List.length_set]; omega))⟩)
   ·
    have h13d := Yb h13
    refine Qe ?_
    refine tu Qb [(35, .i ((nth q (Int.toNat (dn ((q.length : Int) - 1) k0))).1)), (46, .b ((nth q (Int.toNat (dn ((q.length : Int) - 1) k0))).1 == (6 : Int)))] [] [] [] (p0) ?_
    refine ck ((nth q (Int.toNat (dn ((q.length : Int) - 1) k0))).1 == (6 : Int)) (fun h17 => ?_) (fun h17 => ?_)
    ·
     have h17k := BQ h1n (by omega) (by omega) h17; have h17m := PI h1n (by omega) (by omega) h17
     have h17d := eq_of_beq h17
     refine Qj ?_
     refine ckt h17 ?_
     refine wT 3 0 (.own true 704) s0 (fun hw19 hl20 => ?_)
     have hx18 := ng s0 (Int.toNat ((nth q (Int.toNat (dn ((q.length : Int) - 1) k0))).2.1))
     have hx21 : (List.set s0 (Int.toNat ((nth q (Int.toNat (dn ((q.length : Int) - 1) k0))).2.1)) ((nth s0 (Int.toNat (dn ((q.length : Int) - 1) k0))) || ((nth q (Int.toNat (dn ((q.length : Int) - 1) k0))).1 == (5 : Int))))[(Int.toNat ((nth q (Int.toNat (dn ((q.length : Int) - 1) k0))).2.2.1))]? = some (nth (List.set s0 (Int.toNat ((nth q (Int.toNat (dn ((q.length : Int) - 1) k0))).2.1)) ((nth s0 (Int.toNat (dn ((q.length : Int) - 1) k0))) || ((nth q (Int.toNat (dn ((q.length : Int) - 1) k0))).1 == (5 : Int)))) (Int.toNat ((nth q (Int.toNat (dn ((q.length : Int) - 1) k0))).2.2.1))) := Ho (by first | omega | (simp only [List.length_set]; omega))
     refine rU Qb Yn [(3, .one (.slc (.own true 704) 1 (setRow (setRow (eL s0) (Int.toNat ((nth q (Int.toNat (dn ((q.length : Int) - 1) k0))).2.1)) 0 [.b ((nth s0 (Int.toNat (dn ((q.length : Int) - 1) k0))) || ((nth q (Int.toNat (dn ((q.length : Int) - 1) k0))).1 == (5 : Int)))]) (Int.toNat ((nth q (Int.toNat (dn ((q.length : Int) - 1) k0))).2.2.1)) 0 [.b ((nth s0 (Int.toNat (dn ((q.length : Int) - 1) k0))) || ((nth q (Int.toNat (dn ((q.length : Int) - 1) k0))).1 == (5 : Int)))])))] [3, 5, 35, 46] [] [] (pg 3 (dn ((q.length : Int) - 1) k0) hx12 (pg 9 (dn ((q.length : Int) - 1) k0) hx12 (pG 14 ((nth q (Int.toNat (dn ((q.length : Int) - 1) k0))).2.1) hx18 (pR 16 (l := (setRow (eL s0) (Int.toNat ((nth q (Int.toNat (dn ((q.length : Int) - 1) k0))).2.1)) 0 [.b ((nth s0 (Int.toNat (dn ((q.length : Int) - 1) k0))) || ((nth q (Int.toNat (dn ((q.length : Int) - 1) k0))).1 == (5 : Int)))])) (j := ((nth q (Int.toNat (dn ((q.length : Int) - 1) k0))).2.2.1)) (r := [.b (nth (List.set s0 (Int.toNat ((nth q (Int.toNat (dn ((q.length : Int) - 1) k0))).2.1)) ((nth s0 (Int.toNat (dn ((q.length : Int) - 1) k0))) || ((nth q (Int.toNat (dn ((q.length : Int) - 1) k0))).1 == (5 : Int)))) (Int.toNat ((nth q (Int.toNat (dn ((q.length : Int) - 1) k0))).2.2.1)))]) (by rw [Z0 (y := ((nth s0 (Int.toNat (dn ((q.length : Int) - 1) k0))) || ((nth q (Int.toNat (dn ((q.length : Int) - 1) k0))).1 == (5 : Int)))) hx18 rfl]; exact DP (by omega) rfl hx21) p0)))) ?_
     refine eqn [(3, .o 704 (List.set (List.set s0 (Int.toNat ((nth q (Int.toNat (dn ((q.length : Int) - 1) k0))).2.1)) ((nth s0 (Int.toNat (dn ((q.length : Int) - 1) k0))) || ((nth q (Int.toNat (dn ((q.length : Int) - 1) k0))).1 == (5 : Int)))) (Int.toNat ((nth q (Int.toNat (dn ((q.length : Int) - 1) k0))).2.2.1)) ((nth s0 (Int.toNat (dn ((q.length : Int) - 1) k0))) || ((nth q (Int.toNat (dn ((q.length : Int) - 1) k0))).1 == (5 : Int)))))] [3] [] [] (by rw [Z0 (y := ((nth s0 (Int.toNat (dn ((q.length : Int) - 1) k0))) || ((nth q (Int.toNat (dn ((q.length : Int) - 1) k0))).1 == (5 : Int)))) hx18 rfl, Z0 (y := ((nth s0 (Int.toNat (dn ((q.length : Int) - 1) k0))) || ((nth q (Int.toNat (dn ((q.length : Int) - 1) k0))).1 == (5 : Int)))) hx21 rfl]; first | done | kernel_rfl) ?_
     refine rn Qb [0, 2, 3, 4] [] (pe 1 (show .i (IntKind.i64.wrap ((dn ((q.length : Int) - 1) k0) - 1)) = .i (dn ((q.length : Int) - 1) (k0 + 1)) from Jb (show IntKind.i64.wrap ((dn ((q.length : Int) - 1) k0) - 1) = (dn ((q.length : Int) - 1) (k0 + 1)) from IntWalk.i64_in ((dn ((q.length : Int) - 1) k0) - 1) (by omega))) p0) ?_
     exact Exists.intro (List.set (List.set s0 (Int.toNat ((nth q (Int.toNat (dn ((q.length : Int) - 1) k0))).2.1)) ((nth s0 (Int.toNat (dn ((q.length : Int) - 1) k0))) || ((nth q (Int.toNat (dn ((q.length : Int) - 1) k0))).1 == (5 : Int)))) (Int.toNat ((nth q (Int.toNat (dn ((q.length : Int) - 1) k0))).2.2.1)) ((nth s0 (Int.toNat (dn ((q.length : Int) - 1) k0))) || ((nth q (Int.toNat (dn ((q.length : Int) - 1) k0))).1 == (5 : Int)))) (And.intro (Qd (by kernel_rfl)) ⟨K3 hk0 (Qn h13 (Q8 h17 (rfl))) hI0.1, (by first | omega | (simp only [List.length_set]; omega))⟩)
    ·
     have h17d := Yb h17
     refine rn Qb [0, 2, 3, 4, 5, 46] [] (p0) ?_
     refine ck ((nth q (Int.toNat (dn ((q.length : Int) - 1) k0))).1 == (7 : Int)) (fun h22 => ?_) (fun h22 => ?_)
     ·
      have h22k := DX h1n (by omega) (by omega) h22; have h22m := SR h1n (by omega) (by omega) h22
      have h22d := eq_of_beq h22
      refine wT 3 0 (.own true 704) s0 (fun hw24 hl25 => ?_)
      have hx23 := ng s0 (Int.toNat ((nth q (Int.toNat (dn ((q.length : Int) - 1) k0))).2.1))
      have hx26 : (List.set s0 (Int.toNat ((nth q (Int.toNat (dn ((q.length : Int) - 1) k0))).2.1)) ((nth s0 (Int.toNat (dn ((q.length : Int) - 1) k0))) || ((nth q (Int.toNat (dn ((q.length : Int) - 1) k0))).1 == (5 : Int))))[(Int.toNat ((nth q (Int.toNat (dn ((q.length : Int) - 1) k0))).2.2.1))]? = some (nth (List.set s0 (Int.toNat ((nth q (Int.toNat (dn ((q.length : Int) - 1) k0))).2.1)) ((nth s0 (Int.toNat (dn ((q.length : Int) - 1) k0))) || ((nth q (Int.toNat (dn ((q.length : Int) - 1) k0))).1 == (5 : Int)))) (Int.toNat ((nth q (Int.toNat (dn ((q.length : Int) - 1) k0))).2.2.1))) := Ho (by first | omega | (simp only [List.length_set]; omega))
      refine qU Qb Yn [(3, .one (.slc (.own true 704) 1 (setRow (setRow (eL s0) (Int.toNat ((nth q (Int.toNat (dn ((q.length : Int) - 1) k0))).2.1)) 0 [.b ((nth s0 (Int.toNat (dn ((q.length : Int) - 1) k0))) || ((nth q (Int.toNat (dn ((q.length : Int) - 1) k0))).1 == (5 : Int)))]) (Int.toNat ((nth q (Int.toNat (dn ((q.length : Int) - 1) k0))).2.2.1)) 0 [.b ((nth s0 (Int.toNat (dn ((q.length : Int) - 1) k0))) || ((nth q (Int.toNat (dn ((q.length : Int) - 1) k0))).1 == (5 : Int)))])))] [3, 5, 35, 46] [] [] (pg 3 (dn ((q.length : Int) - 1) k0) hx12 (pg 9 (dn ((q.length : Int) - 1) k0) hx12 (pG 14 ((nth q (Int.toNat (dn ((q.length : Int) - 1) k0))).2.1) hx23 (pR 16 (l := (setRow (eL s0) (Int.toNat ((nth q (Int.toNat (dn ((q.length : Int) - 1) k0))).2.1)) 0 [.b ((nth s0 (Int.toNat (dn ((q.length : Int) - 1) k0))) || ((nth q (Int.toNat (dn ((q.length : Int) - 1) k0))).1 == (5 : Int)))])) (j := ((nth q (Int.toNat (dn ((q.length : Int) - 1) k0))).2.2.1)) (r := [.b (nth (List.set s0 (Int.toNat ((nth q (Int.toNat (dn ((q.length : Int) - 1) k0))).2.1)) ((nth s0 (Int.toNat (dn ((q.length : Int) - 1) k0))) || ((nth q (Int.toNat (dn ((q.length : Int) - 1) k0))).1 == (5 : Int)))) (Int.toNat ((nth q (Int.toNat (dn ((q.length : Int) - 1) k0))).2.2.1)))]) (by rw [Z0 (y := ((nth s0 (Int.toNat (dn ((q.length : Int) - 1) k0))) || ((nth q (Int.toNat (dn ((q.length : Int) - 1) k0))).1 == (5 : Int)))) hx23 rfl]; exact DP (by omega) rfl hx26) p0)))) ?_
      refine eqn [(3, .o 704 (List.set (List.set s0 (Int.toNat ((nth q (Int.toNat (dn ((q.length : Int) - 1) k0))).2.1)) ((nth s0 (Int.toNat (dn ((q.length : Int) - 1) k0))) || ((nth q (Int.toNat (dn ((q.length : Int) - 1) k0))).1 == (5 : Int)))) (Int.toNat ((nth q (Int.toNat (dn ((q.length : Int) - 1) k0))).2.2.1)) ((nth s0 (Int.toNat (dn ((q.length : Int) - 1) k0))) || ((nth q (Int.toNat (dn ((q.length : Int) - 1) k0))).1 == (5 : Int)))))] [3] [] [] (by rw [Z0 (y := ((nth s0 (Int.toNat (dn ((q.length : Int) - 1) k0))) || ((nth q (Int.toNat (dn ((q.length : Int) - 1) k0))).1 == (5 : Int)))) hx23 rfl, Z0 (y := ((nth s0 (Int.toNat (dn ((q.length : Int) - 1) k0))) || ((nth q (Int.toNat (dn ((q.length : Int) - 1) k0))).1 == (5 : Int)))) hx26 rfl]; first | done | kernel_rfl) ?_
      refine rn Qb [0, 2, 3, 4] [] (pe 1 (show .i (IntKind.i64.wrap ((dn ((q.length : Int) - 1) k0) - 1)) = .i (dn ((q.length : Int) - 1) (k0 + 1)) from Jb (show IntKind.i64.wrap ((dn ((q.length : Int) - 1) k0) - 1) = (dn ((q.length : Int) - 1) (k0 + 1)) from IntWalk.i64_in ((dn ((q.length : Int) - 1) k0) - 1) (by omega))) p0) ?_
      exact Exists.intro (List.set (List.set s0 (Int.toNat ((nth q (Int.toNat (dn ((q.length : Int) - 1) k0))).2.1)) ((nth s0 (Int.toNat (dn ((q.length : Int) - 1) k0))) || ((nth q (Int.toNat (dn ((q.length : Int) - 1) k0))).1 == (5 : Int)))) (Int.toNat ((nth q (Int.toNat (dn ((q.length : Int) - 1) k0))).2.2.1)) ((nth s0 (Int.toNat (dn ((q.length : Int) - 1) k0))) || ((nth q (Int.toNat (dn ((q.length : Int) - 1) k0))).1 == (5 : Int)))) (And.intro (Qd (by kernel_rfl)) ⟨K3 hk0 (Qn h13 (Qn h17 (Q8 h22 (rfl)))) hI0.1, (by first | omega | (simp only [List.length_set]; omega))⟩)
     ·
      have h22d := Yb h22
      refine Qj ?_
      refine qn Qb [0, 2, 3, 4] [] (pe 1 (show .i (IntKind.i64.wrap ((dn ((q.length : Int) - 1) k0) - 1)) = .i (dn ((q.length : Int) - 1) (k0 + 1)) from Jb (show IntKind.i64.wrap ((dn ((q.length : Int) - 1) k0) - 1) = (dn ((q.length : Int) - 1) (k0 + 1)) from IntWalk.i64_in ((dn ((q.length : Int) - 1) k0) - 1) (by omega))) p0) ?_
      exact Exists.intro s0 (And.intro (Qd (by kernel_rfl)) ⟨K3 hk0 (Qn h13 (Qn h17 (Qn h22 (rfl)))) hI0.1, (by first | omega | (simp only [List.length_set]; omega))⟩)
  ·
   have hA0_0 := hI0.2
   have hdn0 := HN ((q.length : Int) - 1) k0
   refine Qe ?_
   refine sn Qb [0, 2, 3, 4, 16] [] (pe 1 (Qs (decide_eq_false (p := (dn ((q.length : Int) - 1) k0) ≥ (0 : Int)) (by omega))) p0) ?_
   refine ckF ?_
   refine Q3 ?_
   exact Exists.intro s0 (And.intro (Qd (by kernel_rfl)) ⟨A5 hk0 (rfl) hI0.1, by first | omega | (simp only [List.length_set]; omega)⟩)
  ·
   have hD0_0 := hD0.2
   refine sn Qb [2] [] (p0) ?_
   refine Qf ?_
   exact po0 [] (Qn h1 (Wf hD0.1 (rfl)))
def W2 (q : (List X9)) (k0 : Nat) (s0 : (List Bool)) : Rd ((List Bool)) ((List Bool)) ((List Bool)) := (bif ((nth q (Int.toNat (dn ((q.length : Int) - 1) k0))).1 == (5 : Int)) then (bif (((nth q (Int.toNat (dn ((q.length : Int) - 1) k0))).1 == (6 : Int)) || ((nth q (Int.toNat (dn ((q.length : Int) - 1) k0))).1 == (7 : Int))) then (.next (List.set (List.set (List.set s0 (Int.toNat ((nth q (Int.toNat (dn ((q.length : Int) - 1) k0))).2.1)) true) (Int.toNat ((nth q (Int.toNat (dn ((q.length : Int) - 1) k0))).2.1)) (nth (List.set s0 (Int.toNat ((nth q (Int.toNat (dn ((q.length : Int) - 1) k0))).2.1)) true) (Int.toNat (dn ((q.length : Int) - 1) k0)))) (Int.toNat ((nth q (Int.toNat (dn ((q.length : Int) - 1) k0))).2.2.1)) (nth (List.set (List.set s0 (Int.toNat ((nth q (Int.toNat (dn ((q.length : Int) - 1) k0))).2.1)) true) (Int.toNat ((nth q (Int.toNat (dn ((q.length : Int) - 1) k0))).2.1)) (nth (List.set s0 (Int.toNat ((nth q (Int.toNat (dn ((q.length : Int) - 1) k0))).2.1)) true) (Int.toNat (dn ((q.length : Int) - 1) k0)))) (Int.toNat (dn ((q.length : Int) - 1) k0))))) else (.next (List.set s0 (Int.toNat ((nth q (Int.toNat (dn ((q.length : Int) - 1) k0))).2.1)) true))) else (bif (((nth q (Int.toNat (dn ((q.length : Int) - 1) k0))).1 == (6 : Int)) || ((nth q (Int.toNat (dn ((q.length : Int) - 1) k0))).1 == (7 : Int))) then (.next (List.set (List.set s0 (Int.toNat ((nth q (Int.toNat (dn ((q.length : Int) - 1) k0))).2.1)) (nth s0 (Int.toNat (dn ((q.length : Int) - 1) k0)))) (Int.toNat ((nth q (Int.toNat (dn ((q.length : Int) - 1) k0))).2.2.1)) (nth (List.set s0 (Int.toNat ((nth q (Int.toNat (dn ((q.length : Int) - 1) k0))).2.1)) (nth s0 (Int.toNat (dn ((q.length : Int) - 1) k0)))) (Int.toNat (dn ((q.length : Int) - 1) k0))))) else (.next s0)))
def Bg (_ : Nat) (s0 : (List Bool)) : (List Bool) := s0
def Zw (q : (List X9)) : (List Bool) := (bif (!(Yw q)) then [] else (Out.on (Vz (W2 q) Bg (List.length q) 0 (List.replicate (Int.toNat (q.length : Int)) false)) (fun y0 => y0)))
theorem Oq (q : (List X9)) : ACalls Tryz.prog 180 [.h q] (.o 0 (Zw q)) := by
 refine en Qb Tryz.func180 fun w0 F0 hG => ?_
 refine sn Qb [0, 2] [] (p0) ?_
 refine Qe ?_
 refine tn Qb [0, 2, 9] [] (pc 1 (V0 q) p0) ?_
 refine ck (!(Yw q)) (fun h1 => ?_) (fun h1 => ?_)
 ·
  refine tu Qb [(2, .one (.slc (.own true 640) 1 []))] [] [] [] (p0) ?_
  refine Qf ?_
  exact po0 [] (Q8 h1 (rfl))
 ·
  have h1n : (Yw q) = true := Je h1
  refine Qj ?_
  refine wT 0 0 .sh q (fun hw2 hl3 => ?_)
  refine tu Qb [(2, .e 0), (3, .one (.slc (.own true 832) 1 (List.replicate (Int.toNat (q.length : Int)) [.b false])))] [] [] [] (pl 1 q (px (Ek (lo := 0) (hi := (q.length : Int)) (n := 1073741824) (⟨by omega, by omega, by omega⟩)) p0)) ?_
  refine eqn [(3, .o 832 (List.replicate (Int.toNat (q.length : Int)) false))] [3] [] [] (by rw [show (List.replicate (Int.toNat (q.length : Int)) [.b false]) = (eL (List.replicate (Int.toNat (q.length : Int)) false)) from NF _ false]; first | done | kernel_rfl) ?_
  refine Qe ?_
  refine sn Qb [0, 2, 3, 4] [] (pl 1 q (pe 2 (Jb (IntWalk.i64_in ((q.length : Int) - 1) (by omega))) p0)) ?_
  refine mz [(4, .i ((q.length : Int) - 1))] [] [] [] ?_
  refine Qbq (W2 q) Bg (List.length q) (List.replicate (Int.toNat (q.length : Int)) false) (fun k0 s0 => [(3, .o 832 s0), (4, .i (dn ((q.length : Int) - 1) k0))]) [3, 4] (fun y0 => [(3, .o 832 y0)]) [0, 3, 4] (fun _ s0 => List.length s0 = (Int.toNat (q.length : Int))) (fun y0 => List.length y0 = (Int.toNat (q.length : Int))) (Qd (by kernel_rfl)) (by simp) (fun k0 s0 hk0 hI0 => ?_) (fun k0 s0 hk0 hI0 => ?_) (fun y0 hD0 => ?_)
  ·
   have hA0_0 := hI0.2
   have hdn0 := HN ((q.length : Int) - 1) k0
   refine Qe ?_
   refine sn Qb [0, 2, 3, 4, 18] [] (pe 1 (Qs (decide_eq_true (p := (dn ((q.length : Int) - 1) k0) ≥ (0 : Int)) (by omega))) p0) ?_
   refine ckT ?_
   refine Qj ?_
   refine Qe ?_
   refine Qt ?_
   have hx4 := ng q (Int.toNat (dn ((q.length : Int) - 1) k0))
   refine tn Qb [0, 2, 3, 4, 5] [5] (pg 2 (dn ((q.length : Int) - 1) k0) hx4 p0) ?_
   refine Qe ?_
   refine mz [(5, .p 5 0)] [] [(5, [.i ((nth q (Int.toNat (dn ((q.length : Int) - 1) k0))).1), .i ((nth q (Int.toNat (dn ((q.length : Int) - 1) k0))).2.1), .i ((nth q (Int.toNat (dn ((q.length : Int) - 1) k0))).2.2.1), .s ((nth q (Int.toNat (dn ((q.length : Int) - 1) k0))).2.2.2.1), .i ((nth q (Int.toNat (dn ((q.length : Int) - 1) k0))).2.2.2.2.1), .i ((nth q (Int.toNat (dn ((q.length : Int) - 1) k0))).2.2.2.2.2.1), .s ((nth q (Int.toNat (dn ((q.length : Int) - 1) k0))).2.2.2.2.2.2)])] [] ?_
   refine jn [(6, .b (((nth q (Int.toNat (dn ((q.length : Int) - 1) k0))).1 == (6 : Int)) || ((nth q (Int.toNat (dn ((q.length : Int) - 1) k0))).1 == (7 : Int))))] [] [] [] ((nth q (Int.toNat (dn ((q.length : Int) - 1) k0))).1 == (6 : Int)) (fun h5 => ?_) (fun h5 => ?_) ?_
   ·
    have h5k := BQ (Nl h1n) (by omega) (by omega) h5; have h5m := PI (Nl h1n) (by omega) (by omega) h5
    refine rn Qb [0, 2, 3, 4, 5, 6] [5] (pt 2 h5 p0) ?_
    exact ⟨rfl, Qd (by rw [h5]; first | done | kernel_rfl)⟩
   ·
    refine rn Qb [0, 2, 3, 4, 5, 6] [5] (pf 2 h5 p0) ?_
    exact ⟨rfl, Qd (by rw [h5]; first | done | kernel_rfl)⟩
   refine Qe ?_
   refine sn Qb [0, 2, 3, 4, 5, 6, 35] [5] (p0) ?_
   refine ck ((nth q (Int.toNat (dn ((q.length : Int) - 1) k0))).1 == (5 : Int)) (fun h6 => ?_) (fun h6 => ?_)
   ·
    have h6k := PH (Nl h1n) (by omega) (by omega) h6
    have h6d := eq_of_beq h6
    refine wT 3 0 (.own true 832) s0 (fun hw8 hl9 => ?_)
    have hx7 := ng s0 (Int.toNat ((nth q (Int.toNat (dn ((q.length : Int) - 1) k0))).2.1))
    refine qu Qb [(3, .one (.slc (.own true 832) 1 (setRow (eL s0) (Int.toNat ((nth q (Int.toNat (dn ((q.length : Int) - 1) k0))).2.1)) 0 [.b true])))] [3] [] [] (pG 3 ((nth q (Int.toNat (dn ((q.length : Int) - 1) k0))).2.1) hx7 p0) ?_
    refine eqn [(3, .o 832 (List.set s0 (Int.toNat ((nth q (Int.toNat (dn ((q.length : Int) - 1) k0))).2.1)) true))] [3] [] [] (by rw [Z0 (y := true) hx7 rfl]; first | done | kernel_rfl) ?_
    refine sn Qb [0, 2, 3, 4, 5, 40] [5] (p0) ?_
    refine ck (((nth q (Int.toNat (dn ((q.length : Int) - 1) k0))).1 == (6 : Int)) || ((nth q (Int.toNat (dn ((q.length : Int) - 1) k0))).1 == (7 : Int))) (fun h10 => ?_) (fun h10 => ?_)
    ·
     have h10k := PJ (Nl h1n) (by omega) (by omega) h10
     refine wT 3 0 (.own true 832) (List.set s0 (Int.toNat ((nth q (Int.toNat (dn ((q.length : Int) - 1) k0))).2.1)) true) (fun hw12 hl13 => ?_)
     have hx11 := ng (List.set s0 (Int.toNat ((nth q (Int.toNat (dn ((q.length : Int) - 1) k0))).2.1)) true) (Int.toNat (dn ((q.length : Int) - 1) k0)) (by first | omega | (simp only [List.length_set]; omega))
     have hx14 := ng (List.set s0 (Int.toNat ((nth q (Int.toNat (dn ((q.length : Int) - 1) k0))).2.1)) true) (Int.toNat ((nth q (Int.toNat (dn ((q.length : Int) - 1) k0))).2.1)) (by first | omega | (simp only [List.length_set]; omega))
     refine tU Qb Yn [(3, .one (.slc (.own true 832) 1 (setRow (eL (List.set s0 (Int.toNat ((nth q (Int.toNat (dn ((q.length : Int) - 1) k0))).2.1)) true)) (Int.toNat ((nth q (Int.toNat (dn ((q.length : Int) - 1) k0))).2.1)) 0 [.b (nth (List.set s0 (Int.toNat ((nth q (Int.toNat (dn ((q.length : Int) - 1) k0))).2.1)) true) (Int.toNat (dn ((q.length : Int) - 1) k0)))])))] [3, 6] [] [] (pG 5 (dn ((q.length : Int) - 1) k0) hx11 (pG 7 ((nth q (Int.toNat (dn ((q.length : Int) - 1) k0))).2.1) hx14 p0)) ?_
     refine eqn [(3, .o 832 (List.set (List.set s0 (Int.toNat ((nth q (Int.toNat (dn ((q.length : Int) - 1) k0))).2.1)) true) (Int.toNat ((nth q (Int.toNat (dn ((q.length : Int) - 1) k0))).2.1)) (nth (List.set s0 (Int.toNat ((nth q (Int.toNat (dn ((q.length : Int) - 1) k0))).2.1)) true) (Int.toNat (dn ((q.length : Int) - 1) k0)))))] [3] [] [] (by rw [Z0 (y := (nth (List.set s0 (Int.toNat ((nth q (Int.toNat (dn ((q.length : Int) - 1) k0))).2.1)) true) (Int.toNat (dn ((q.length : Int) - 1) k0)))) hx14 rfl]; first | done | kernel_rfl) ?_
     refine wT 3 0 (.own true 832) (List.set (List.set s0 (Int.toNat ((nth q (Int.toNat (dn ((q.length : Int) - 1) k0))).2.1)) true) (Int.toNat ((nth q (Int.toNat (dn ((q.length : Int) - 1) k0))).2.1)) (nth (List.set s0 (Int.toNat ((nth q (Int.toNat (dn ((q.length : Int) - 1) k0))).2.1)) true) (Int.toNat (dn ((q.length : Int) - 1) k0)))) (fun hw16 hl17 => ?_)
     have hx15 := ng (List.set (List.set s0 (Int.toNat ((nth q (Int.toNat (dn ((q.length : Int) - 1) k0))).2.1)) true) (Int.toNat ((nth q (Int.toNat (dn ((q.length : Int) - 1) k0))).2.1)) (nth (List.set s0 (Int.toNat ((nth q (Int.toNat (dn ((q.length : Int) - 1) k0))).2.1)) true) (Int.toNat (dn ((q.length : Int) - 1) k0)))) (Int.toNat (dn ((q.length : Int) - 1) k0)) (by first | omega | (simp only [List.length_set]; omega))
     have hx18 := ng (List.set (List.set s0 (Int.toNat ((nth q (Int.toNat (dn ((q.length : Int) - 1) k0))).2.1)) true) (Int.toNat ((nth q (Int.toNat (dn ((q.length : Int) - 1) k0))).2.1)) (nth (List.set s0 (Int.toNat ((nth q (Int.toNat (dn ((q.length : Int) - 1) k0))).2.1)) true) (Int.toNat (dn ((q.length : Int) - 1) k0)))) (Int.toNat ((nth q (Int.toNat (dn ((q.length : Int) - 1) k0))).2.2.1)) (by first | omega | (simp only [List.length_set]; omega))
     refine rU Qb Yn [(3, .one (.slc (.own true 832) 1 (setRow (eL (List.set (List.set s0 (Int.toNat ((nth q (Int.toNat (dn ((q.length : Int) - 1) k0))).2.1)) true) (Int.toNat ((nth q (Int.toNat (dn ((q.length : Int) - 1) k0))).2.1)) (nth (List.set s0 (Int.toNat ((nth q (Int.toNat (dn ((q.length : Int) - 1) k0))).2.1)) true) (Int.toNat (dn ((q.length : Int) - 1) k0))))) (Int.toNat ((nth q (Int.toNat (dn ((q.length : Int) - 1) k0))).2.2.1)) 0 [.b (nth (List.set (List.set s0 (Int.toNat ((nth q (Int.toNat (dn ((q.length : Int) - 1) k0))).2.1)) true) (Int.toNat ((nth q (Int.toNat (dn ((q.length : Int) - 1) k0))).2.1)) (nth (List.set s0 (Int.toNat ((nth q (Int.toNat (dn ((q.length : Int) - 1) k0))).2.1)) true) (Int.toNat (dn ((q.length : Int) - 1) k0)))) (Int.toNat (dn ((q.length : Int) - 1) k0)))])))] [3, 5] [] [5] (pG 5 (dn ((q.length : Int) - 1) k0) hx15 (pG 7 ((nth q (Int.toNat (dn ((q.length : Int) - 1) k0))).2.2.1) hx18 p0)) ?_
     refine eqn [(3, .o 832 (List.set (List.set (List.set s0 (Int.toNat ((nth q (Int.toNat (dn ((q.length : Int) - 1) k0))).2.1)) true) (Int.toNat ((nth q (Int.toNat (dn ((q.length : Int) - 1) k0))).2.1)) (nth (List.set s0 (Int.toNat ((nth q (Int.toNat (dn ((q.length : Int) - 1) k0))).2.1)) true) (Int.toNat (dn ((q.length : Int) - 1) k0)))) (Int.toNat ((nth q (Int.toNat (dn ((q.length : Int) - 1) k0))).2.2.1)) (nth (List.set (List.set s0 (Int.toNat ((nth q (Int.toNat (dn ((q.length : Int) - 1) k0))).2.1)) true) (Int.toNat ((nth q (Int.toNat (dn ((q.length : Int) - 1) k0))).2.1)) (nth (List.set s0 (Int.toNat ((nth q (Int.toNat (dn ((q.length : Int) - 1) k0))).2.1)) true) (Int.toNat (dn ((q.length : Int) - 1) k0)))) (Int.toNat (dn ((q.length : Int) - 1) k0)))))] [3] [] [] (by rw [Z0 (y := (nth (List.set (List.set s0 (Int.toNat ((nth q (Int.toNat (dn ((q.length : Int) - 1) k0))).2.1)) true) (Int.toNat ((nth q (Int.toNat (dn ((q.length : Int) - 1) k0))).2.1)) (nth (List.set s0 (Int.toNat ((nth q (Int.toNat (dn ((q.length : Int) - 1) k0))).2.1)) true) (Int.toNat (dn ((q.length : Int) - 1) k0)))) (Int.toNat (dn ((q.length : Int) - 1) k0)))) hx18 rfl]; first | done | kernel_rfl) ?_
     refine rn Qb [0, 2, 3, 4] [] (pe 1 (show .i (IntKind.i64.wrap ((dn ((q.length : Int) - 1) k0) - 1)) = .i (dn ((q.length : Int) - 1) (k0 + 1)) from Jb (show IntKind.i64.wrap ((dn ((q.length : Int) - 1) k0) - 1) = (dn ((q.length : Int) - 1) (k0 + 1)) from IntWalk.i64_in ((dn ((q.length : Int) - 1) k0) - 1) (by omega))) p0) ?_
     exact Exists.intro (List.set (List.set (List.set s0 (Int.toNat ((nth q (Int.toNat (dn ((q.length : Int) - 1) k0))).2.1)) true) (Int.toNat ((nth q (Int.toNat (dn ((q.length : Int) - 1) k0))).2.1)) (nth (List.set s0 (Int.toNat ((nth q (Int.toNat (dn ((q.length : Int) - 1) k0))).2.1)) true) (Int.toNat (dn ((q.length : Int) - 1) k0)))) (Int.toNat ((nth q (Int.toNat (dn ((q.length : Int) - 1) k0))).2.2.1)) (nth (List.set (List.set s0 (Int.toNat ((nth q (Int.toNat (dn ((q.length : Int) - 1) k0))).2.1)) true) (Int.toNat ((nth q (Int.toNat (dn ((q.length : Int) - 1) k0))).2.1)) (nth (List.set s0 (Int.toNat ((nth q (Int.toNat (dn ((q.length : Int) - 1) k0))).2.1)) true) (Int.toNat (dn ((q.length : Int) - 1) k0)))) (Int.toNat (dn ((q.length : Int) - 1) k0)))) (And.intro (Qd (by kernel_rfl)) ⟨K3 hk0 (Q8 h6 (Q8 h10 (rfl))) hI0.1, (by first | omega | (simp only [List.length_set]; omega))⟩)
    ·
     have h10l : (((nth q (Int.toNat (dn ((q.length : Int) - 1) k0))).1 == (6 : Int))) = false := Pq h10
     have h10ld := Yb h10l
     have h10r : (((nth q (Int.toNat (dn ((q.length : Int) - 1) k0))).1 == (7 : Int))) = false := I0 h10
     have h10rd := Yb h10r
     refine Qj ?_
     refine qn Qb [0, 2, 3, 4] [] (pe 1 (show .i (IntKind.i64.wrap ((dn ((q.length : Int) - 1) k0) - 1)) = .i (dn ((q.length : Int) - 1) (k0 + 1)) from Jb (show IntKind.i64.wrap ((dn ((q.length : Int) - 1) k0) - 1) = (dn ((q.length : Int) - 1) (k0 + 1)) from IntWalk.i64_in ((dn ((q.length : Int) - 1) k0) - 1) (by omega))) p0) ?_
     exact Exists.intro (List.set s0 (Int.toNat ((nth q (Int.toNat (dn ((q.length : Int) - 1) k0))).2.1)) true) (And.intro (Qd (by kernel_rfl)) ⟨K3 hk0 (Q8 h6 (Qn h10 (rfl))) hI0.1, (by first | omega | (simp only [List.length_set]; omega))⟩)
   ·
    have h6d := Yb h6
    refine Qj ?_
    refine tn Qb [0, 2, 3, 4, 5, 40] [5] (p0) ?_
    refine ck (((nth q (Int.toNat (dn ((q.length : Int) - 1) k0))).1 == (6 : Int)) || ((nth q (Int.toNat (dn ((q.length : Int) - 1) k0))).1 == (7 : Int))) (fun h19 => ?_) (fun h19 => ?_)
    ·
     have h19k := PJ (Nl h1n) (by omega) (by omega) h19
     refine wT 3 0 (.own true 832) s0 (fun hw21 hl22 => ?_)
     have hx20 := ng s0 (Int.toNat (dn ((q.length : Int) - 1) k0))
     have hx23 := ng s0 (Int.toNat ((nth q (Int.toNat (dn ((q.length : Int) - 1) k0))).2.1))
     refine tU Qb Yn [(3, .one (.slc (.own true 832) 1 (setRow (eL s0) (Int.toNat ((nth q (Int.toNat (dn ((q.length : Int) - 1) k0))).2.1)) 0 [.b (nth s0 (Int.toNat (dn ((q.length : Int) - 1) k0)))])))] [3, 6] [] [] (pG 5 (dn ((q.length : Int) - 1) k0) hx20 (pG 7 ((nth q (Int.toNat (dn ((q.length : Int) - 1) k0))).2.1) hx23 p0)) ?_
     refine eqn [(3, .o 832 (List.set s0 (Int.toNat ((nth q (Int.toNat (dn ((q.length : Int) - 1) k0))).2.1)) (nth s0 (Int.toNat (dn ((q.length : Int) - 1) k0)))))] [3] [] [] (by rw [Z0 (y := (nth s0 (Int.toNat (dn ((q.length : Int) - 1) k0)))) hx23 rfl]; first | done | kernel_rfl) ?_
     refine wT 3 0 (.own true 832) (List.set s0 (Int.toNat ((nth q (Int.toNat (dn ((q.length : Int) - 1) k0))).2.1)) (nth s0 (Int.toNat (dn ((q.length : Int) - 1) k0)))) (fun hw25 hl26 => ?_)
     have hx24 := ng (List.set s0 (Int.toNat ((nth q (Int.toNat (dn ((q.length : Int) - 1) k0))).2.1)) (nth s0 (Int.toNat (dn ((q.length : Int) - 1) k0)))) (Int.toNat (dn ((q.length : Int) - 1) k0)) (by first | omega | (simp only [List.length_set]; omega))
     have hx27 := ng (List.set s0 (Int.toNat ((nth q (Int.toNat (dn ((q.length : Int) - 1) k0))).2.1)) (nth s0 (Int.toNat (dn ((q.length : Int) - 1) k0)))) (Int.toNat ((nth q (Int.toNat (dn ((q.length : Int) - 1) k0))).2.2.1)) (by first | omega | (simp only [List.length_set]; omega))
     refine rU Qb Yn [(3, .one (.slc (.own true 832) 1 (setRow (eL (List.set s0 (Int.toNat ((nth q (Int.toNat (dn ((q.length : Int) - 1) k0))).2.1)) (nth s0 (Int.toNat (dn ((q.length : Int) - 1) k0))))) (Int.toNat ((nth q (Int.toNat (dn ((q.length : Int) - 1) k0))).2.2.1)) 0 [.b (nth (List.set s0 (Int.toNat ((nth q (Int.toNat (dn ((q.length : Int) - 1) k0))).2.1)) (nth s0 (Int.toNat (dn ((q.length : Int) - 1) k0)))) (Int.toNat (dn ((q.length : Int) - 1) k0)))])))] [3, 5] [] [5] (pG 5 (dn ((q.length : Int) - 1) k0) hx24 (pG 7 ((nth q (Int.toNat (dn ((q.length : Int) - 1) k0))).2.2.1) hx27 p0)) ?_
     refine eqn [(3, .o 832 (List.set (List.set s0 (Int.toNat ((nth q (Int.toNat (dn ((q.length : Int) - 1) k0))).2.1)) (nth s0 (Int.toNat (dn ((q.length : Int) - 1) k0)))) (Int.toNat ((nth q (Int.toNat (dn ((q.length : Int) - 1) k0))).2.2.1)) (nth (List.set s0 (Int.toNat ((nth q (Int.toNat (dn ((q.length : Int) - 1) k0))).2.1)) (nth s0 (Int.toNat (dn ((q.length : Int) - 1) k0)))) (Int.toNat (dn ((q.length : Int) - 1) k0)))))] [3] [] [] (by rw [Z0 (y := (nth (List.set s0 (Int.toNat ((nth q (Int.toNat (dn ((q.length : Int) - 1) k0))).2.1)) (nth s0 (Int.toNat (dn ((q.length : Int) - 1) k0)))) (Int.toNat (dn ((q.length : Int) - 1) k0)))) hx27 rfl]; first | done | kernel_rfl) ?_
     refine rn Qb [0, 2, 3, 4] [] (pe 1 (show .i (IntKind.i64.wrap ((dn ((q.length : Int) - 1) k0) - 1)) = .i (dn ((q.length : Int) - 1) (k0 + 1)) from Jb (show IntKind.i64.wrap ((dn ((q.length : Int) - 1) k0) - 1) = (dn ((q.length : Int) - 1) (k0 + 1)) from IntWalk.i64_in ((dn ((q.length : Int) - 1) k0) - 1) (by omega))) p0) ?_
     exact Exists.intro (List.set (List.set s0 (Int.toNat ((nth q (Int.toNat (dn ((q.length : Int) - 1) k0))).2.1)) (nth s0 (Int.toNat (dn ((q.length : Int) - 1) k0)))) (Int.toNat ((nth q (Int.toNat (dn ((q.length : Int) - 1) k0))).2.2.1)) (nth (List.set s0 (Int.toNat ((nth q (Int.toNat (dn ((q.length : Int) - 1) k0))).2.1)) (nth s0 (Int.toNat (dn ((q.length : Int) - 1) k0)))) (Int.toNat (dn ((q.length : Int) - 1) k0)))) (And.intro (Qd (by kernel_rfl)) ⟨K3 hk0 (Qn h6 (Q8 h19 (rfl))) hI0.1, (by first | omega | (simp only [List.length_set]; omega))⟩)
    ·
     have h19l : (((nth q (Int.toNat (dn ((q.length : Int) - 1) k0))).1 == (6 : Int))) = false := Pq h19
     have h19ld := Yb h19l
     have h19r : (((nth q (Int.toNat (dn ((q.length : Int) - 1) k0))).1 == (7 : Int))) = false := I0 h19
     have h19rd := Yb h19r
     refine Qj ?_
     refine qu Qb [(4, .i (dn ((q.length : Int) - 1) (k0 + 1)))] [4, 5, 6] [] [5] (pe 1 (show .i (IntKind.i64.wrap ((dn ((q.length : Int) - 1) k0) - 1)) = .i (dn ((q.length : Int) - 1) (k0 + 1)) from Jb (show IntKind.i64.wrap ((dn ((q.length : Int) - 1) k0) - 1) = (dn ((q.length : Int) - 1) (k0 + 1)) from IntWalk.i64_in ((dn ((q.length : Int) - 1) k0) - 1) (by omega))) p0) ?_
     exact Exists.intro s0 (And.intro (Qd (by kernel_rfl)) ⟨K3 hk0 (Qn h6 (Qn h19 (rfl))) hI0.1, (by first | omega | (simp only [List.length_set]; omega))⟩)
  ·
   have hA0_0 := hI0.2
   have hdn0 := HN ((q.length : Int) - 1) k0
   refine Qe ?_
   refine sn Qb [0, 2, 3, 4, 18] [] (pe 1 (Qs (decide_eq_false (p := (dn ((q.length : Int) - 1) k0) ≥ (0 : Int)) (by omega))) p0) ?_
   refine ckF ?_
   refine Q3 ?_
   exact Exists.intro s0 (And.intro (Qd (by kernel_rfl)) ⟨A5 hk0 (rfl) hI0.1, by first | omega | (simp only [List.length_set]; omega)⟩)
  ·
   have hD0_0 := hD0.2
   refine sn Qb [2] [] (p0) ?_
   refine Qf ?_
   exact po0 [] (Qn h1 (Wf hD0.1 (rfl)))
end Go.Proofs.YtockoklfegpgeaaGreat
namespace Go.Proofs.YtockoklfegpgeaaGreat
open Go.RowKit
theorem Gm {α : Type} [Inhabited α] {l : List α} {i j : Nat} (x : α) (h : j ≠ i) : nth (l.set j x) i = nth l i := by
  simp [nth, List.getD, List.getElem?_set_ne h]
theorem GT {q : List X9} (hv : Q1 q = true) {k : Nat} (hk : k < q.length) (s : List Bool) : Ze q k s = W2 q k s := by
  have hdn := HN ((q.length : Int) - 1) k
  obtain ⟨hl, hr⟩ := Ea hv (k := dn ((q.length : Int) - 1) k) (by omega) (by omega)
  unfold Ze W2
  generalize hi : dn ((q.length : Int) - 1) k = i at hl hr ⊢
  generalize nth q (Int.toNat i) = n at hl hr ⊢
  by_cases h5 : n.1 = 5
  · simp [h5]
  by_cases h6 : n.1 = 6
  · have := hl (.inr (.inl h6))
    simp [h6]
    rw [Gm _ (by omega)]
  by_cases h7 : n.1 = 7
  · have := hl (.inr (.inr h7))
    simp [h7]
    rw [Gm _ (by omega)]
  simp only [beq_eq_false_iff_ne.2 h5, beq_eq_false_iff_ne.2 h6, beq_eq_false_iff_ne.2 h7, Bool.or_false, cond_false]
theorem YI (q : List X9) : Zw q = Xo q := by
  unfold Zw Xo
  rw [← NK]
  cases hv : Q1 q with
  | false => rfl
  | true =>
    simp only [Bool.not_true, cond_false]
    rw [YH (f := W2 q) (g := Ze q) (e := Bg) (e' := W1) (fun _ _ => rfl) _ _ _ fun i s _ hi => (GT hv (by omega) s).symm]
theorem VP (q : List X9) (k : Nat) (s : List Bool) : ∃ s', Ze q k s = .next s' ∧ s'.length = s.length := by
  unfold Ze
  generalize ((nth q (Int.toNat (dn ((q.length : Int) - 1) k))).1 == (5 : Int)) = a
  generalize ((nth q (Int.toNat (dn ((q.length : Int) - 1) k))).1 == (6 : Int)) = b
  generalize ((nth q (Int.toNat (dn ((q.length : Int) - 1) k))).1 == (7 : Int)) = c
  cases a <;> cases b <;> cases c <;> exact ⟨_, rfl, by simp⟩
theorem Rr (q : List X9) : ∀ (n k : Nat) (s : List Bool), ∃ s', Vz (Ze q) W1 n k s = .brk s' ∧ s'.length = s.length
  | 0, k, s => ⟨s, rfl, rfl⟩
  | n + 1, k, s => by
    obtain ⟨s1, h1, h2⟩ := VP q k s
    obtain ⟨s2, h3, h4⟩ := Rr q n (k + 1) s1
    refine ⟨s2, ?_, h4.trans h2⟩
    simp only [Vz, h1]
    exact h3
theorem Nm (q : List X9) : List.length (Xo q) ≤ List.length q := by
  unfold Xo
  cases Q1 q with
  | false => exact Nat.zero_le _
  | true =>
    obtain ⟨s, h1, h2⟩ := Rr q (List.length q) 0 (List.replicate (Int.toNat (q.length : Int)) false)
    simp only [Bool.not_true, cond_false, h1, Out.on]
    rw [h2]
    simp
theorem VQ (q : List X9) : List.length (Zw q) ≤ List.length q := by rw [YI]; exact Nm q
end Go.Proofs.YtockoklfegpgeaaGreat
namespace Go.Proofs.YtockoklfegpgeaaGreat
open Go.RowKit Go.Sort
open GoE (enc)
structure OneC (α σ : Type) [GoE α] where
  to : α → σ
  of : σ → α
  cell : σ → Value
  pv : α → PV
  ok : α → Prop
  of_to : ∀ a, of (to a) = a
  to_of : ∀ s, to (of s) = s
  enc_eq : ∀ a, enc a = [pv a]
  flat : ∀ a, (pv a).flat
  vv : ∀ (X : Nat → Prop) (w : World) v a, VV X w v (pv a) ↔ v = cell (to a) ∧ ok a
def Qbb : OneC Int Int where
  to := id
  of := id
  cell := .int .i64
  pv := .int .i64
  ok := InR .i64
  of_to _ := rfl
  to_of _ := rfl
  enc_eq _ := rfl
  flat _ := trivial
  vv X w v a := ⟨fun h => by cases h with | int h => exact ⟨rfl, h⟩, fun ⟨h1, h2⟩ => by subst h1; exact .int h2⟩
def oneS : OneC ByteArray (List UInt8) where
  to b := b.data.toList
  of s := ⟨s.toArray⟩
  cell := encStr
  pv := .str
  ok b := b.size ≤ maxLen
  of_to b := by cases b; simp
  to_of s := by simp
  enc_eq _ := rfl
  flat _ := trivial
  vv X w v a := by
    have e : encStr a.data.toList = .string a := by cases a; simp [encStr]
    rw [e]
    exact ⟨fun h => by cases h with | str h => exact ⟨rfl, h⟩, fun ⟨h1, h2⟩ => by subst h1; exact .str h2⟩
section
variable {α σ : Type} [GoE α] (C : OneC α σ)
theorem GU {X : Nat → Prop} {w : World} : ∀ {l : List α} {cs : List Value}, VR X w 1 cs (eL l) → cs = (l.map C.to).map C.cell ∧ ∀ a, a ∈ l → C.ok a
  | [], cs, h => by
    generalize hr : eL ([] : List α) = r at h
    cases h with
    | nil => exact ⟨rfl, fun a ha => by simp at ha⟩
    | cons => cases hr
  | a :: l, cs, h => by
    generalize hr : eL (a :: l) = r at h
    cases h with
    | nil => cases hr
    | cons h1 h2 h3 =>
      rw [ZO, C.enc_eq] at hr
      obtain ⟨rfl, rfl⟩ : [C.pv a] = _ ∧ eL l = _ := by simpa using hr
      obtain ⟨e, hok⟩ := GU h3
      cases h1 with
      | cons h4 h5 =>
        cases h5
        obtain ⟨rfl, ha⟩ := (C.vv X w _ a).1 h4
        exact ⟨by rw [e]; rfl, fun b hb => (List.mem_cons.1 hb).elim (fun e => e ▸ ha) (hok b)⟩
theorem GV {X : Nat → Prop} {w : World} : ∀ {l : List α}, (∀ a, a ∈ l → C.ok a) → VR X w 1 ((l.map C.to).map C.cell) (eL l)
  | [], _ => .nil 1
  | a :: l, h => by
    rw [ZO, C.enc_eq]
    exact VR.cons (ce := [C.cell (C.to a)]) (.cons ((C.vv X w _ a).2 ⟨rfl, h a List.mem_cons_self⟩) .nil) rfl (GV fun b hb => h b (List.mem_cons_of_mem _ hb))
theorem SS (l : List α) : (eL l).flatten = l.map C.pv := by
  induction l with
  | nil => rfl
  | cons a l ih => rw [ZO, C.enc_eq, List.flatten_cons, ih]; rfl
theorem Qbs (l : List α) : eL l = (l.map C.pv).map fun c => [c] := by
  simp [eL, C.enc_eq, Function.comp_def]
theorem BR (e : σ → Value) [Inhabited σ] (d : Array σ) (cur : Array Value) (h : d.size ≤ cur.size) : (Go.Sort.putCells e 0 d cur).toList = d.toList.map e ++ cur.toList.drop d.size := by
  apply List.ext_getElem?
  intro j
  unfold Go.Sort.putCells
  rw [Array.getElem?_toList, Array.getElem?_mapIdx]
  by_cases hj : j < d.size
  · rw [List.getElem?_append_left (by simpa using hj), Array.getElem?_eq_getElem (by omega : j < cur.size), List.getElem?_map, Array.getElem?_toList, Array.getElem?_eq_getElem hj]
    simp only [Option.map_some]
    rw [if_pos ⟨Nat.zero_le _, by omega⟩, Nat.sub_zero, getElem!_pos d j hj]
  · rw [List.getElem?_append_right (by simpa using Nat.le_of_not_lt hj), List.getElem?_drop]
    have e1 : d.size + (j - (d.toList.map e).length) = j := by simp; omega
    rw [e1, Array.getElem?_toList]
    cases cur[j]? with
    | none => rfl
    | some x => simp; omega
theorem Nn {e : σ → Value} [Inhabited σ] {w : World} {g : Nat} {cur : Array Value} {ty : TypeId} (hg : w.heap[g]? = some (.cells cur ty (0, 0))) (q : Nat) (d : Array σ) (os : Array Obj) :
    (grow (putRow e (Sort.ahead w q) g 0 d) os).heap[g]? = some (.cells (Go.Sort.putCells e 0 d cur) ty (0, 0)) := by
  have hlt : g < w.heap.size := Xe hg
  unfold grow putRow mapBlock Sort.ahead
  simp only [Array.getElem?_append, Array.size_modify]
  rw [if_pos hlt, Array.getElem?_modify, if_pos rfl, hg]
  rfl
theorem Rs {e : σ → Value} [Inhabited σ] (w : World) (g q : Nat) (d : Array σ) (os : Array Obj) : (∀ b, b < w.heap.size → b ≠ g → (grow (putRow e (Sort.ahead w q) g 0 d) os).heap[b]? = w.heap[b]?) ∧ ∀ m, m ≤ g → m ≤ w.heap.size → Below m w (grow (putRow e (Sort.ahead w q) g 0 d) os) := by
  have h : ∀ b, b < w.heap.size → b ≠ g → (grow (putRow e (Sort.ahead w q) g 0 d) os).heap[b]? = w.heap[b]? := fun b hb hn => by
    unfold grow putRow mapBlock Sort.ahead
    simp only [Array.getElem?_append, Array.size_modify]
    rw [if_pos hb, Array.getElem?_modify, if_neg (fun e => hn e.symm)]
  refine ⟨h, fun m hm hs => ⟨rfl, rfl, rfl, ?_, fun b hb => h b (by omega) (by omega)⟩⟩
  unfold grow putRow mapBlock Sort.ahead
  simp
theorem BS {e : σ → Value} [Inhabited σ] {g : Nat} {w : World} {cur : Array Value} {ty : TypeId} {l : List σ} (hg : w.heap[g]? = some (.cells cur ty (0, 0))) (ht : cur.toList.take l.length = l.map e) : Holds e w g 0 l.toArray := by
  intro j hj
  have hjl : j < l.length := by simpa using hj
  have hc : cur[j]? = some (e l[j]) := by
    have h5 : (cur.toList.take l.length)[j]? = (l.map e)[j]? := by rw [ht]
    rw [List.getElem?_take, if_pos hjl, List.getElem?_map, List.getElem?_eq_getElem hjl, Array.getElem?_toList] at h5
    exact h5
  refine ⟨?_, ?_⟩
  · rw [Nat.zero_add]
    simp [World.cell?, hg, hc, getElem!_pos, hjl]
  · simp [World.frozen?, hg]
variable {P : Program} [Inhabited σ]
theorem GW (F : Nat → Prop) (L : List Nat) (w : World) (oa : Option Addr) : Qa9 F L w 1 true [] (.returned (.tuple #[])) w :=
  ⟨_, rfl, fun m _ _ => Below.refl _ _, fun _ _ _ => rfl, rfl, fun v2 l2 h => by simpa [Sl] using h⟩
theorem YJ {f : Nat} (hok : C9 P f) (srt : List σ → List σ) (hlen : ∀ l, (srt l).length = l.length) (hmem : ∀ l x, x ∈ srt l → x ∈ l)
    (h0 : ∀ oa cap w, Calls P f #[.slice oa 0 cap] w fun e w' => e = .returned (.tuple #[]) ∧ w' = w)
    (h1 : ∀ g cap (l : List σ) w, Holds C.cell w g 0 l.toArray → g < w.heap.size → l.length < 4611686018427387904 → Calls P f #[.slice (some ⟨g, 0, none⟩) l.length cap] w fun e w' => e = .returned (.tuple #[]) ∧ ∃ n os, w' = grow (putRow C.cell (Sort.ahead w n) g 0 (srt l).toArray) os)
    (l : List α) : ATake P f 1 (eL l) [] false true (eL ((srt (l.map C.to)).map C.of)) := by
  refine ⟨hok, fun w F G L v vals _ hFG _ hGs _ hLG hrow hargs => ?_⟩
  cases hargs
  rcases hrow with ⟨hl, oa, rfl⟩ | ⟨g, cap, cur, ty, rfl, rfl, hg, hs, hr, h5, h6⟩
  · obtain rfl : l = [] := by simpa [eL] using hl
    have hs0 : srt [] = [] := List.eq_nil_of_length_eq_zero (by rw [hlen]; rfl)
    refine (h0 oa 0 w).mono ?_
    rintro e w' ⟨rfl, rfl⟩
    rw [List.map_nil, hs0]
    exact GW F L w' oa
  · have hll : (eL l).length = l.length := by simp [eL]
    rw [hll] at hr h5 h6 ⊢
    rw [Nat.mul_one] at hr hs
    obtain ⟨hcs, hok'⟩ := GU C hr
    have hH : Holds C.cell w g 0 (l.map C.to).toArray := BS hg (by rw [List.length_map]; exact hcs)
    have hc := h1 g cap (l.map C.to) w hH (Xe hg) (by rw [List.length_map]; have := h6.2; omega)
    rw [List.length_map] at hc
    refine hc.mono ?_
    rintro e w' ⟨rfl, n, os, rfl⟩
    have hother := Rs (e := C.cell) w g n (srt (l.map C.to)).toArray os
    have hgl := Xe hg
    refine ⟨_, rfl, fun m hm hL => hother.2 m (hL g (by simp)) hm, fun b hb hn => hother.1 b hb (by simpa using hn), rfl, fun v2 l2 h2 => ?_⟩
    rcases h2 with ⟨rfl, oa, rfl⟩ | ⟨g2, cap2, cur2, ty2, hL2, rfl, hg2, hs2, hr2, h7, h8⟩
    · exact .inl ⟨by simp [Sl], oa, rfl⟩
    · obtain rfl : g = g2 := by simpa using hL2
      rw [hg] at hg2
      cases hg2
      rw [SS C, Sl]
      have hd : (srt (l.map C.to)).toArray.size ≤ cur.size := by simp only [List.size_toArray, hlen, List.length_map]; omega
      have hlen2 : (List.map (fun c => [c]) (List.take l2.length (List.map C.pv (List.map C.of (srt (l.map C.to))))) ++ List.drop (List.map C.pv (List.map C.of (srt (l.map C.to)))).length l2).length = l2.length := by
        simp only [List.length_append, List.length_map, List.length_take, List.length_drop]
        omega
      refine .inr ⟨g, cap2, _, ty, rfl, by rw [hlen2], Nn hg n _ os, ?_, ?_, by rw [hlen2]; exact h7, by rw [hlen2]; exact h8⟩
      · simp [Go.Sort.putCells, hs2]
      · rw [hlen2, Nat.mul_one, BR C.cell _ cur hd, List.take_append]
        rw [Nat.mul_one] at hr2
        refine VR.append ?_ ?_
        · have hk : VR F (grow (putRow C.cell (Sort.ahead w n) g 0 (srt (l.map C.to)).toArray) os) 1 (cur.toList.take l2.length) l2 := by
            refine hr2.keep fun b hb => ⟨hb, hother.1 b (hGs b (hFG b hb)) fun e => (hLG g (by simp)).2 (hFG g (e ▸ hb))⟩
          have := VR.drop (srt (l.map C.to)).length hk
          rw [Nat.mul_one, List.drop_take] at this
          simpa using this
        · have hm : ∀ a, a ∈ (srt (l.map C.to)).map C.of → C.ok a := fun a ha => by
            obtain ⟨x, hx, rfl⟩ := List.mem_map.1 ha
            obtain ⟨b, hb, rfl⟩ := List.mem_map.1 (hmem _ _ hx)
            rw [C.of_to]; exact hok' b hb
          have := VR.take l2.length (GV C (X := F) (w := grow (putRow C.cell (Sort.ahead w n) g 0 (srt (l.map C.to)).toArray) os) hm)
          rw [Nat.mul_one, Qbs C] at this
          simpa [List.map_take, Function.comp_def, C.to_of] using this
theorem YK {f : Nat} (hok : C9 P f) (cmp : List σ → List σ) (hlen : ∀ l, (cmp l).length ≤ l.length) (hmem : ∀ l x, x ∈ cmp l → x ∈ l)
    (h0 : ∀ oa cap w, Calls P f #[.slice oa 0 cap] w fun e w' => e = .returned (.slice oa 0 cap) ∧ w' = w)
    (h1 : ∀ g cap (l : List σ) w, Holds C.cell w g 0 l.toArray → l.length ≤ 9223372036854775807 → l.length ≤ cap → Calls P f #[.slice (some ⟨g, 0, none⟩) l.length cap] w fun e w' => e = .returned (.slice (some ⟨g, 0, none⟩) (cmp l).length cap) ∧ ∃ q pad, (cmp l ++ pad).length = l.length ∧ w' = putRow C.cell (Sort.ahead w q) g 0 (cmp l ++ pad).toArray)
    (l : List α) : ATake P f 1 (eL l) [] false false (eL ((cmp (l.map C.to)).map C.of)) := by
  refine ⟨hok, fun w F G L v vals _ hFG _ hGs _ hLG hrow hargs => ?_⟩
  cases hargs
  rcases hrow with ⟨hl, oa, rfl⟩ | ⟨g, cap, cur, ty, rfl, rfl, hg, hs, hr, h5, h6⟩
  · obtain rfl : l = [] := by simpa [eL] using hl
    have hs0 : cmp [] = [] := List.eq_nil_of_length_eq_zero (by have := hlen []; simpa using this)
    refine (h0 oa 0 w).mono ?_
    rintro e w' ⟨rfl, rfl⟩
    rw [List.map_nil, hs0]
    exact ⟨_, rfl, fun m _ _ => Below.refl _ _, fun _ _ _ => rfl, [], List.nodup_nil, fun b hb => (by simp at hb), .inl ⟨rfl, oa, rfl⟩⟩
  · have hll : (eL l).length = l.length := by simp [eL]
    rw [hll] at hr h5 h6 ⊢
    rw [Nat.mul_one] at hr hs
    obtain ⟨hcs, hok'⟩ := GU C hr
    have hH : Holds C.cell w g 0 (l.map C.to).toArray := BS hg (by rw [List.length_map]; exact hcs)
    have hc := h1 g cap (l.map C.to) w hH (by rw [List.length_map]; have := h6.2; omega) (by rw [List.length_map]; exact h5)
    rw [List.length_map] at hc
    refine hc.mono ?_
    rintro e w' ⟨rfl, q, pad, hpad, rfl⟩
    have hw : putRow C.cell (Sort.ahead w q) g 0 (cmp (l.map C.to) ++ pad).toArray = grow (putRow C.cell (Sort.ahead w q) g 0 (cmp (l.map C.to) ++ pad).toArray) #[] := (grow_empty _).symm
    rw [hw]
    have hother := Rs (e := C.cell) w g q (cmp (l.map C.to) ++ pad).toArray #[]
    have hgl := Xe hg
    have hd : (cmp (l.map C.to) ++ pad).toArray.size ≤ cur.size := by rw [List.size_toArray, hpad]; omega
    have hle := hlen (l.map C.to)
    rw [List.length_map] at hle
    have hel : (eL ((cmp (l.map C.to)).map C.of)).length = (cmp (l.map C.to)).length := by simp [eL]
    have hsz : g < (grow (putRow C.cell (Sort.ahead w q) g 0 (cmp (l.map C.to) ++ pad).toArray) #[]).heap.size := Xe (Nn hg q _ #[])
    refine ⟨_, rfl, fun m hm hL => hother.2 m (hL g (by simp)) hm, fun b hb hn => hother.1 b hb (by simpa using hn), [g], by simp, fun b hb => ?_, .inr ⟨g, cap, _, ty, rfl, by rw [hel], Nn hg q _ #[], ?_, ?_, by rw [hel]; omega, h6.1, by rw [hel]; have := h6.2; omega⟩⟩
    · obtain rfl := List.mem_singleton.1 hb
      exact ⟨hsz, .inr (by simp)⟩
    · simp [Go.Sort.putCells, hs]
    · rw [hel, Nat.mul_one, BR C.cell _ cur hd]
      have hm : ∀ a, a ∈ (cmp (l.map C.to)).map C.of → C.ok a := fun a ha => by
        obtain ⟨x, hx, rfl⟩ := List.mem_map.1 ha
        obtain ⟨b, hb, rfl⟩ := List.mem_map.1 (hmem _ _ hx)
        rw [C.of_to]; exact hok' b hb
      have := GV C (X := F) (w := grow (putRow C.cell (Sort.ahead w q) g 0 (cmp (l.map C.to) ++ pad).toArray) #[]) hm
      have e1 : ((cmp (l.map C.to)).map C.of).map C.to = cmp (l.map C.to) := by simp [Function.comp_def, C.to_of]
      rw [e1] at this
      rw [List.map_append, List.append_assoc, List.take_left' (by simp)]
      exact VR.keep (fun b hb => ⟨.inl hb, rfl⟩) this
end
/-! ### the rows that Sort and Compact give, typed -/
def P4 (l : List Int) : List Int := l.mergeSort fun x y => decide (x ≤ y)
def Lo (l : List ByteArray) : List ByteArray := ((l.map oneS.to).mergeSort fun x y => decide (x ≤ y)).map oneS.of
def VT (l : List Int) : List Int := Lib.compact l
def Tl (l : List ByteArray) : List ByteArray := (Lib.compact (l.map oneS.to)).map oneS.of
theorem BT {σ : Type} [Inhabited σ] [DecidableEq σ] (l : List σ) (x : σ) (h : x ∈ Lib.compact l) : x ∈ l := by
  unfold Lib.compact Lib.compactUpTo at h
  simp only [List.mem_map, List.mem_filter, List.mem_range] at h
  obtain ⟨j, ⟨hj, _⟩, e⟩ := h
  have e1 : l.toArray[j]! = l[j] := by rw [getElem!_pos l.toArray j (by simpa using hj)]; simp
  rw [e1] at e
  exact e ▸ List.getElem_mem hj
theorem Mi {σ : Type} [Inhabited σ] [DecidableEq σ] (l : List σ) : (Lib.compact l).length ≤ l.length := by
  unfold Lib.compact Lib.compactUpTo
  rw [List.length_map]
  exact Nat.le_trans (List.length_filter_le _ _) (by rw [List.length_range]; exact Nat.le_refl _)
theorem VU (l : List Int) : (P4 l).length = l.length := List.length_mergeSort _
theorem VW (l : List ByteArray) : (Lo l).length = l.length := by simp [Lo, List.length_mergeSort]
theorem GX (l : List Int) : (VT l).length ≤ l.length := Mi l
theorem GY (l : List ByteArray) : (Tl l).length ≤ l.length := by
  have := Mi (l.map oneS.to)
  rw [List.length_map] at this
  simpa [Tl] using this
theorem BU {α : Type} [GoE α] {l k : List α} (h1 : ∀ a : α, (enc a).length = 1) (h : k.length = l.length) : OO (eL l) 0 4294967296 (eL k).flatten = eL k := by
  have hk : ∀ k : List α, ((eL k).flatten.map fun c => [c]) = eL k := fun k => by
    induction k with
    | nil => rfl
    | cons a k ih =>
      rw [ZO, List.flatten_cons, List.map_append, ih]
      have := h1 a
      match enc a, this with
      | [p], _ => rfl
  have hf : (eL k).flatten.length = k.length := by
    have := congrArg List.length (hk k)
    rw [List.length_map] at this
    rw [this]
    simp [eL]
  show Sl (eL l) (eL k).flatten = eL k
  unfold Sl
  have e1 : (eL l).length = l.length := by simp [eL]
  rw [e1, List.take_of_length_le (by omega), hk, List.drop_of_length_le (by omega), List.append_nil]
end Go.Proofs.YtockoklfegpgeaaGreat
namespace Go.Proofs.YtockoklfegpgeaaGreat
open Go.RowKit
section
variable {σ : Type} (lt : σ → σ → Prop)
theorem BV (irr : ∀ a, ¬ lt a a) (tr : ∀ a b c, lt a b → lt b c → lt a c) : ∀ (a b : List σ), a.Pairwise lt → b.Pairwise lt → (∀ x, x ∈ a ↔ x ∈ b) → a = b
  | [], [], _, _, _ => rfl
  | [], y :: b, _, _, h => by have := (h y).2 (by simp); simp at this
  | x :: a, [], _, _, h => by have := (h x).1 (by simp); simp at this
  | x :: a, y :: b, ha, hb, h => by
    rw [List.pairwise_cons] at ha hb
    have h1 : x = y := by
      have hx := (h x).1 (by simp)
      have hy := (h y).2 (by simp)
      simp only [List.mem_cons] at hx hy
      rcases hx with e | hx
      · exact e
      · rcases hy with e | hy
        · exact e.symm
        · exact (irr x (tr _ _ _ (ha.1 y hy) (hb.1 x hx))).elim
    subst h1
    congr 1
    refine BV irr tr a b ha.2 hb.2 fun z => ?_
    have hz := h z
    simp only [List.mem_cons] at hz
    constructor
    · intro hm
      have hlt := ha.1 z hm
      rcases hz.1 (.inr hm) with e | e
      · subst e; exact (irr z hlt).elim
      · exact e
    · intro hm
      have hlt := hb.1 z hm
      rcases hz.2 (.inr hm) with e | e
      · subst e; exact (irr z hlt).elim
      · exact e
theorem BW [Inhabited σ] [DecidableEq σ] (d : Array σ) (tr : ∀ a b c, ¬ lt b a → lt b c → lt a c) (tri : ∀ a b, ¬ lt b a → a ≠ b → lt a b) (hs : ∀ i j, i ≤ j → j < d.size → ¬ lt d[j]! d[i]!) :
    ∀ m, m ≤ d.size → (Lib.compactUpTo d m).Pairwise lt ∧ ∀ x, x ∈ Lib.compactUpTo d m ↔ ∃ j, j < m ∧ d[j]! = x
  | 0, _ => by simp [Lib.compactUpTo]
  | m + 1, hm => by
    obtain ⟨h1, h2⟩ := BW d tr tri hs m (by omega)
    rw [Lib.compactUpTo_succ]
    by_cases hk : Lib.keeps d m = true
    · rw [if_pos hk]
      refine ⟨?_, fun x => ?_⟩
      · rw [List.pairwise_append]
        refine ⟨h1, by simp, fun a ha b hb => ?_⟩
        obtain ⟨j, hj, rfl⟩ := (h2 a).1 ha
        obtain rfl : b = d[m]! := by simpa using hb
        have hle := hs j (m - 1) (by omega) (by omega)
        have hle2 := hs (m - 1) m (by omega) (by omega)
        have hne : d[m]! ≠ d[m - 1]! := by
          unfold Lib.keeps at hk
          simp only [Bool.or_eq_true, beq_iff_eq, bne_iff_ne, decide_eq_true_eq] at hk
          rcases hk with h | h
          · omega
          · exact h
        exact tr _ _ _ hle (tri _ _ hle2 fun e => hne e.symm)
      · rw [List.mem_append, h2 x]
        constructor
        · rintro (⟨j, hj, e⟩ | h)
          · exact ⟨j, by omega, e⟩
          · exact ⟨m, by omega, by simpa using (by simpa using h : x = d[m]!).symm⟩
        · rintro ⟨j, hj, e⟩
          by_cases hjm : j = m
          · subst hjm; exact .inr (by simp [e])
          · exact .inl ⟨j, by omega, e⟩
    · rw [if_neg hk, List.append_nil]
      refine ⟨h1, fun x => ?_⟩
      rw [h2 x]
      have hm0 : m ≠ 0 ∧ d[m]! = d[m - 1]! := by
        unfold Lib.keeps at hk
        simp only [Bool.or_eq_true, beq_iff_eq, bne_iff_ne, decide_eq_true_eq, not_or, Decidable.not_not] at hk
        exact hk
      constructor
      · rintro ⟨j, hj, e⟩; exact ⟨j, by omega, e⟩
      · rintro ⟨j, hj, e⟩
        by_cases hjm : j = m
        · subst hjm; exact ⟨j - 1, by omega, hm0.2 ▸ e⟩
        · exact ⟨j, by omega, e⟩
end
/-! ### texts -/
def bl (a b : ByteArray) : Bool := Op.bytesLess a.toList b.toList
theorem VX {a b c : List UInt8} (h : a < b) (h' : b < c) : a < c := List.lt_trans h h'
theorem GZ (a : List UInt8) : ¬ a < a := List.lt_irrefl a
theorem HV {a b : List UInt8} (h : ¬ b < a) (hn : a ≠ b) : a < b := Classical.byContradiction fun h' => hn (List.le_antisymm h h')
theorem Tm (a b : ByteArray) : bl a b = true ↔ a.data.toList < b.data.toList := by
  unfold bl
  rw [bytesLess_eq, ByteArray.toList_eq, ByteArray.toList_eq, decide_eq_true_iff]
theorem Qap (a : ByteArray) : bl a a = false := by
  cases h : bl a a with
  | false => rfl
  | true => exact (GZ _ ((Tm a a).1 h)).elim
theorem BX {a b c : ByteArray} (h : bl a b = true) (h' : bl b c = true) : bl a c = true := (Tm _ _).2 (VX ((Tm _ _).1 h) ((Tm _ _).1 h'))
theorem Qaq {a b : ByteArray} (h : bl b a = false) (hn : a ≠ b) : bl a b = true := (Tm _ _).2 (HV (fun hb => by rw [(Tm _ _).2 hb] at h; cases h) fun e => hn (by cases a; cases b; simp at e; rw [e]))
def VY : List ByteArray → ByteArray → List ByteArray
  | [], s => [s]
  | x :: l, s => if bl x s then x :: VY l s else if x = s then x :: l else s :: x :: l
def PK (l : List ByteArray) : Prop := l.Pairwise fun a b => bl a b = true
theorem ZZ (s x : ByteArray) : ∀ l, x ∈ VY l s ↔ x = s ∨ x ∈ l
  | [] => by simp [VY]
  | y :: l => by
    simp only [VY]
    split
    · rw [List.mem_cons, ZZ s x l, List.mem_cons]
      constructor
      · rintro (h | h | h) <;> simp [h]
      · rintro (h | h | h) <;> simp [h]
    · split
      · rename_i e
        subst e
        simp
      · simp
theorem BY (s : ByteArray) : ∀ l, PK l → PK (VY l s)
  | [], _ => by simp [PK, VY]
  | y :: l, h => by
    have h := List.pairwise_cons.1 h
    simp only [VY]
    split
    · rename_i hl
      refine List.pairwise_cons.2 ⟨fun z hz => ?_, BY s l h.2⟩
      rcases (ZZ s z l).1 hz with e | hz
      · exact e ▸ hl
      · exact h.1 z hz
    · split
      · exact List.pairwise_cons.2 h
      · rename_i hl hn
        have hs : bl s y = true := Qaq (by simpa using hl) fun e => hn e.symm
        refine List.pairwise_cons.2 ⟨fun z hz => ?_, List.pairwise_cons.2 h⟩
        rcases List.mem_cons.1 hz with rfl | hz
        · exact hs
        · exact BX hs (h.1 z hz)
theorem BZ (s : ByteArray) : ∀ l, (VY l s).length ≤ l.length + 1
  | [] => by simp [VY]
  | y :: l => by
    have := BZ s l
    simp only [VY]
    split
    · simp only [List.length_cons]; omega
    · split <;> simp
def Np (l xs : List ByteArray) : List ByteArray := xs.foldl VY l
theorem Tn (x : ByteArray) : ∀ xs l, x ∈ Np l xs ↔ x ∈ xs ∨ x ∈ l
  | [], l => by simp [Np]
  | y :: xs, l => by
    show x ∈ Np (VY l y) xs ↔ _
    rw [Tn x xs, ZZ, List.mem_cons]
    constructor
    · rintro (h | h | h) <;> simp [h]
    · rintro ((h | h) | h) <;> simp [h]
theorem To : ∀ xs l, PK l → PK (Np l xs)
  | [], _, h => h
  | y :: xs, l, h => To xs (VY l y) (BY y l h)
theorem NL (a b : List ByteArray) (ha : PK a) (hb : PK b) (h : ∀ x, x ∈ a ↔ x ∈ b) : a = b :=
  BV (fun a b => bl a b = true) (fun a h => by rw [Qap] at h; cases h) (fun _ _ _ => BX) a b ha hb h
theorem Tp (l : List ByteArray) : PK (Tl (Lo l)) ∧ ∀ x, x ∈ Tl (Lo l) ↔ x ∈ l := by
  have hto : (Lo l).map oneS.to = (l.map oneS.to).mergeSort fun x y => decide (x ≤ y) := by simp [Lo, Function.comp_def, oneS.to_of]
  unfold Tl
  rw [hto]
  generalize hm : l.map oneS.to = m
  have hp := List.mergeSort_perm m (fun x y => decide (x ≤ y))
  have hs := List.pairwise_mergeSort (le := fun (x y : List UInt8) => decide (x ≤ y)) (fun a b c h1 h2 => by
    simp only [decide_eq_true_eq] at h1 h2 ⊢; exact List.le_trans h1 h2) (fun a b => by
    have := List.le_total a b
    simpa using this) m
  generalize (m.mergeSort fun x y => decide (x ≤ y)) = s at hp hs
  have hget : ∀ j, j < s.length → s.toArray[j]! = s[j]! := fun j hj => by simp
  have hmono : ∀ i j, i ≤ j → j < s.toArray.size → ¬ s.toArray[j]! < s.toArray[i]! := fun i j hij hj => by
    have hj : j < s.length := by simpa using hj
    rw [hget i (by omega), hget j hj, getElem!_pos s i (by omega), getElem!_pos s j hj]
    by_cases e : i = j
    · subst e; exact GZ _
    · have := List.pairwise_iff_getElem.1 hs i j (by omega) hj (by omega)
      simpa using this
  obtain ⟨h1, h2⟩ := BW (fun a b : List UInt8 => a < b) s.toArray (fun a b c hab hbc => by
    by_cases e : a = b
    · exact e ▸ hbc
    · exact VX (HV hab e) hbc) (fun a b h hn => HV h hn) hmono s.length (by simp)
  refine ⟨?_, fun x => ?_⟩
  · refine List.pairwise_map.2 (h1.imp fun {a b} h => (Tm _ _).2 ?_)
    simpa [oneS] using h
  · have hmem : x ∈ l ↔ oneS.to x ∈ m := by
      rw [← hm, List.mem_map]
      refine ⟨fun h => ⟨x, h, rfl⟩, fun ⟨y, h, e⟩ => ?_⟩
      have := congrArg oneS.of e
      rw [oneS.of_to, oneS.of_to] at this
      exact this ▸ h
    rw [hmem, ← hp.mem_iff, List.mem_map]
    constructor
    · rintro ⟨y, hy, rfl⟩
      obtain ⟨j, hj, e⟩ := (h2 y).1 hy
      rw [hget j hj, getElem!_pos s j hj] at e
      rw [oneS.to_of]
      exact e ▸ List.getElem_mem hj
    · intro h
      obtain ⟨j, hj, e⟩ := List.getElem_of_mem h
      exact ⟨oneS.to x, (h2 _).2 ⟨j, hj, by rw [hget j hj, getElem!_pos s j hj]; exact e⟩, oneS.of_to x⟩
theorem NM (l : List ByteArray) : Tl (Lo l) = Np [] l :=
  NL _ _ (Tp l).1 (To l [] List.Pairwise.nil) fun x => by rw [(Tp l).2, Tn]; simp
end Go.Proofs.YtockoklfegpgeaaGreat
namespace Go.Proofs.YtockoklfegpgeaaGreat
abbrev Vr := List (Nat × Int)
def Ft (E : Vr) (L : List Int) : Int := E.foldl (fun m e => max m (nth L e.1 + e.2)) 0
theorem Ic (L : List Int) (x : Int) : ∀ (E : Vr) (m : Int), E.foldl (fun m e => max m (nth L e.1 + e.2)) m ≤ x ↔ m ≤ x ∧ ∀ e, e ∈ E → nth L e.1 + e.2 ≤ x
  | [], m => by simp
  | e :: E, m => by
    rw [List.foldl_cons, Ic L x E]
    constructor
    · rintro ⟨h1, h2⟩
      refine ⟨by omega, fun e' he => ?_⟩
      rcases List.mem_cons.1 he with rfl | he
      · omega
      · exact h2 e' he
    · rintro ⟨h1, h2⟩
      have := h2 e List.mem_cons_self
      exact ⟨by omega, fun e' he => h2 e' (List.mem_cons_of_mem _ he)⟩
theorem Bh {E : Vr} {L : List Int} {x : Int} : Ft E L ≤ x ↔ 0 ≤ x ∧ ∀ e, e ∈ E → nth L e.1 + e.2 ≤ x := Ic L x E 0
theorem Nq (E : Vr) (L : List Int) : 0 ≤ Ft E L := (Bh.1 (Int.le_refl _)).1
theorem VZ {E : Vr} {L M : List Int} (h : ∀ j, nth L j ≤ nth M j) : Ft E L ≤ Ft E M :=
  Bh.2 ⟨Nq E M, fun e he => by
    have := (Bh.1 (Int.le_refl (Ft E M))).2 e he
    have := h e.1
    omega⟩
theorem Nr {L : List Int} {i : Nat} (x : Int) (j : Nat) (hi : i < L.length) : nth (L.set i x) j = if j = i then x else nth L j := by
  unfold nth
  by_cases h : j = i
  · subst h; simp [List.getD, hi]
  · rw [if_neg h]; simp [List.getD, List.getElem?_set, Ne.symm h]
theorem Tq {L : List Int} {i : Nat} (h : L.length ≤ i) : nth L i = 0 := by
  unfold nth
  simp [List.getD, List.getElem?_eq_none h]
def Uy (E : Nat → Vr) (L : List Int) (i : Nat) : List Int := if nth L i < Ft (E i) L then L.set i (Ft (E i) L) else L
theorem Fa (E : Nat → Vr) (L : List Int) (i : Nat) : (Uy E L i).length = L.length := by unfold Uy; split <;> simp
theorem JA (E : Nat → Vr) (L : List Int) (i j : Nat) : nth L j ≤ nth (Uy E L i) j := by
  unfold Uy
  split
  · rename_i h
    by_cases hi : i < L.length
    · rw [Nr _ _ hi]; split
      · rename_i e; subst e; omega
      · omega
    · rw [List.set_eq_of_length_le (by omega)]; omega
  · omega
def rounds (E : Nat → Vr) (is : List Nat) (L : List Int) : List Int := is.foldl (Uy E) L
theorem Mj (E : Nat → Vr) : ∀ (is : List Nat) (L : List Int), (rounds E is L).length = L.length
  | [], _ => rfl
  | i :: is, L => (Mj E is (Uy E L i)).trans (Fa E L i)
theorem Ot (E : Nat → Vr) (j : Nat) : ∀ (is : List Nat) (L : List Int), nth L j ≤ nth (rounds E is L) j
  | [], _ => Int.le_refl _
  | i :: is, L => Int.le_trans (JA E L i j) (Ot E j is (Uy E L i))
theorem IA {L M : List Int} (hl : L.length = M.length) (h : ∀ j, nth L j = nth M j) : L = M := by
  apply List.ext_getElem hl
  intro i h1 h2
  have := h i
  simpa [nth, List.getD, h1, h2] using this
theorem YL (E : Nat → Vr) : ∀ (is : List Nat) (L : List Int), rounds E is L = L → ∀ i, i ∈ is → Uy E L i = L
  | [], _, _, i, hi => by simp at hi
  | a :: is, L, h, i, hi => by
    have h1 : Uy E L a = L := IA (Fa E L a) fun j => by
      have h2 := JA E L a j
      have h3 := Ot E j is (Uy E L a)
      have h4 : nth (rounds E is (Uy E L a)) j = nth L j := congrArg (nth · j) h
      omega
    rcases List.mem_cons.1 hi with rfl | hi
    · exact h1
    · refine YL E is L ?_ i hi
      have : rounds E is (Uy E L a) = L := h
      rwa [h1] at this
theorem YM {E : Nat → Vr} {L : List Int} {i : Nat} (hi : i < L.length) : Uy E L i = L ↔ Ft (E i) L ≤ nth L i := by
  unfold Uy
  constructor
  · intro h
    split at h
    · rename_i hlt
      have h2 : nth (L.set i (Ft (E i) L)) i = nth L i := by rw [h]
      rw [Nr _ _ hi, if_pos rfl] at h2
      omega
    · omega
  · intro h
    rw [if_neg (by omega)]
def Sat (E : Nat → Vr) (n : Nat) (g : List Int) : Prop := ∀ i, i < n → Ft (E i) g ≤ nth g i
theorem HW {E : Nat → Vr} {n : Nat} {L g : List Int} {i : Nat} (hi : i < n) (hn : L.length = n) (hs : Sat E n g) (h : ∀ j, nth L j ≤ nth g j) : ∀ j, nth (Uy E L i) j ≤ nth g j := by
  intro j
  unfold Uy
  split
  · rw [Nr _ _ (by omega)]
    split
    · rename_i e; subst e
      exact Int.le_trans (VZ h) (hs j hi)
    · exact h j
  · exact h j
theorem Lp {E : Nat → Vr} {n : Nat} {g : List Int} (hs : Sat E n g) : ∀ (is : List Nat) (L : List Int), (∀ i, i ∈ is → i < n) → L.length = n → (∀ j, nth L j ≤ nth g j) → ∀ j, nth (rounds E is L) j ≤ nth g j
  | [], _, _, _, h => h
  | i :: is, L, hi, hn, h => Lp hs is (Uy E L i) (fun k hk => hi k (List.mem_cons_of_mem _ hk)) ((Fa E L i).trans hn) (HW (hi i List.mem_cons_self) hn hs h)
theorem PM : ∀ (m : Nat) (l : List Int), (∀ v : Nat, v < m → ((v : Nat) : Int) ∈ l) → m ≤ l.length
  | 0, _, _ => Nat.zero_le _
  | m + 1, l, h => by
    have hm := h m (by omega)
    have := PM m (l.erase (m : Int)) fun v hv => (List.mem_erase_of_ne (by omega)).2 (h v (by omega))
    rw [List.length_erase_of_mem hm] at this
    have : 0 < l.length := List.length_pos_of_mem hm
    omega
theorem HX {L : List Int} {i : Nat} (h : i < L.length) : nth L i ∈ L := by
  have : nth L i = L[i] := by simp [nth, List.getD, h]
  rw [this]; exact List.getElem_mem h
theorem JB {L : List Int} {x : Int} (h : x ∈ L) : ∃ i, i < L.length ∧ nth L i = x := by
  obtain ⟨i, hi, e⟩ := List.getElem_of_mem h
  exact ⟨i, hi, by rw [← e]; simp [nth, List.getD, hi]⟩
theorem ST {L : List Int} {f : Int → Int} {i : Nat} (h : i < L.length) : nth (L.map f) i = f (nth L i) := by simp [nth, List.getD, h]
theorem DY {E : Nat → Vr} {n : Nat} {f : List Int} (hw : ∀ i e, e ∈ E i → e.2 ≤ 1 ∧ e.1 < n) (hlen : f.length = n) (hs : Sat E n f) (hleast : ∀ g : List Int, g.length = n → Sat E n g → (∀ j, 0 ≤ nth g j) → ∀ j, nth f j ≤ nth g j) (h0 : ∀ j, 0 ≤ nth f j) :
    ∀ i, i < n → nth f i < (n : Int) := by
  intro i hi
  have hall : ∀ v : Nat, (v : Int) ≤ nth f i → ((v : Nat) : Int) ∈ f := fun v hv => by
    refine Classical.byContradiction fun hno => ?_
    have hne : ∀ j, j < n → nth f j ≠ v := fun j hj e => hno (e ▸ HX (by omega))
    have hvi : (v : Int) < nth f i := by have := hne i hi; omega
    let g := f.map fun x => if (v : Int) < x then x - 1 else x
    have hg : ∀ j, j < n → nth g j = if (v : Int) < nth f j then nth f j - 1 else nth f j := fun j hj => ST (by omega)
    have hg0 : ∀ j, ¬ j < n → nth g j = 0 := fun j hj => Tq (by simp only [g, List.length_map]; omega)
    have hf0 : ∀ j, ¬ j < n → nth f j = 0 := fun j hj => Tq (by omega)
    have hpos : ∀ j, 0 ≤ nth g j := fun j => by
      by_cases hj : j < n
      · rw [hg j hj]; have := h0 j; split <;> omega
      · rw [hg0 j hj]; omega
    have := hleast g (by simp only [g, List.length_map]; exact hlen) (fun k hk => Bh.2 ⟨hpos k, fun e he => ?_⟩) hpos i
    · rw [hg i hi, if_pos hvi] at this; omega
    · have h1 := (Bh.1 (hs k hk)).2 e he
      obtain ⟨h2, hj⟩ := hw k e he
      have h3 := hne k hk
      rw [hg k hk]
      have h4 := hne e.1 hj
      rw [hg e.1 hj]
      split <;> split <;> omega
  have hp := PM ((nth f i).toNat + 1) f fun v hv => hall v (by have := h0 i; omega)
  have := h0 i
  omega
/-! ### rounds until rest -/
theorem IB : ∀ (L : List Int) (i : Nat) (x : Int), i < L.length → (L.set i x).sum = L.sum + (x - nth L i)
  | [], i, x, h => by simp at h
  | a :: L, 0, x, _ => by simp [nth]; omega
  | a :: L, i + 1, x, h => by
    have := IB L i x (by simpa using h)
    have e : nth (a :: L) (i + 1) = nth L i := rfl
    rw [e, List.set_cons_succ, List.sum_cons, List.sum_cons, this]
    omega
theorem CA : ∀ (L : List Int) (N : Int), (∀ x, x ∈ L → x ≤ N) → L.sum ≤ (L.length : Int) * N
  | [], N, _ => by simp
  | a :: L, N, h => by
    have h1 := CA L N fun x hx => h x (List.mem_cons_of_mem _ hx)
    have h2 := h a List.mem_cons_self
    rw [List.sum_cons, List.length_cons, Int.natCast_add, Int.add_mul]
    omega
theorem WA {E : Nat → Vr} {L : List Int} {i : Nat} (hi : i < L.length) : L.sum ≤ (Uy E L i).sum ∧ (Uy E L i ≠ L → L.sum + 1 ≤ (Uy E L i).sum) := by
  unfold Uy
  split
  · rename_i h
    have := IB L i (Ft (E i) L) hi
    omega
  · exact ⟨Int.le_refl _, fun h => (h rfl).elim⟩
theorem Mk {E : Nat → Vr} : ∀ (is : List Nat) (L : List Int), (∀ i, i ∈ is → i < L.length) → L.sum ≤ (rounds E is L).sum ∧ (rounds E is L ≠ L → L.sum + 1 ≤ (rounds E is L).sum)
  | [], L, _ => ⟨Int.le_refl _, fun h => (h rfl).elim⟩
  | i :: is, L, h => by
    obtain ⟨h1, h2⟩ := WA (E := E) (h i List.mem_cons_self)
    obtain ⟨h3, h4⟩ := Mk (E := E) is (Uy E L i) fun k hk => by rw [Fa]; exact h k (List.mem_cons_of_mem _ hk)
    show L.sum ≤ (rounds E is (Uy E L i)).sum ∧ (rounds E is (Uy E L i) ≠ L → L.sum + 1 ≤ (rounds E is (Uy E L i)).sum)
    refine ⟨by omega, fun hn => ?_⟩
    by_cases e : Uy E L i = L
    · have := h4 (by rw [e] at hn ⊢; exact hn)
      omega
    · have := h2 e
      omega
def Dg (E : Nat → Vr) (N : Int) : List Nat → Bool × List Int → Option (Bool × List Int)
  | [], s => some s
  | i :: is, s => if N < Ft (E i) s.2 then none else Dg E N is (if nth s.2 i < Ft (E i) s.2 then (true, s.2.set i (Ft (E i) s.2)) else s)
theorem D2 {E : Nat → Vr} {N : Int} : ∀ (is : List Nat) (c : Bool) (L : List Int) (s : Bool × List Int), (∀ i, i ∈ is → i < L.length) → Dg E N is (c, L) = some s → s.2 = rounds E is L ∧ (s.1 = true → c = true ∨ rounds E is L ≠ L) ∧ (s.1 = false → c = false ∧ rounds E is L = L) ∧ ((∀ j, nth L j ≤ N) → ∀ j, nth s.2 j ≤ N)
  | [], c, L, s, _, h => by
    obtain rfl := Option.some.inj h
    exact ⟨rfl, fun h => .inl h, fun h => ⟨h, rfl⟩, fun h => h⟩
  | i :: is, c, L, s, hi, h => by
    have hil := hi i List.mem_cons_self
    have hlen : ∀ k, k ∈ is → k < (Uy E L i).length := fun k hk => by rw [Fa]; exact hi k (List.mem_cons_of_mem _ hk)
    simp only [Dg] at h
    split at h
    · cases h
    · rename_i hN
      split at h
      · rename_i hlt
        have er : Uy E L i = L.set i (Ft (E i) L) := by unfold Uy; rw [if_pos hlt]
        rw [← er] at h
        obtain ⟨h1, h2, h3, h4⟩ := D2 is true (Uy E L i) s hlen h
        have hne : rounds E (i :: is) L ≠ L := fun e => by
          have := (Mk (E := E) is (Uy E L i) hlen).1
          have h5 := (WA (E := E) hil).2 fun e' => by
            have := (YM hil).1 e'
            omega
          have h6 : (rounds E is (Uy E L i)).sum = L.sum := congrArg List.sum e
          omega
        refine ⟨h1, fun _ => .inr hne, fun h => (by have := (h3 h).1; cases this), fun hb j => h4 (fun j => ?_) j⟩
        rw [er, Nr _ _ hil]
        split
        · omega
        · exact hb j
      · rename_i hlt
        have er : Uy E L i = L := by unfold Uy; rw [if_neg hlt]
        have e2 : rounds E (i :: is) L = rounds E is L := by show rounds E is (Uy E L i) = _; rw [er]
        rw [e2]
        exact D2 is c L s (fun k hk => hi k (List.mem_cons_of_mem _ hk)) h
theorem Rt {E : Nat → Vr} {N : Int} : ∀ (is : List Nat) (c : Bool) (L : List Int), Dg E N is (c, L) = none → ∃ pre i, (∀ k, k ∈ pre → k ∈ is) ∧ i ∈ is ∧ N < Ft (E i) (rounds E pre L)
  | [], c, L, h => by cases h
  | i :: is, c, L, h => by
    simp only [Dg] at h
    split at h
    · rename_i hN
      exact ⟨[], i, fun k hk => by simp at hk, List.mem_cons_self, hN⟩
    · have key : ∀ c' L', L' = Uy E L i → Dg E N is (c', L') = none → ∃ pre k, (∀ x, x ∈ pre → x ∈ i :: is) ∧ k ∈ i :: is ∧ N < Ft (E k) (rounds E pre L) := fun c' L' e h => by
        obtain ⟨pre, k, h1, h2, h3⟩ := Rt is c' L' h
        subst e
        refine ⟨i :: pre, k, fun x hx => ?_, List.mem_cons_of_mem _ h2, h3⟩
        rcases List.mem_cons.1 hx with rfl | hx
        · exact List.mem_cons_self
        · exact List.mem_cons_of_mem _ (h1 x hx)
      split at h
      · rename_i hlt
        exact key true _ (by unfold Uy; rw [if_pos hlt]) h
      · rename_i hlt
        exact key c _ (by unfold Uy; rw [if_neg hlt]) h
def P5 (E : Nat → Vr) (N : Int) (n : Nat) : Nat → Bool × List Int → Option (Option (List Int))
  | 0, _ => none
  | k + 1, s => match s.1 with
    | true => (match Dg E N (List.range n) (false, s.2) with
      | none => some none
      | some s' => P5 E N n k s')
    | false => some (some s.2)
theorem A6 {n i : Nat} (h : i ∈ List.range n) : i < n := List.mem_range.1 h
theorem YN {E : Nat → Vr} {n : Nat} : ∀ (k : Nat) (c : Bool) (L : List Int), L.length = n → (∀ j, nth L j ≤ (n : Int)) → (n : Int) * (n : Int) - L.sum + 2 ≤ (k : Int) → (P5 E n n k (c, L)).isSome = true
  | 0, c, L, hl, hb, hk => by
    have := CA L n fun x hx => by obtain ⟨i, _, e⟩ := JB hx; exact e ▸ hb i
    rw [hl] at this
    omega
  | k + 1, false, L, hl, hb, hk => rfl
  | k + 1, true, L, hl, hb, hk => by
    simp only [P5]
    cases hc : Dg E n (List.range n) (false, L) with
    | none => rfl
    | some s =>
      obtain ⟨h1, h2, h3, h4⟩ := D2 (List.range n) false L s (fun i hi => by rw [hl]; exact A6 hi) hc
      obtain ⟨c', L'⟩ := s
      simp only at h1 h2 h3 h4 ⊢
      have hl' : L'.length = n := by rw [h1, Mj, hl]
      have hs := Mk (E := E) (List.range n) L fun i hi => by rw [hl]; exact A6 hi
      rw [← h1] at hs
      cases c' with
      | false =>
        cases k with
        | zero =>
          have := CA L n fun x hx => by obtain ⟨i, _, e⟩ := JB hx; exact e ▸ hb i
          rw [hl] at this
          omega
        | succ k => rfl
      | true =>
        have hne : L' ≠ L := by
          rcases h2 rfl with h | h
          · cases h
          · rw [h1]; exact h
        have := hs.2 hne
        exact YN k true L' hl' (h4 hb) (by omega)
def after (E : Nat → Vr) (n : Nat) : Nat → List Int
  | 0 => List.replicate n 0
  | k + 1 => rounds E (List.range n) (after E n k)
theorem Wh (E : Nat → Vr) (n : Nat) : ∀ k, (after E n k).length = n
  | 0 => by simp [after]
  | k + 1 => by rw [after, Mj, Wh E n k]
def EQ (E : Nat → Vr) (n : Nat) (L : List Int) : Prop := rounds E (List.range n) L = L
theorem Sb (n j : Nat) : nth (List.replicate n (0 : Int)) j = 0 := by
  by_cases h : j < n
  · simp [nth, List.getD, h]
  · exact Tq (by simp; omega)
theorem H0 (E : Nat → Vr) (n j : Nat) : ∀ k, 0 ≤ nth (after E n k) j
  | 0 => by rw [after, Sb]; omega
  | k + 1 => Int.le_trans (H0 E n j k) (Ot E j _ _)
theorem Ou {E : Nat → Vr} {n : Nat} {L : List Int} (hl : L.length = n) (h : EQ E n L) : Sat E n L := fun i hi => (YM (by omega)).1 (YL E _ L h i (List.mem_range.2 hi))
theorem Ie {E : Nat → Vr} {n : Nat} {g : List Int} (hs : Sat E n g) (h0 : ∀ j, 0 ≤ nth g j) : ∀ k j, nth (after E n k) j ≤ nth g j
  | 0, j => by rw [after, Sb]; exact h0 j
  | k + 1, j => Lp hs _ _ (fun i hi => A6 hi) (Wh E n k) (Ie hs h0 k) j
theorem Ml {E : Nat → Vr} {n k : Nat} (h : EQ E n (after E n k)) : ∀ d, after E n (k + d) = after E n k
  | 0 => rfl
  | d + 1 => by
    show rounds E (List.range n) (after E n (k + d)) = _
    rw [Ml h d]
    exact h
theorem IC {E : Nat → Vr} {n k m : Nat} (hk : EQ E n (after E n k)) (hm : EQ E n (after E n m)) : after E n k = after E n m := by
  rcases Nat.le_total k m with h | h
  · have := Ml hk (m - k)
    rw [show k + (m - k) = m by omega] at this
    exact this.symm
  · have := Ml hm (k - m)
    rwa [show m + (k - m) = k by omega] at this
theorem Tr {E : Nat → Vr} {n : Nat} : ∀ k, (∀ j, j < k → ¬ EQ E n (after E n j)) → (k : Int) ≤ (after E n k).sum
  | 0, _ => by
    have : ∀ n : Nat, (List.replicate n (0 : Int)).sum = 0 := fun n => by simp
    rw [after, this]; omega
  | k + 1, h => by
    have h1 := Tr k fun j hj => h j (by omega)
    have h2 := (Mk (E := E) (List.range n) (after E n k) fun i hi => by rw [Wh]; exact A6 hi).2 (h k (by omega))
    show ((k + 1 : Nat) : Int) ≤ (rounds E (List.range n) (after E n k)).sum
    omega
variable {E : Nat → Vr} {n : Nat} (hw : ∀ i e, e ∈ E i → e.2 ≤ 1 ∧ e.1 < n)
include hw in
theorem HY {k : Nat} (h : EQ E n (after E n k)) : ∀ i, i < n → nth (after E n k) i < (n : Int) :=
  DY hw (Wh E n k) (Ou (Wh E n k) h) (fun _ _ hs h0 => Ie hs h0 k) fun j => H0 E n j k
include hw in
theorem ID {k : Nat} (h : EQ E n (after E n k)) : EQ E n (after E n (n * n + 2)) := by
  have hex : ∃ j, j ≤ n * n + 1 ∧ EQ E n (after E n j) := Classical.byContradiction fun hno => by
    have h1 := Tr (E := E) (n := n) (n * n + 2) fun j hj hr => hno ⟨j, by omega, hr⟩
    have h2 := CA (after E n (n * n + 2)) n fun x hx => by
      obtain ⟨i, hi, e⟩ := JB hx
      rw [Wh] at hi
      have h3 := Ie (Ou (Wh E n k) h) (fun j => H0 E n j k) (n * n + 2) i
      have := HY hw h i hi
      omega
    rw [Wh] at h2
    have h3 : ((n * n + 2 : Nat) : Int) = (n : Int) * (n : Int) + 2 := by rw [Int.natCast_add, Int.natCast_mul]; rfl
    omega
  obtain ⟨j, hj, hr⟩ := hex
  have := Ml hr (n * n + 2 - j)
  rw [show j + (n * n + 2 - j) = n * n + 2 by omega] at this
  rw [this]; exact hr
include hw in
theorem Sc : ∀ (k m : Nat) (c : Bool) (r : Option (List Int)), (c = false → EQ E n (after E n m)) → P5 E n n k (c, after E n m) = some r →
    (∀ L, r = some L → EQ E n (after E n (n * n + 2)) ∧ L = after E n (n * n + 2)) ∧ (r = none → ¬ EQ E n (after E n (n * n + 2)))
  | 0, m, c, r, _, h => by cases h
  | k + 1, m, false, r, hc, h => by
    obtain rfl := Option.some.inj h
    have hr := hc rfl
    have hs := ID hw hr
    refine ⟨fun L e => ⟨hs, ?_⟩, fun e => by cases e⟩
    obtain rfl := Option.some.inj e
    exact IC hr hs
  | k + 1, m, true, r, _, h => by
    simp only [P5] at h
    have hlt : ∀ i, i ∈ List.range n → i < (after E n m).length := fun i hi => by rw [Wh]; exact A6 hi
    cases hcr : Dg E n (List.range n) (false, after E n m) with
    | none =>
      rw [hcr] at h
      obtain rfl := Option.some.inj h
      refine ⟨fun L e => (by cases e), fun _ hr => ?_⟩
      obtain ⟨pre, i, h1, h2, h3⟩ := Rt _ _ _ hcr
      have hsat := Ou (Wh E n _) hr
      have h4 := Lp hsat pre (after E n m) (fun i hi => A6 (h1 i hi)) (Wh E n m) (Ie hsat (fun j => H0 E n j _) m)
      have h5 := VZ (E := E i) h4
      have h6 := hsat i (A6 h2)
      have h7 := HY hw hr i (A6 h2)
      omega
    | some s =>
      rw [hcr] at h
      obtain ⟨h1, _, h3, _⟩ := D2 _ _ _ s hlt hcr
      obtain ⟨c', L'⟩ := s
      simp only at h1 h3 h
      have e : L' = after E n (m + 1) := h1
      subst e
      refine Sc k (m + 1) c' r (fun hc => ?_) h
      have h5 := (h3 hc).2
      show rounds E (List.range n) (after E n (m + 1)) = after E n (m + 1)
      have e2 : after E n (m + 1) = after E n m := h5
      rw [e2]; exact h5
omit hw
/-! ### the other way to Uy: edge by edge -/
def Pr (i : Nat) (L : List Int) (e : Nat × Int) : List Int := if nth L i < nth L e.1 + e.2 then L.set i (nth L e.1 + e.2) else L
def Bi (i : Nat) (E : Vr) (L : List Int) : List Int := E.foldl (Pr i) L
theorem Ig (i : Nat) (L : List Int) (e : Nat × Int) : (Pr i L e).length = L.length := by unfold Pr; split <;> simp
theorem Fb (i : Nat) : ∀ (E : Vr) (L : List Int), (Bi i E L).length = L.length
  | [], _ => rfl
  | e :: E, L => (Fb i E (Pr i L e)).trans (Ig i L e)
theorem Sd {i : Nat} {L : List Int} (e : Nat × Int) (hi : i < L.length) (j : Nat) : nth (Pr i L e) j = if j = i then max (nth L i) (nth L e.1 + e.2) else nth L j := by
  unfold Pr
  split
  · rw [Nr _ _ hi]; split <;> omega
  · split
    · rename_i h; subst h; omega
    · rfl
theorem WB {i : Nat} : ∀ (E : Vr) {L M : List Int}, i < M.length → (∀ j, j ≠ i → nth M j = nth L j) → nth L i ≤ nth M i → (∀ e, e ∈ E → e.1 = i → e.2 ≤ 0) → ∀ j, nth (Bi i E M) j = if j = i then E.foldl (fun m e => max m (nth L e.1 + e.2)) (nth M i) else nth L j
  | [], L, M, hi, hj, h0, hs, j => by
    show nth M j = _
    split
    · rename_i e; subst e; rfl
    · rename_i e; exact hj j e
  | e :: E, L, M, hi, hj, h0, hs, j => by
    show nth (Bi i E (Pr i M e)) j = _
    have hb := Sd e hi
    have hmax : nth (Pr i M e) i = max (nth M i) (nth L e.1 + e.2) := by
      rw [hb, if_pos rfl]
      by_cases he : e.1 = i
      · have := hs e List.mem_cons_self he
        rw [he]; omega
      · rw [hj e.1 he]
    rw [WB E (L := L) (M := Pr i M e) (by rw [Ig]; exact hi) (fun k hk => by rw [hb, if_neg hk]; exact hj k hk) (by rw [hmax]; omega) (fun e' he' => hs e' (List.mem_cons_of_mem _ he')) j, hmax, List.foldl_cons]
theorem NN (L : List Int) : ∀ (E : Vr) (m : Int), 0 ≤ m → E.foldl (fun m e => max m (nth L e.1 + e.2)) m = max m (Ft E L) := fun E m hm => by
  have h1 := Ic L (E.foldl (fun m e => max m (nth L e.1 + e.2)) m) E m
  have h2 := h1.1 (Int.le_refl _)
  have h3 : Ft E L ≤ E.foldl (fun m e => max m (nth L e.1 + e.2)) m := Bh.2 ⟨by omega, h2.2⟩
  have h4 := (Ic L (max m (Ft E L)) E m).2 ⟨by omega, fun e he => by have := (Bh.1 (Int.le_refl (Ft E L))).2 e he; omega⟩
  omega
theorem NO {E : Nat → Vr} {L : List Int} {i : Nat} (hi : i < L.length) (h0 : 0 ≤ nth L i) (hs : ∀ e, e ∈ E i → e.1 = i → e.2 ≤ 0) : Bi i (E i) L = Uy E L i :=
  IA ((Fb i (E i) L).trans (Fa E L i).symm) fun j => by
    rw [WB (E i) hi (fun _ _ => rfl) (Int.le_refl _) hs, NN _ _ _ h0]
    unfold Uy
    by_cases hlt : nth L i < Ft (E i) L
    · rw [if_pos hlt, Nr _ _ hi]; split <;> omega
    · rw [if_neg hlt]; split
      · rename_i e; subst e; omega
      · rfl
theorem Se {i : Nat} : ∀ (E : Vr) {L : List Int}, i < L.length → ∀ j, nth L j ≤ nth (Bi i E L) j
  | [], _, _, _ => Int.le_refl _
  | e :: E, L, hi, j => by
    have h1 := Se E (L := Pr i L e) (by rw [Ig]; exact hi) j
    have h2 := Sd e hi j
    show _ ≤ nth (Bi i E (Pr i L e)) j
    split at h2
    · rename_i h; subst h; omega
    · omega
theorem YO {i : Nat} : ∀ (E : Vr) {L : List Int}, i < L.length → (∃ e, e ∈ E ∧ e.1 = i ∧ 1 ≤ e.2) → nth L i + 1 ≤ nth (Bi i E L) i
  | [], _, _, ⟨e, he, _⟩ => by simp at he
  | e :: E, L, hi, ⟨e', he, h1, h2⟩ => by
    have h3 := Sd e hi i
    rw [if_pos rfl] at h3
    have hb := Se E (L := Pr i L e) (by rw [Ig]; exact hi) i
    show _ ≤ nth (Bi i E (Pr i L e)) i
    rcases List.mem_cons.1 he with rfl | he
    · rw [h1] at h3; omega
    · have := YO E (L := Pr i L e) (by rw [Ig]; exact hi) ⟨e', he, h1, h2⟩
      omega
def Au (E : Nat → Vr) (is : List Nat) (L : List Int) : List Int := is.foldl (fun L i => Bi i (E i) L) L
theorem Ns (E : Nat → Vr) : ∀ (is : List Nat) (L : List Int), (Au E is L).length = L.length
  | [], _ => rfl
  | i :: is, L => (Ns E is (Bi i (E i) L)).trans (Fb i _ L)
theorem P6 {E : Nat → Vr} (hs : ∀ i e, e ∈ E i → e.1 = i → e.2 ≤ 0) : ∀ (is : List Nat) (L : List Int), (∀ i, i ∈ is → i < L.length) → (∀ j, 0 ≤ nth L j) → Au E is L = rounds E is L
  | [], _, _, _ => rfl
  | i :: is, L, hi, h0 => by
    have hil := hi i List.mem_cons_self
    show Au E is (Bi i (E i) L) = rounds E is (Uy E L i)
    rw [NO hil (h0 i) (hs i)]
    exact P6 hs is _ (fun k hk => by rw [Fa]; exact hi k (List.mem_cons_of_mem _ hk)) fun j => Int.le_trans (h0 j) (JA E L i j)
theorem YP {E : Nat → Vr} : ∀ (is : List Nat) (L : List Int), (∀ i, i ∈ is → i < L.length) → ∀ j, nth L j ≤ nth (Au E is L) j
  | [], _, _, _ => Int.le_refl _
  | i :: is, L, hi, j => Int.le_trans (Se (E i) (hi i List.mem_cons_self) j) (YP is (Bi i (E i) L) (fun k hk => by rw [Fb]; exact hi k (List.mem_cons_of_mem _ hk)) j)
theorem Ru {E : Nat → Vr} {i : Nat} (he : ∃ e, e ∈ E i ∧ e.1 = i ∧ 1 ≤ e.2) : ∀ (is : List Nat) (L : List Int), (∀ i, i ∈ is → i < L.length) → i ∈ is → nth L i + 1 ≤ nth (Au E is L) i
  | [], _, _, h => by simp at h
  | k :: is, L, hi, h => by
    have hk := hi k List.mem_cons_self
    have hl : ∀ x, x ∈ is → x < (Bi k (E k) L).length := fun x hx => by rw [Fb]; exact hi x (List.mem_cons_of_mem _ hx)
    show _ ≤ nth (Au E is (Bi k (E k) L)) i
    have h1 := Se (E k) hk i
    have h2 := YP (E := E) is (Bi k (E k) L) hl i
    rcases List.mem_cons.1 h with rfl | h
    · have := YO (E i) hk he
      omega
    · have := Ru he is (Bi k (E k) L) hl h
      omega
def H1 (E : Nat → Vr) (n : Nat) : Nat → List Int
  | 0 => List.replicate n 0
  | k + 1 => Au E (List.range n) (H1 E n k)
theorem Mm (E : Nat → Vr) (n : Nat) : ∀ k, (H1 E n k).length = n
  | 0 => by simp [H1]
  | k + 1 => by rw [H1, Ns, Mm E n k]
theorem WC {E : Nat → Vr} {n : Nat} (hs : ∀ i e, e ∈ E i → e.1 = i → e.2 ≤ 0) : ∀ k, H1 E n k = after E n k
  | 0 => rfl
  | k + 1 => by
    rw [H1, after, WC hs k]
    exact P6 hs _ _ (fun i hi => by rw [Wh]; exact A6 hi) fun j => H0 E n j k
theorem IE {E : Nat → Vr} {n : Nat} (hw : ∀ i e, e ∈ E i → e.2 ≤ 1 ∧ e.1 < n ∧ i < n) {k : Nat} {r : Option (List Int)} (h : P5 E n n k (true, List.replicate n 0) = some r) :
    (Au E (List.range n) (H1 E n (n * n + 2)) = H1 E n (n * n + 2) → r = some (H1 E n (n * n + 2))) ∧ (Au E (List.range n) (H1 E n (n * n + 2)) ≠ H1 E n (n * n + 2) → r = none) := by
  have hw' : ∀ i e, e ∈ E i → e.2 ≤ 1 ∧ e.1 < n := fun i e he => ⟨(hw i e he).1, (hw i e he).2.1⟩
  obtain ⟨h1, h2⟩ := Sc hw' k 0 true r (fun e => by cases e) h
  by_cases hself : ∃ i, ∃ e, e ∈ E i ∧ e.1 = i ∧ 1 ≤ e.2
  · obtain ⟨i, e, he, hei, h3⟩ := hself
    have hi : i < n := (hw i e he).2.2
    have hne : Au E (List.range n) (H1 E n (n * n + 2)) ≠ H1 E n (n * n + 2) := fun heq => by
      have := Ru (E := E) ⟨e, he, hei, h3⟩ (List.range n) (H1 E n (n * n + 2)) (fun k hk => by rw [Mm]; exact A6 hk) (List.mem_range.2 hi)
      rw [heq] at this; omega
    refine ⟨fun h => (hne h).elim, fun _ => ?_⟩
    cases r with
    | none => rfl
    | some L =>
      obtain ⟨hr, _⟩ := h1 L rfl
      have h4 := Ou (Wh E n _) hr i hi
      have h5 := (Bh.1 h4).2 e he
      rw [hei] at h5
      omega
  · have hs : ∀ i e, e ∈ E i → e.1 = i → e.2 ≤ 0 := fun i e he hei => Classical.byContradiction fun hn => hself ⟨i, e, he, hei, by omega⟩
    rw [WC hs, P6 hs _ _ (fun i hi => by rw [Wh]; exact A6 hi) fun j => H0 E n j _]
    refine ⟨fun hr => ?_, fun hr => ?_⟩
    · cases r with
      | none => exact (h2 rfl hr).elim
      | some L => rw [(h1 L rfl).2]
    · cases r with
      | none => rfl
      | some L => exact (hr (h1 L rfl).1).elim
end Go.Proofs.YtockoklfegpgeaaGreat
namespace Go.Proofs.YtockoklfegpgeaaGreat
open Go.Shelf
def Sh.lays189_ren : Go.Shelf.Ren := ⟨fun | 189 => 63 | 125 => 89 | 257 => 88 | 128 => 124 | 129 => 125 | 294 => 115 | 295 => 116 | 296 => 117 | 297 => 118 | 298 => 119 | 299 => 120 | 216 => 121 | 300 => 122 | 301 => 123 | 328 => 145 | 329 => 146 | 330 => 147 | 331 => 148 | 332 => 149 | 215 => 150 | 343 => 169 | n => n, fun | 28 => 24 | 3 => 3 | 46 => 121 | 0 => 0 | 51 => 159 | 53 => 161 | 4 => 4 | 183 => 151 | 182 => 150 | 131 => 156 | 5 => 5 | 9 => 9 | 218 => 171 | 222 => 175 | 228 => 187 | 229 => 188 | n => n, fun | n => n⟩
theorem Sh.lays189 : Go.Proofs.Lays.n189 Tryz.prog Sh.lays189_ren := {
  mixed := by kernel_rfl
  f125 := Tryz.func89.trans (congrArg some (by kernel_rfl))
  f128 := Tryz.func124.trans (congrArg some (by kernel_rfl))
  f129 := Tryz.func125.trans (congrArg some (by kernel_rfl))
  f189 := Tryz.func63.trans (congrArg some (by kernel_rfl))
  f215 := Tryz.func150.trans (congrArg some (by kernel_rfl))
  f216 := Tryz.func121.trans (congrArg some (by kernel_rfl))
  f257 := Tryz.func88.trans (congrArg some (by kernel_rfl))
  f294 := Tryz.func115.trans (congrArg some (by kernel_rfl))
  f295 := Tryz.func116.trans (congrArg some (by kernel_rfl))
  f296 := Tryz.func117.trans (congrArg some (by kernel_rfl))
  f297 := Tryz.func118.trans (congrArg some (by kernel_rfl))
  f298 := Tryz.func119.trans (congrArg some (by kernel_rfl))
  f299 := Tryz.func120.trans (congrArg some (by kernel_rfl))
  f300 := Tryz.func122.trans (congrArg some (by kernel_rfl))
  f301 := Tryz.func123.trans (congrArg some (by kernel_rfl))
  f328 := Tryz.func145.trans (congrArg some (by kernel_rfl))
  f329 := Tryz.func146.trans (congrArg some (by kernel_rfl))
  f330 := Tryz.func147.trans (congrArg some (by kernel_rfl))
  f331 := Tryz.func148.trans (congrArg some (by kernel_rfl))
  f332 := Tryz.func149.trans (congrArg some (by kernel_rfl))
  f343 := Tryz.func169.trans (congrArg some (by kernel_rfl))
  t0 := Tryz.underlying0
  a0 := Tryz.isAgg0
  z0 := Tryz.sizeOf0
  v0 := Tryz.zeroValue0
  t3 := Tryz.underlying3
  a3 := Tryz.isAgg3
  z3 := Tryz.sizeOf3
  v3 := Tryz.zeroValue3
  t4 := Tryz.underlying4
  a4 := Tryz.isAgg4
  z4 := Tryz.sizeOf4
  v4 := Tryz.zeroValue4
  t5 := Tryz.underlying5
  a5 := Tryz.isAgg5
  z5 := Tryz.sizeOf5
  v5 := Tryz.zeroValue5
  t9 := Tryz.underlying9
  a9 := Tryz.isAgg9
  z9 := Tryz.sizeOf9
  v9 := Tryz.zeroValue9
  t28 := Tryz.underlying24
  a28 := Tryz.isAgg24
  z28 := Tryz.sizeOf24
  v28 := Tryz.zeroValue24
  t46 := Tryz.underlying121
  a46 := Tryz.isAgg121
  z46 := Tryz.sizeOf121
  v46 := Tryz.zeroValue121
  t51 := Tryz.underlying159
  a51 := Tryz.isAgg159
  z51 := Tryz.sizeOf159
  v51 := Tryz.zeroValue159
  t53 := Tryz.underlying161
  a53 := Tryz.isAgg161
  z53 := Tryz.sizeOf161
  v53 := Tryz.zeroValue161
  t131 := Tryz.underlying156
  a131 := Tryz.isAgg156
  z131 := Tryz.sizeOf156
  v131 := Tryz.zeroValue156
  t182 := Tryz.underlying150
  a182 := Tryz.isAgg150
  z182 := Tryz.sizeOf150
  v182 := Tryz.zeroValue150
  t183 := Tryz.underlying151
  a183 := Tryz.isAgg151
  z183 := Tryz.sizeOf151
  v183 := Tryz.zeroValue151
  t218 := Tryz.underlying171
  a218 := Tryz.isAgg171
  z218 := Tryz.sizeOf171
  v218 := Tryz.zeroValue171
  t222 := Tryz.underlying175
  a222 := Tryz.isAgg175
  z222 := Tryz.sizeOf175
  v222 := Tryz.zeroValue175
  t228 := Tryz.underlying187
  a228 := Tryz.isAgg187
  z228 := Tryz.sizeOf187
  v228 := Tryz.zeroValue187
  t229 := Tryz.underlying188
  a229 := Tryz.isAgg188
  z229 := Tryz.sizeOf188
  v229 := Tryz.zeroValue188 }
open Go.Sort Go.RowKit in
theorem Sh.slices_Sort_int (blk off cap : Nat) (zs : List Int) (w : World) (hH : Holds (Value.int .i64) w blk off zs.toArray) (hblk : blk < w.heap.size) (hsz : zs.length < 4611686018427387904) :
    Calls Tryz.prog 63 #[.slice (some ⟨blk, off, none⟩) zs.length cap] w fun e w' =>
      e = .returned (.tuple #[]) ∧ ∃ n os, w' = grow (putRow (Value.int .i64) (Sort.ahead w n) blk off (zs.mergeSort fun x y => decide (x ≤ y)).toArray) os := Any.slices_Sort_int Sh.lays189 blk off cap zs w hH hblk hsz
def Sh.lays190_ren : Go.Shelf.Ren := ⟨fun | 190 => 193 | 125 => 89 | 258 => 195 | 128 => 124 | 129 => 125 | 302 => 196 | 303 => 197 | 304 => 198 | 305 => 199 | 306 => 200 | 307 => 201 | 308 => 202 | 309 => 203 | 310 => 204 | 333 => 205 | 329 => 146 | 330 => 147 | 334 => 206 | 335 => 207 | 336 => 208 | 344 => 209 | n => n, fun | 31 => 119 | 9 => 9 | 3 => 3 | 46 => 121 | 0 => 0 | 51 => 159 | 53 => 161 | 4 => 4 | 183 => 151 | 182 => 150 | 131 => 156 | 5 => 5 | 218 => 171 | 222 => 175 | 228 => 187 | 229 => 188 | n => n, fun | n => n⟩
theorem Sh.lays190 : Go.Proofs.Lays.n190 Tryz.prog Sh.lays190_ren := {
  mixed := by kernel_rfl
  f125 := Tryz.func89.trans (congrArg some (by kernel_rfl))
  f128 := Tryz.func124.trans (congrArg some (by kernel_rfl))
  f129 := Tryz.func125.trans (congrArg some (by kernel_rfl))
  f190 := Tryz.func193.trans (congrArg some (by kernel_rfl))
  f258 := Tryz.func195.trans (congrArg some (by kernel_rfl))
  f302 := Tryz.func196.trans (congrArg some (by kernel_rfl))
  f303 := Tryz.func197.trans (congrArg some (by kernel_rfl))
  f304 := Tryz.func198.trans (congrArg some (by kernel_rfl))
  f305 := Tryz.func199.trans (congrArg some (by kernel_rfl))
  f306 := Tryz.func200.trans (congrArg some (by kernel_rfl))
  f307 := Tryz.func201.trans (congrArg some (by kernel_rfl))
  f308 := Tryz.func202.trans (congrArg some (by kernel_rfl))
  f309 := Tryz.func203.trans (congrArg some (by kernel_rfl))
  f310 := Tryz.func204.trans (congrArg some (by kernel_rfl))
  f329 := Tryz.func146.trans (congrArg some (by kernel_rfl))
  f330 := Tryz.func147.trans (congrArg some (by kernel_rfl))
  f333 := Tryz.func205.trans (congrArg some (by kernel_rfl))
  f334 := Tryz.func206.trans (congrArg some (by kernel_rfl))
  f335 := Tryz.func207.trans (congrArg some (by kernel_rfl))
  f336 := Tryz.func208.trans (congrArg some (by kernel_rfl))
  f344 := Tryz.func209.trans (congrArg some (by kernel_rfl))
  t0 := Tryz.underlying0
  a0 := Tryz.isAgg0
  z0 := Tryz.sizeOf0
  v0 := Tryz.zeroValue0
  t3 := Tryz.underlying3
  a3 := Tryz.isAgg3
  z3 := Tryz.sizeOf3
  v3 := Tryz.zeroValue3
  t4 := Tryz.underlying4
  a4 := Tryz.isAgg4
  z4 := Tryz.sizeOf4
  v4 := Tryz.zeroValue4
  t5 := Tryz.underlying5
  a5 := Tryz.isAgg5
  z5 := Tryz.sizeOf5
  v5 := Tryz.zeroValue5
  t9 := Tryz.underlying9
  a9 := Tryz.isAgg9
  z9 := Tryz.sizeOf9
  v9 := Tryz.zeroValue9
  t31 := Tryz.underlying119
  a31 := Tryz.isAgg119
  z31 := Tryz.sizeOf119
  v31 := Tryz.zeroValue119
  t46 := Tryz.underlying121
  a46 := Tryz.isAgg121
  z46 := Tryz.sizeOf121
  v46 := Tryz.zeroValue121
  t51 := Tryz.underlying159
  a51 := Tryz.isAgg159
  z51 := Tryz.sizeOf159
  v51 := Tryz.zeroValue159
  t53 := Tryz.underlying161
  a53 := Tryz.isAgg161
  z53 := Tryz.sizeOf161
  v53 := Tryz.zeroValue161
  t131 := Tryz.underlying156
  a131 := Tryz.isAgg156
  z131 := Tryz.sizeOf156
  v131 := Tryz.zeroValue156
  t182 := Tryz.underlying150
  a182 := Tryz.isAgg150
  z182 := Tryz.sizeOf150
  v182 := Tryz.zeroValue150
  t183 := Tryz.underlying151
  a183 := Tryz.isAgg151
  z183 := Tryz.sizeOf151
  v183 := Tryz.zeroValue151
  t218 := Tryz.underlying171
  a218 := Tryz.isAgg171
  z218 := Tryz.sizeOf171
  v218 := Tryz.zeroValue171
  t222 := Tryz.underlying175
  a222 := Tryz.isAgg175
  z222 := Tryz.sizeOf175
  v222 := Tryz.zeroValue175
  t228 := Tryz.underlying187
  a228 := Tryz.isAgg187
  z228 := Tryz.sizeOf187
  v228 := Tryz.zeroValue187
  t229 := Tryz.underlying188
  a229 := Tryz.isAgg188
  z229 := Tryz.sizeOf188
  v229 := Tryz.zeroValue188 }
open Go.Sort Go.RowKit in
theorem Sh.slices_Sort_string (blk off cap : Nat) (ss : List (List UInt8)) (w : World) (hH : Holds encStr w blk off ss.toArray) (hblk : blk < w.heap.size) (hsz : ss.length < 4611686018427387904) :
    Calls Tryz.prog 193 #[.slice (some ⟨blk, off, none⟩) ss.length cap] w fun e w' =>
      e = .returned (.tuple #[]) ∧ ∃ n os, w' = grow (putRow encStr (Sort.ahead w n) blk off (ss.mergeSort fun x y => decide (x ≤ y)).toArray) os := Any.slices_Sort_string Sh.lays190 blk off cap ss w hH hblk hsz
def Sh.laysNm220_ren : Go.Shelf.Ren := ⟨fun | 20 => 64 | n => n, fun | 22 => 24 | 3 => 3 | 4 => 4 | 0 => 0 | n => n, fun | n => n⟩
theorem Sh.laysNm220 : Go.Proofs.Lays2.n20 Tryz.prog Sh.laysNm220_ren := {
  mixed := by kernel_rfl
  f20 := Tryz.func64.trans (congrArg some (by kernel_rfl))
  t0 := Tryz.underlying0
  a0 := Tryz.isAgg0
  z0 := Tryz.sizeOf0
  v0 := Tryz.zeroValue0
  t3 := Tryz.underlying3
  a3 := Tryz.isAgg3
  z3 := Tryz.sizeOf3
  v3 := Tryz.zeroValue3
  t4 := Tryz.underlying4
  a4 := Tryz.isAgg4
  z4 := Tryz.sizeOf4
  v4 := Tryz.zeroValue4
  t22 := Tryz.underlying24
  a22 := Tryz.isAgg24
  z22 := Tryz.sizeOf24
  v22 := Tryz.zeroValue24
  i3 := by kernel_rfl }
open Go.RowKit Go.Lib Go.Sort in
theorem Sh.slices_Compact_int (blk off cap : Nat) (zs : List Int) (w : World) (hH : Holds (Value.int .i64) w blk off zs.toArray) (hsz : zs.length ≤ 9223372036854775807) (hcap : zs.length ≤ cap) :
    Calls Tryz.prog 64 #[.slice (some ⟨blk, off, none⟩) zs.length cap] w fun e w' => e = .returned (.slice (some ⟨blk, off, none⟩) (Lib.compact zs).length cap) ∧ ∃ q, w' = putRow (Value.int .i64) (Sort.ahead w q) blk off (Lib.compact zs ++ List.replicate (zs.length - (Lib.compact zs).length) 0).toArray := Any.slices_Compact_int Sh.laysNm220 blk off cap zs w hH hsz hcap
open Go.RowKit Go.Lib Go.Sort in
theorem Sh.slices_Compact_int_empty (a : Option Addr) (cap : Nat) (w : World) :
    Calls Tryz.prog 64 #[.slice a 0 cap] w fun e w' => e = .returned (.slice a 0 cap) ∧ w' = w := Any.slices_Compact_int_empty Sh.laysNm220 a cap w
def Sh.lays194_ren : Go.Shelf.Ren := ⟨fun | 194 => 194 | n => n, fun | 31 => 119 | 9 => 9 | 3 => 3 | 4 => 4 | 0 => 0 | n => n, fun | n => n⟩
theorem Sh.lays194 : Go.Proofs.Lays.n194 Tryz.prog Sh.lays194_ren := {
  mixed := by kernel_rfl
  f194 := Tryz.func194.trans (congrArg some (by kernel_rfl))
  t0 := Tryz.underlying0
  a0 := Tryz.isAgg0
  z0 := Tryz.sizeOf0
  v0 := Tryz.zeroValue0
  t3 := Tryz.underlying3
  a3 := Tryz.isAgg3
  z3 := Tryz.sizeOf3
  v3 := Tryz.zeroValue3
  t4 := Tryz.underlying4
  a4 := Tryz.isAgg4
  z4 := Tryz.sizeOf4
  v4 := Tryz.zeroValue4
  t9 := Tryz.underlying9
  a9 := Tryz.isAgg9
  z9 := Tryz.sizeOf9
  v9 := Tryz.zeroValue9
  t31 := Tryz.underlying119
  a31 := Tryz.isAgg119
  z31 := Tryz.sizeOf119
  v31 := Tryz.zeroValue119 }
open Go.RowKit Go.Lib Go.Sort in
theorem Sh.slices_Compact_string (blk off cap : Nat) (zs : List (List UInt8)) (w : World) (hH : Holds encStr w blk off zs.toArray) (hsz : zs.length ≤ 9223372036854775807) (hcap : zs.length ≤ cap) :
    Calls Tryz.prog 194 #[.slice (some ⟨blk, off, none⟩) zs.length cap] w fun e w' => e = .returned (.slice (some ⟨blk, off, none⟩) (Lib.compact zs).length cap) ∧ ∃ q, w' = putRow encStr (Sort.ahead w q) blk off (Lib.compact zs ++ List.replicate (zs.length - (Lib.compact zs).length) []).toArray := Any.slices_Compact_string Sh.lays194 blk off cap zs w hH hsz hcap
open Go.RowKit Go.Lib Go.Sort in
theorem Sh.slices_Compact_string_empty (a : Option Addr) (cap : Nat) (w : World) :
    Calls Tryz.prog 194 #[.slice a 0 cap] w fun e w' => e = .returned (.slice a 0 cap) ∧ w' = w := Any.slices_Compact_string_empty Sh.lays194 a cap w
open Go.RowKit Go.Sort in
theorem Sh.slices_Sort_string_none (p : Option Addr) (cap : Nat) (w : World) :
    Calls Tryz.prog 193 #[.slice p 0 cap] w fun e w' => e = .returned (.tuple #[]) ∧ w' = w := Any.slices_Sort_string_none Sh.lays190 p cap w
open Go.RowKit Go.Sort in
theorem Sh.slices_Sort_int_none (p : Option Addr) (cap : Nat) (w : World) :
    Calls Tryz.prog 63 #[.slice p 0 cap] w fun e w' => e = .returned (.tuple #[]) ∧ w' = w := Any.slices_Sort_int_none Sh.lays189 p cap w
end Go.Proofs.YtockoklfegpgeaaGreat
namespace Go.Proofs.YtockoklfegpgeaaGreat
open Go.RowKit
theorem SU (l : List Int) : ATake Tryz.prog 63 1 (eL l) [] false true (eL (P4 l)) := by
  have h := YJ Qbb (P := Tryz.prog) (f := 63) (by unfold C9; kernel_rfl) (fun l => l.mergeSort fun x y => decide (x ≤ y)) (fun l => List.length_mergeSort _) (fun l x h => (List.mergeSort_perm l _).mem_iff.1 h) (fun oa cap w => Sh.slices_Sort_int_none oa cap w) (fun g cap l w h h2 h3 => Sh.slices_Sort_int g 0 cap l w h h2 h3) l
  simpa [Qbb, P4, VT] using h
theorem SV (l : List Int) : ATake Tryz.prog 64 1 (eL l) [] false false (eL (VT l)) := by
  have h := YK Qbb (P := Tryz.prog) (f := 64) (by unfold C9; kernel_rfl) Lib.compact Mi BT (fun oa cap w => Sh.slices_Compact_int_empty oa cap w) (fun g cap l w h h2 h3 => (Sh.slices_Compact_int g 0 cap l w h h2 h3).mono (by rintro e w' ⟨h4, q, h5⟩; exact ⟨h4, q, _, by have := Mi l; simp; omega, h5⟩)) l
  simpa [Qbb, P4, VT] using h
theorem SW (l : List ByteArray) : ATake Tryz.prog 193 1 (eL l) [] false true (eL (Lo l)) := by
  have h := YJ oneS (P := Tryz.prog) (f := 193) (by unfold C9; kernel_rfl) (fun l => l.mergeSort fun x y => decide (x ≤ y)) (fun l => List.length_mergeSort _) (fun l x h => (List.mergeSort_perm l _).mem_iff.1 h) (fun oa cap w => Sh.slices_Sort_string_none oa cap w) (fun g cap l w h h2 h3 => Sh.slices_Sort_string g 0 cap l w h h2 h3) l
  exact h
theorem SX (l : List ByteArray) : ATake Tryz.prog 194 1 (eL l) [] false false (eL (Tl l)) := by
  have h := YK oneS (P := Tryz.prog) (f := 194) (by unfold C9; kernel_rfl) Lib.compact Mi BT (fun oa cap w => Sh.slices_Compact_string_empty oa cap w) (fun g cap l w h h2 h3 => (Sh.slices_Compact_string g 0 cap l w h h2 h3).mono (by rintro e w' ⟨h4, q, h5⟩; exact ⟨h4, q, _, by have := Mi l; simp; omega, h5⟩)) l
  exact h
open GoE (enc wide)
def Er (s_ : ByteArray) (k0 : Nat) (a0 : ByteArray) (_ : Unit) : Rd ((List ByteArray)) (Unit) (Int) := (bif (Op.bytesLess a0.toList s_.toList) then (.next ()) else (.brk ((k0 : Nat) : Int)))
def Es (k0 : Nat) (_ : Unit) : Int := ((k0 : Nat) : Int)
def E5 (list : (List ByteArray)) (s_ : ByteArray) : (List ByteArray) := (Out.on (Xm (Er s_) Es list 0 ()) (fun y0 => (bif (decide (y0 < (list.length : Int)) && ((nth list (Int.toNat y0)).toList == s_.toList)) then list else List.take (Int.toNat y0) list ++ [s_] ++ (List.drop (Int.toNat y0) list))))
theorem WD (list : (List ByteArray)) (s_ : ByteArray) (hp : list.length < 1073741824) : ACalls Tryz.prog 181 [.h list, .s s_] (.h (E5 list s_)) := by
 refine en Qb Tryz.func181 fun w0 F0 hG => ?_
 refine sn Qb [0, 1, 4] [] (p0) ?_
 refine tn Qb [0, 1, 4, 5] [] (p0) ?_
 refine Qe ?_
 refine mz [(4, .e 0), (5, .i 0)] [] [] [] ?_
 refine wT 0 0 .sh list (fun hw1 hl2 => ?_)
 refine Qbp (Er s_) Es list () (fun k0 _ => [(5, .i ((k0 : Nat) : Int))]) [5] (fun y0 => [(5, .i y0)]) [5] (fun y0 => 0 ≤ y0 ∧ y0 ≤ (list.length : Int)) (Qd (by kernel_rfl)) (fun k0 s0 hk0 hI0 => ?_) (fun k0 s0 hk0 hI0 => ?_) (fun y0 hD0 => ?_)
 ·
  obtain ⟨a0, hx0⟩ := Xk (l := list) (i := k0) hk0
  refine Qe ?_
  refine sn Qb [0, 1, 4, 5, 18] [] (pl 2 list (pe 3 (Qs (decide_eq_true (p := ((k0 : Nat) : Int) < (list.length : Int)) (by omega))) (pn 7 hx0 p0))) ?_
  refine ck (Op.bytesLess a0.toList s_.toList) (fun h3 => ?_) (fun h3 => ?_)
  ·
   refine Qj ?_
   refine Qt ?_
   refine qn Qb [0, 1, 4, 5] [] (pe 1 (Jb (Qv k0 (by omega))) p0) ?_
   exact Exists.intro _ (And.intro (Qd (by kernel_rfl)) (Qz hx0 (Q8 h3 (rfl)) hI0))
  ·
   refine Q3 ?_
   exact Exists.intro ((k0 : Nat) : Int) (And.intro (Qd (by kernel_rfl)) ⟨R9 hx0 (Qn h3 (rfl)) hI0, by first | omega | (simp only [List.length_set]; omega)⟩)
 ·
  refine Qe ?_
  refine sn Qb [0, 1, 4, 5, 18] [] (pl 2 list (pe 3 (Qs (decide_eq_false (p := ((k0 : Nat) : Int) < (list.length : Int)) (by omega))) p0)) ?_
  refine ckF ?_
  refine Q3 ?_
  exact Exists.intro ((k0 : Nat) : Int) (And.intro (Qd (by kernel_rfl)) ⟨Xl hk0 (rfl) hI0, by first | omega | (simp only [List.length_set]; omega)⟩)
 ·
  have hD0_0 := hD0.2
  refine Qe ?_
  refine Qe ?_
  refine jn [(32, .b (decide (y0 < (list.length : Int)) && ((nth list (Int.toNat y0)).toList == s_.toList)))] [] [] [] (decide (y0 < (list.length : Int))) (fun h4 => ?_) (fun h4 => ?_) ?_
  ·
   have h4d := of_decide_eq_true h4
   have hx5 := ng list (Int.toNat y0)
   refine rn Qb [0, 1, 4, 5, 32] [] (pl 2 list (pt 3 h4 (pg 7 y0 hx5 p0))) ?_
   exact ⟨rfl, Qd (by rw [h4]; first | done | kernel_rfl)⟩
  ·
   refine rn Qb [0, 1, 4, 5, 32] [] (pl 2 list (pf 3 h4 p0)) ?_
   exact ⟨rfl, Qd (by rw [h4]; first | done | kernel_rfl)⟩
  refine ck (decide (y0 < (list.length : Int)) && ((nth list (Int.toNat y0)).toList == s_.toList)) (fun h6 => ?_) (fun h6 => ?_)
  ·
   refine sn Qb [0, 1, 4, 5] [] (p0) ?_
   refine Qf ?_
   exact ph0 [] (Wf hD0.1 (Q8 h6 (rfl)))
  ·
   refine Qj ?_
   have hl7 : List.length (List.take (Int.toNat y0) list) ≤ 1073741824 := Af (Oi (Int.toNat y0) (hw1))
   refine su Qb [(6, .one (.slc (.own true 2624) 1 (([] ++ (eL (List.take (Int.toNat y0) list))) ++ [[.s s_]])))] [1, 32] [] [] (pe 3 (Lk .sh 1 (Int.toNat y0) y0 list rfl) (px (Ek (lo := 0) (hi := y0) (n := (List.length (eL list))) (Tj (by omega) (by omega) (by omega))) (po 4 (.flat) (px (Hy (n := (([] : List (List PV)).length + ((eL (List.take (Int.toNat y0) list)) : List (List PV)).length)) (B9 (rfl) (Ym (List.take (Int.toNat y0) list)) (by first | omega | (simp only [List.length_cons, List.length_nil]; omega) | (simp; omega) | simp))) (px (Ub (Wm (List.take (Int.toNat y0) list))) (px (Hy (n := ((([] ++ (eL (List.take (Int.toNat y0) list))) : List (List PV)).length + ([[.s s_]] : List (List PV)).length)) (by simp [Ym]; omega)) p0)))))) ?_
   refine eqn [(6, .o 2624 (List.take (Int.toNat y0) list ++ [s_]))] [6] [] [] (by rw [show (([] ++ (eL (List.take (Int.toNat y0) list))) ++ [[.s s_]]) = (eL (List.take (Int.toNat y0) list ++ [s_])) from Ky (rfl) (rfl)]; first | done | kernel_rfl) ?_
   refine wT 6 0 (.own true 2624) (List.take (Int.toNat y0) list ++ [s_]) (fun hw8 hl9 => ?_)
   have hl10 : List.length (List.drop (Int.toNat y0) list) ≤ 1073741824 := Af (Oj (Int.toNat y0) (hw1))
   refine su Qb [(4, .one (.slc (.own true 2944) 1 ((eL (List.take (Int.toNat y0) list ++ [s_])) ++ (eL (List.drop (Int.toNat y0) list)))))] [0, 4, 5, 6] [] [] (pe 3 (ZU .sh 1 (Int.toNat y0) y0 list rfl) (px (Ek (lo := y0) (hi := (((eL list) : List (List PV)).length : Int)) (n := (List.length (eL list))) (ZV (by omega) (by omega))) (po 4 (.flat) (pa (List.take (Int.toNat y0) list ++ [s_]) (List.drop (Int.toNat y0) list) (px (Ub (Wm (List.drop (Int.toNat y0) list))) p0))))) ?_
   refine eqn [(4, .o 2944 (List.take (Int.toNat y0) list ++ [s_] ++ (List.drop (Int.toNat y0) list)))] [4] [] [] (by rw [show ((eL (List.take (Int.toNat y0) list ++ [s_])) ++ (eL (List.drop (Int.toNat y0) list))) = (eL (List.take (Int.toNat y0) list ++ [s_] ++ (List.drop (Int.toNat y0) list))) from Ky (rfl) (rfl)]; first | done | kernel_rfl) ?_
   refine Qf ?_
   exact ph0 [2944] (Wf hD0.1 (Qn h6 (rfl)))
end Go.Proofs.YtockoklfegpgeaaGreat
namespace Go.Proofs.YtockoklfegpgeaaGreat
open Go.RowKit
theorem YQ {a b : ByteArray} : (a.toList == b.toList) = decide (a = b) := by
  rw [ByteArray.toList_eq, ByteArray.toList_eq, Bool.eq_iff_iff]
  simp only [beq_iff_eq, decide_eq_true_eq]
  exact ⟨fun h => ByteArray.ext (Array.ext' h), fun h => h ▸ rfl⟩
def C7 (l : List ByteArray) (s : ByteArray) : Nat := (l.takeWhile fun x => bl x s).length
theorem Ts (a : ByteArray) (l : List ByteArray) (s : ByteArray) : C7 (a :: l) s = if bl a s = true then C7 l s + 1 else 0 := by
  unfold C7
  rw [List.takeWhile_cons]
  cases bl a s <;> simp
theorem YR (s : ByteArray) : ∀ (l : List ByteArray) (k : Nat), Xm (Er s) Es l k () = .brk (((k + C7 l s : Nat)) : Int)
  | [], k => by simp [Xm, Es, C7]
  | a :: l, k => by
    rw [Ts]
    simp only [Xm, Er]
    cases h : Op.bytesLess a.toList s.toList with
    | true =>
      have h' : bl a s = true := h
      simp only [cond_true, h', if_true]
      rw [YR s l (k + 1), show k + 1 + C7 l s = k + (C7 l s + 1) by omega]
    | false =>
      have h' : bl a s = false := h
      simp [h']
theorem IF (s : ByteArray) : ∀ l : List ByteArray, VY l s = bif (decide (((C7 l s : Nat) : Int) < (l.length : Int)) && ((nth l (C7 l s)).toList == s.toList)) then l else List.take (C7 l s) l ++ [s] ++ List.drop (C7 l s) l
  | [] => by simp [VY, C7]
  | a :: l => by
    rw [Ts, VY]
    cases h : bl a s with
    | true =>
      simp only [if_true]
      rw [IF s l]
      have e : nth (a :: l) (C7 l s + 1) = nth l (C7 l s) := rfl
      rw [e, show decide ((((C7 l s + 1 : Nat)) : Int) < ((a :: l).length : Int)) = decide (((C7 l s : Nat) : Int) < (l.length : Int)) by
        rw [Bool.eq_iff_iff]; simp only [decide_eq_true_eq, List.length_cons]; omega]
      generalize (decide (((C7 l s : Nat) : Int) < (l.length : Int)) && ((nth l (C7 l s)).toList == s.toList)) = c
      cases c <;> simp
    | false =>
      have e : nth (a :: l) 0 = a := rfl
      simp only [Bool.false_eq_true, if_false]
      rw [e, YQ]
      by_cases hs : a = s
      · simp [hs]
      · simp [hs]
theorem WE (l : List ByteArray) (s : ByteArray) : E5 l s = VY l s := by
  unfold E5
  rw [YR, IF]
  simp only [Out.on, Nat.zero_add, Int.toNat_natCast]
theorem IG (l : List ByteArray) (s : ByteArray) : List.length (E5 l s) ≤ List.length l + 1 := by rw [WE]; exact BZ s l
open GoE (enc wide)
def J5 (n : X9) : Bool := ((n.1 == (8 : Int)) || (n.1 == (9 : Int)))
theorem Mx (n : X9) : ACalls Tryz.prog 187 [.a [.i n.1, .i n.2.1, .i n.2.2.1, .s n.2.2.2.1, .i n.2.2.2.2.1, .i n.2.2.2.2.2.1, .s n.2.2.2.2.2.2]] (.b (J5 n)) := by
 refine en Qb Tryz.func187 fun w0 F0 hG => ?_
 refine sn Qb [1, 2] [1] (p0) ?_
 refine Qe ?_
 refine mz [(1, .p 1 0), (2, .b false)] [0] [(1, [.i n.1, .i n.2.1, .i n.2.2.1, .s n.2.2.2.1, .i n.2.2.2.2.1, .i n.2.2.2.2.2.1, .s n.2.2.2.2.2.2])] [] ?_
 refine jn [(2, .b ((n.1 == (8 : Int)) || (n.1 == (9 : Int))))] [1, 2] [] [1] (n.1 == (8 : Int)) (fun h1 => ?_) (fun h1 => ?_) ?_
 ·
  refine rn Qb [2] [] (pt 2 h1 p0) ?_
  exact ⟨rfl, Qd (by rw [h1]; first | done | kernel_rfl)⟩
 ·
  refine rn Qb [2] [] (pf 2 h1 p0) ?_
  exact ⟨rfl, Qd (by rw [h1]; first | done | kernel_rfl)⟩
 refine Qf ?_
 exact pb [] (show J5 n = ((n.1 == (8 : Int)) || (n.1 == (9 : Int))) from rfl)
def F6 (l : (List ByteArray)) : (List ByteArray) := Tl (Lo l)
theorem R0 (l : (List ByteArray)) : ACalls Tryz.prog 188 [.h l] (.h (F6 l)) := by
 refine en Qb Tryz.func188 fun w0 F0 hG => ?_
 refine sn Qb [0, 2] [] (p0) ?_
 refine tn Qb [2, 3] [] (pc 1 (ZY l) p0) ?_
 refine mz [(2, .e 0), (3, .o 320 l)] [0] [] [] ?_
 refine E9 [320] rfl ?_
 refine su Qb [(3, .one (.slc (.own false 320) 1 (OO (eL l) 0 4294967296 (List.flatten (eL (Lo l))))))] [3] [] [] (po 1 (.take false true (eL (Lo l))) (px (Tb (SW l)) p0)) ?_
 refine eqn [(3, .q 320 (Lo l))] [3] [] [] (by rw [BU (fun _ => rfl) (VW _)]; first | done | kernel_rfl) ?_
 refine sn Qb [2] [] (po 1 (.take false false (eL (Tl (Lo l)))) (px (Tb (SX (Lo l))) p0)) ?_
 refine Qf ?_
 exact ph0 [576] (show F6 l = Tl (Lo l) from rfl)
def Vf (q : (List X9)) (negated : Bool) (k0 : Nat) (a0 : Bool) (s0 : (List ByteArray)) : Rd ((List ByteArray)) ((List ByteArray)) ((List ByteArray)) := (bif ((J5 (nth q k0)) && (a0 == negated)) then (.next (s0 ++ [(nth q k0).2.2.2.1])) else (.next s0))
def Ud (_ : Nat) (s0 : (List ByteArray)) : (List ByteArray) := s0
def Vs (q : (List X9)) (negated : Bool) : (List ByteArray) := (Out.on (Xm (Vf q negated) Ud (Xo q) 0 []) (fun y0 => (F6 y0)))
theorem Lq (q : (List X9)) (negated : Bool) : ACalls Tryz.prog 177 [.h q, .b negated] (.h (Vs q negated)) := by
 refine en Qb Tryz.func177 fun w0 F0 hG => ?_
 have hnl := Nm q
 refine sn Qb [0, 1, 4] [] (p0) ?_
 refine tn Qb [0, 1, 4, 5] [] (p0) ?_
 refine Qe ?_
 refine tu Qb [(4, .e 0), (5, .one (.slc (.own true 512) 1 [])), (10, .o 640 (Xo q)), (11, .i ((Xo q).length : Int)), (12, .i 0)] [] [] [] (pc 1 (Oo q) (pl 2 (Xo q) p0)) ?_
 refine wT 10 0 (.own true 640) (Xo q) (fun hw1 hl2 => ?_)
 refine BM (Vf q negated) Ud (Xo q) [] (fun k0 s0 => [(5, .o 147203 s0), (12, .i ((k0 : Nat) : Int))]) [5, 12] (fun y0 => [(5, .o 147353 y0)]) [0, 1, 5, 10, 11, 12] (fun k0 s0 => List.length s0 ≤ k0) (Xy [(512, 147203)] (by kernel_rfl)) (by simp) (fun k0 s0 hk0 hI0 => ?_) (fun k0 s0 hk0 hI0 => ?_) (fun y0 hD0 => ?_)
 ·
  have hA0_0 := hI0.2
  obtain ⟨a0, hx0⟩ := Xk (l := Xo q) (i := k0) hk0
  refine su Qb [(13, .b true)] [] [] [] (pe 0 (Qs (decide_eq_true (p := ((k0 : Nat) : Int) < ((Xo q).length : Int)) (by omega))) p0) ?_
  refine Qe ?_
  refine ckT ?_
  refine Qj ?_
  refine Qe ?_
  refine Qt ?_
  refine sn Qb [0, 1, 4, 5, 6, 7, 10, 11, 12] [] (pN 1 hx0 p0) ?_
  refine Qe ?_
  refine mz [(6, .i ((k0 : Nat) : Int)), (7, .b a0)] [13] [] [] ?_
  refine jn [(26, .b ((J5 (nth q k0)) && (a0 == negated)))] [7] [] [] (J5 (nth q k0)) (fun h3 => ?_) (fun h3 => ?_) ?_
  ·
   refine wT 0 0 .sh q (fun hw5 hl6 => ?_)
   have hx4 := ng q k0
   refine rn Qb [0, 1, 4, 5, 6, 10, 11, 12, 26] [] (pn 2 hx4 (pc 4 (cb h3 (Mx (nth q k0))) p0)) ?_
   exact ⟨rfl, Qd (by rw [h3]; first | done | kernel_rfl)⟩
  ·
   refine wT 0 0 .sh q (fun hw8 hl9 => ?_)
   have hx7 := ng q k0
   refine ru Qb [(26, .b false)] [7] [] [] (pn 2 hx7 (pc 4 (cb h3 (Mx (nth q k0))) p0)) ?_
   exact ⟨rfl, Qd (by rw [h3]; first | done | kernel_rfl)⟩
  refine ck ((J5 (nth q k0)) && (a0 == negated)) (fun h10 => ?_) (fun h10 => ?_)
  ·
   have h10r : ((a0 == negated)) = true := HP h10
   have h10rd := eq_of_beq h10r
   refine wT 0 0 .sh q (fun hw12 hl13 => ?_)
   have hx11 := ng q k0
   refine wT 5 0 (.own true 147203) s0 (fun hw14 hl15 => ?_)
   refine ru Qb [(5, .one (.slc (.own true 2176) 1 ((eL s0) ++ [[.s ((nth q k0).2.2.2.1)]])))] [5, 6, 26] [] [] (pn 3 hx11 (pa s0 [(nth q k0).2.2.2.1] p0)) ?_
   refine eqn [(5, .o 2176 (s0 ++ [(nth q k0).2.2.2.1]))] [5] [] [] (by rw [show ((eL s0) ++ [[.s ((nth q k0).2.2.2.1)]]) = (eL (s0 ++ [(nth q k0).2.2.2.1])) from Ky (rfl) (rfl)]; first | done | kernel_rfl) ?_
   refine rn Qb [0, 1, 4, 5, 10, 11, 12] [] (pe 0 (Jb (Qv k0 (by omega))) p0) ?_
   exact Exists.intro (s0 ++ [(nth q k0).2.2.2.1]) (And.intro (Xy [(2176, 147203)] (by kernel_rfl)) ⟨Qz hx0 (Q8 h10 (rfl)) hI0.1, by first | omega | (simp; omega) | simp⟩)
  ·
   refine Qj ?_
   refine rn Qb [0, 1, 4, 5, 10, 11, 12] [] (pe 0 (Jb (Qv k0 (by omega))) p0) ?_
   exact Exists.intro s0 (And.intro (Qd (by kernel_rfl)) ⟨Qz hx0 (Qn h10 (rfl)) hI0.1, by first | omega | (simp; omega) | simp⟩)
 ·
  have hA0_0 := hI0.2
  refine su Qb [(13, .b false)] [] [] [] (pe 0 (Qs (decide_eq_false (p := ((k0 : Nat) : Int) < ((Xo q).length : Int)) (by omega))) p0) ?_
  refine Qe ?_
  refine ckF ?_
  refine Q3 ?_
  exact Exists.intro _ (And.intro (Xy [(147203, 147353)] (by kernel_rfl)) (Xl hk0 (rfl) hI0.1))
 ·
  refine sn Qb [4] [] (pc 1 (R0 y0) p0) ?_
  refine Qf ?_
  exact ph0 [] (Wf hD0 (rfl))
def Yf (q : (List X9)) : (List ByteArray) := (Vs q false)
theorem Ov (q : (List X9)) : ACalls Tryz.prog 164 [.h q] (.h (Yf q)) := by
 refine en Qb Tryz.func164 fun w0 F0 hG => ?_
 refine sn Qb [0, 2] [] (p0) ?_
 refine tn Qb [2] [] (pc 1 (Lq q false) p0) ?_
 refine Qf ?_
 exact ph0 [] (show Yf q = (Vs q false) from rfl)
def Xp (q : (List X9)) : (List ByteArray) := (Vs q true)
theorem Ow (q : (List X9)) : ACalls Tryz.prog 165 [.h q] (.h (Xp q)) := by
 refine en Qb Tryz.func165 fun w0 F0 hG => ?_
 refine sn Qb [0, 2] [] (p0) ?_
 refine tn Qb [2] [] (pc 1 (Lq q true) p0) ?_
 refine Qf ?_
 exact ph0 [] (show Xp q = (Vs q true) from rfl)
def Cb (q : (List X9)) (under : Bool) (k0 : Nat) (a0 : Bool) (s0 : (List ByteArray)) : Rd ((List ByteArray)) ((List ByteArray)) ((List ByteArray)) := (bif ((Q6 ((nth q k0).1) 8 9) && (a0 == under)) then (.next (E5 s0 ((nth q k0).2.2.2.1))) else (.next s0))
def Cc (_ : Nat) (s0 : (List ByteArray)) : (List ByteArray) := s0
def H2 (q : (List X9)) (under : Bool) : (List ByteArray) := (Out.on (Xm (Cb q under) Cc (Zw q) 0 []) (fun y0 => y0))
theorem My (q : (List X9)) (under : Bool) : ACalls Tryz.prog 173 [.h q, .b under] (.o 0 (H2 q under)) := by
 refine en Qb Tryz.func173 fun w0 F0 hG => ?_
 have hnl := VQ q
 refine sn Qb [0, 1, 4] [] (p0) ?_
 refine tn Qb [0, 1, 4, 5] [] (p0) ?_
 refine tu Qb [(4, .e 0), (5, .one (.slc (.own true 512) 1 [])), (6, .o 640 (Zw q))] [] [] [] (pc 1 (Oq q) p0) ?_
 refine Qe ?_
 refine su Qb [(7, .i 0)] [] [] [] (p0) ?_
 refine wT 6 0 (.own true 640) (Zw q) (fun hw1 hl2 => ?_)
 refine BM (Cb q under) Cc (Zw q) [] (fun k0 s0 => [(5, .h s0), (7, .i ((k0 : Nat) : Int))]) [5, 7] (fun y0 => [(5, .h y0)]) [0, 1, 5, 6, 7] (fun k0 s0 => List.length s0 ≤ k0) (F5 [] [512] [] [] (by kernel_rfl)) (by simp) (fun k0 s0 hk0 hI0 => ?_) (fun k0 s0 hk0 hI0 => ?_) (fun y0 hD0 => ?_)
 ·
  have hA0_0 := hI0.2
  obtain ⟨a0, hx0⟩ := Xk (l := Zw q) (i := k0) hk0
  refine Qe ?_
  refine su Qb [(14, .b true)] [] [] [] (pl 2 (Zw q) (pe 3 (Qs (decide_eq_true (p := ((k0 : Nat) : Int) < ((Zw q).length : Int)) (by omega))) p0)) ?_
  refine ckT ?_
  refine Qj ?_
  refine Qe ?_
  refine Qt ?_
  refine Qe ?_
  refine jn [(30, .b ((Q6 ((nth q k0).1) 8 9) && (a0 == under)))] [14] [] [] (Q6 ((nth q k0).1) 8 9) (fun h3 => ?_) (fun h3 => ?_) ?_
  ·
   refine wT 0 0 .sh q (fun hw5 hl6 => ?_)
   have hx4 := ng q k0
   refine rn Qb [0, 1, 4, 5, 6, 7, 30] [] (pn 2 hx4 (pc 5 (cb h3 (Zb ((nth q k0).1) 8 9)) (pN 9 hx0 p0))) ?_
   exact ⟨rfl, Qd (by rw [h3]; first | done | kernel_rfl)⟩
  ·
   refine wT 0 0 .sh q (fun hw8 hl9 => ?_)
   have hx7 := ng q k0
   refine rn Qb [0, 1, 4, 5, 6, 7, 30] [] (pn 2 hx7 (pc 5 (cb h3 (Zb ((nth q k0).1) 8 9)) p0)) ?_
   exact ⟨rfl, Qd (by rw [h3]; first | done | kernel_rfl)⟩
  refine ck ((Q6 ((nth q k0).1) 8 9) && (a0 == under)) (fun h10 => ?_) (fun h10 => ?_)
  ·
   have h10r : ((a0 == under)) = true := HP h10
   have h10rd := eq_of_beq h10r
   refine wT 0 0 .sh q (fun hw12 hl13 => ?_)
   have hx11 := ng q k0
   refine rn Qb [0, 1, 4, 5, 6, 7] [] (pn 3 hx11 (pc 6 (WD s0 ((nth q k0).2.2.2.1) (by omega)) p0)) ?_
   refine qn Qb [0, 1, 4, 5, 6, 7] [] (pe 1 (Jb (Qv k0 (by omega))) p0) ?_
   exact Exists.intro (E5 s0 ((nth q k0).2.2.2.1)) (And.intro (Qd (by kernel_rfl)) ⟨Qz hx0 (Q8 h10 (rfl)) hI0.1, (by first | omega | (have hz := IG s0 (nth q k0).2.2.2.1; omega))⟩)
  ·
   refine Qj ?_
   refine rn Qb [0, 1, 4, 5, 6, 7] [] (pe 1 (Jb (Qv k0 (by omega))) p0) ?_
   exact Exists.intro s0 (And.intro (Qd (by kernel_rfl)) ⟨Qz hx0 (Qn h10 (rfl)) hI0.1, (by first | omega | (have hz := IG s0 (nth q k0).2.2.2.1; omega))⟩)
 ·
  have hA0_0 := hI0.2
  refine Qe ?_
  refine su Qb [(14, .b false)] [] [] [] (pl 2 (Zw q) (pe 3 (Qs (decide_eq_false (p := ((k0 : Nat) : Int) < ((Zw q).length : Int)) (by omega))) p0)) ?_
  refine ckF ?_
  refine Q3 ?_
  exact Exists.intro _ (And.intro (Qd (by kernel_rfl)) (Xl hk0 (rfl) hI0.1))
 ·
  refine wT 5 0 .sh y0 (fun hw14 hl15 => ?_)
  refine sn Qb [4] [] (po 2 (.flat) (px (Hy (n := (([] : List (List PV)).length + ((eL y0) : List (List PV)).length)) (B9 (rfl) (Ym y0) (by first | omega | (simp only [List.length_cons, List.length_nil]; omega) | (simp; omega) | simp))) (px (Ub (Wm y0)) p0))) ?_
  refine Qf ?_
  exact po0 [] (Wf hD0 (rfl))
def Zx (q : (List X9)) : (List ByteArray) := (H2 q false)
theorem Ox (q : (List X9)) : ACalls Tryz.prog 157 [.h q] (.o 0 (Zx q)) := by
 refine en Qb Tryz.func157 fun w0 F0 hG => ?_
 refine sn Qb [0, 2] [] (p0) ?_
 refine tn Qb [2] [] (pc 1 (My q false) p0) ?_
 refine Qf ?_
 exact po0 [] (show Zx q = (H2 q false) from rfl)
def Zy (q : (List X9)) : (List ByteArray) := (H2 q true)
theorem Oy (q : (List X9)) : ACalls Tryz.prog 159 [.h q] (.o 0 (Zy q)) := by
 refine en Qb Tryz.func159 fun w0 F0 hG => ?_
 refine sn Qb [0, 2] [] (p0) ?_
 refine tn Qb [2] [] (pc 1 (My q true) p0) ?_
 refine Qf ?_
 exact po0 [] (show Zy q = (H2 q true) from rfl)
end Go.Proofs.YtockoklfegpgeaaGreat
namespace Go.Proofs.YtockoklfegpgeaaGreat
open Go.RowKit
theorem HZ (n : X9) : Q6 n.1 8 9 = J5 n := by
  unfold Q6 J5
  rw [Bool.eq_iff_iff]
  simp
  omega
theorem Tt (q : List X9) (b : Bool) : ∀ (l : List Bool) (k : Nat) (s : List ByteArray), ∃ m, Xm (Vf q b) Ud l k s = .brk (s ++ m) ∧ ∀ t, Xm (Cb q b) Cc l k t = .brk (Np t m)
  | [], k, s => ⟨[], by simp [Xm, Ud], fun t => by simp [Xm, Cc, Np]⟩
  | a :: l, k, s => by
    simp only [Xm, Vf, Cb, HZ]
    cases h : (J5 (nth q k) && (a == b)) with
    | true =>
      obtain ⟨m, h1, h2⟩ := Tt q b l (k + 1) (s ++ [(nth q k).2.2.2.1])
      refine ⟨(nth q k).2.2.2.1 :: m, ?_, fun t => ?_⟩
      · simp only [cond_true]; rw [h1, List.append_assoc]; rfl
      · simp only [cond_true]; rw [h2, WE]; rfl
    | false =>
      obtain ⟨m, h1, h2⟩ := Tt q b l (k + 1) s
      exact ⟨m, by simp only [cond_false]; exact h1, fun t => by simp only [cond_false]; exact h2 t⟩
theorem IH (q : List X9) (b : Bool) : H2 q b = Vs q b := by
  unfold H2 Vs
  obtain ⟨m, h1, h2⟩ := Tt q b (Xo q) 0 []
  rw [YI, h1, h2]
  simp only [Out.on, List.nil_append]
  exact (NM m).symm
theorem DZ (q : List X9) : Zx q = Yf q := IH q false
theorem EA (q : List X9) : Zy q = Xp q := IH q true
open GoE (enc wide)
def Kj (d : (List Y5)) (k0 : Nat) (a0 : Y5) (_ : Unit) : Rd (Bool) (Unit) (Unit) := (bif ((!(Y6 a0.1)) || (bif decide (((k0 : Nat) : Int) > (0 : Int)) then ((!(Op.bytesLess ((nth d (Int.toNat (((k0 : Nat) : Int) - 1))).1).toList a0.1.toList)) || (!(Q1 a0.2))) else (!(Q1 a0.2)))) then (.ret false) else (.next ()))
def V1 (_ : Nat) (_ : Unit) : Unit := ()
def Jq (d : (List Y5)) : Bool := (Out.on (Xm (Kj d) V1 d 0 ()) (fun _ => decide ((d.length : Int) ≤ (5 : Int))))
theorem P7 (d : (List Y5)) : ACalls Tryz.prog 162 [.h d] (.b (Jq d)) := by
 refine en Qb Tryz.func162 fun w0 F0 hG => ?_
 refine sn Qb [0, 2] [] (p0) ?_
 refine Qe ?_
 refine tn Qb [0, 2, 5, 6, 7] [] (pl 1 d p0) ?_
 refine mz [(2, .b false), (5, .h d), (6, .i (d.length : Int)), (7, .i 0)] [] [] [] ?_
 refine wT 0 0 .sh d (fun hw1 hl2 => ?_)
 refine Mq (Kj d) V1 d () (fun k0 _ => [(7, .i ((k0 : Nat) : Int))]) [7] (fun _ => []) [5, 6, 7] (Qd (by kernel_rfl)) (fun k0 s0 hk0 hI0 => ?_) (fun k0 s0 hk0 hI0 => ?_) (fun y0 hD0 => ?_)
 ·
  obtain ⟨a0, hx0⟩ := Xk (l := d) (i := k0) hk0
  refine sn Qb [0, 2, 5, 6, 7, 8] [] (pe 0 (Qs (decide_eq_true (p := ((k0 : Nat) : Int) < (d.length : Int)) (by omega))) p0) ?_
  refine Qe ?_
  refine ckT ?_
  refine Qj ?_
  refine Qe ?_
  refine Qt ?_
  refine tn Qb [0, 2, 3, 4, 5, 6, 7] [4] (pn 1 hx0 p0) ?_
  refine Qe ?_
  refine mz [(3, .i ((k0 : Nat) : Int)), (4, .p 4 0)] [] [(4, [.s a0.1, .h a0.2])] [] ?_
  refine jn [(36, .b ((!(Y6 a0.1)) || (bif decide (((k0 : Nat) : Int) > (0 : Int)) then ((!(Op.bytesLess ((nth d (Int.toNat (((k0 : Nat) : Int) - 1))).1).toList a0.1.toList)) || (!(Q1 a0.2))) else (!(Q1 a0.2)))))] [3, 4] [] [4] (!(Y6 a0.1)) (fun h3 => ?_) (fun h3 => ?_) ?_
  ·
   have h3n : (Y6 a0.1) = false := Wz h3
   refine rN Qb Yn [0, 2, 5, 6, 7, 36] [] (pc 2 (cb h3n (J4 a0.1)) (pe 3 (show .b (!false) = .b true from rfl) p0)) ?_
   exact ⟨rfl, Qd (by rw [h3]; first | done | kernel_rfl)⟩
  ·
   have h3n : (Y6 a0.1) = true := Je h3
   refine Xb (decide (((k0 : Nat) : Int) > (0 : Int))) (fun h4 => ?_) (fun h4 => ?_)
   ·
    have h4d := of_decide_eq_true h4
    refine Xb (!(Op.bytesLess ((nth d (Int.toNat (((k0 : Nat) : Int) - 1))).1).toList a0.1.toList)) (fun h5 => ?_) (fun h5 => ?_)
    ·
     have hx6 := ng d (Int.toNat (((k0 : Nat) : Int) - 1))
     refine rN Qb Yn [0, 2, 5, 6, 7, 36] [] (pc 2 (cb h3n (J4 a0.1)) (pe 3 (show .b (!true) = .b false from rfl) (pt 6 h4 (pe 10 (Jb (IntWalk.i64_in (((k0 : Nat) : Int) - 1) (by omega))) (pg 11 (((k0 : Nat) : Int) - 1) hx6 (pt 16 h5 p0)))))) ?_
     exact ⟨rfl, Qd (by rw [h3, h4, h5]; first | done | kernel_rfl)⟩
    ·
     have hx7 := ng d (Int.toNat (((k0 : Nat) : Int) - 1))
     refine rN Qb Yn [0, 2, 5, 6, 7, 36] [] (pc 2 (cb h3n (J4 a0.1)) (pe 3 (show .b (!true) = .b false from rfl) (pt 6 h4 (pe 10 (Jb (IntWalk.i64_in (((k0 : Nat) : Int) - 1) (by omega))) (pg 11 (((k0 : Nat) : Int) - 1) hx7 (pf 16 h5 (pc 22 (Ug a0.2) p0))))))) ?_
     exact ⟨rfl, Qd (by rw [h3, h4, h5]; first | done | kernel_rfl)⟩
   ·
    refine rN Qb Yn [0, 2, 5, 6, 7, 36] [] (pc 2 (cb h3n (J4 a0.1)) (pe 3 (show .b (!true) = .b false from rfl) (pf 6 h4 (pc 22 (Ug a0.2) p0)))) ?_
    exact ⟨rfl, Qd (by rw [h3, h4]; first | done | kernel_rfl)⟩
  refine ck ((!(Y6 a0.1)) || (bif decide (((k0 : Nat) : Int) > (0 : Int)) then ((!(Op.bytesLess ((nth d (Int.toNat (((k0 : Nat) : Int) - 1))).1).toList a0.1.toList)) || (!(Q1 a0.2))) else (!(Q1 a0.2)))) (fun h8 => ?_) (fun h8 => ?_)
  ·
   refine su Qb [] [36] [] [] (p0) ?_
   refine Qf ?_
   have hr9 : (Xm (Kj d) V1 d 0 ()) = .ret false := Z1 hx0 (Q8 h8 (rfl)) hI0
   exact pb [] (Gu hr9)
  ·
   refine Qj ?_
   refine rn Qb [0, 2, 5, 6, 7] [] (pe 0 (Jb (Qv k0 (by omega))) p0) ?_
   exact Exists.intro _ (And.intro (Qd (by kernel_rfl)) (Qz hx0 (Qn h8 (rfl)) hI0))
 ·
  refine sn Qb [0, 2, 5, 6, 7, 8] [] (pe 0 (Qs (decide_eq_false (p := ((k0 : Nat) : Int) < (d.length : Int)) (by omega))) p0) ?_
  refine Qe ?_
  refine ckF ?_
  refine Q3 ?_
  exact Exists.intro _ (And.intro (Qd (by kernel_rfl)) (Xl hk0 (rfl) hI0))
 ·
  refine sn Qb [2] [] (pl 1 d p0) ?_
  refine Qf ?_
  exact pb [] (Wf hD0 (rfl))
def Uh (d : (List Y5)) (k0 : Nat) (a0 : Y5) (_ : Unit) : Rd (Bool) (Unit) (Unit) := (bif ((!(Yh a0.1)) || ((!(Yw a0.2)) || (decide (((k0 : Nat) : Int) > (0 : Int)) && (!(Op.bytesLess ((nth d (Int.toNat (((k0 : Nat) : Int) - 1))).1).toList a0.1.toList))))) then (.ret false) else (.next ()))
def Hr (_ : Nat) (_ : Unit) : Unit := ()
def W3 (d : (List Y5)) : Bool := (Out.on (Xm (Uh d) Hr d 0 ()) (fun _ => decide ((d.length : Int) ≤ (5 : Int))))
theorem P8 (d : (List Y5)) : ACalls Tryz.prog 131 [.h d] (.b (W3 d)) := by
 refine en Qb Tryz.func131 fun w0 F0 hG => ?_
 refine sn Qb [0, 2] [] (p0) ?_
 refine Qe ?_
 refine tn Qb [0, 2, 3] [] (p0) ?_
 refine mz [(2, .b false), (3, .i 0)] [] [] [] ?_
 refine wT 0 0 .sh d (fun hw1 hl2 => ?_)
 refine Mq (Uh d) Hr d () (fun k0 _ => [(3, .i ((k0 : Nat) : Int))]) [3] (fun _ => []) [3] (Qd (by kernel_rfl)) (fun k0 s0 hk0 hI0 => ?_) (fun k0 s0 hk0 hI0 => ?_) (fun y0 hD0 => ?_)
 ·
  obtain ⟨a0, hx0⟩ := Xk (l := d) (i := k0) hk0
  refine Qe ?_
  refine sn Qb [0, 2, 3, 7] [] (pl 2 d (pe 3 (Qs (decide_eq_true (p := ((k0 : Nat) : Int) < (d.length : Int)) (by omega))) p0)) ?_
  refine ckT ?_
  refine Qj ?_
  refine Qe ?_
  refine Qt ?_
  refine Qe ?_
  refine mz [(7, .b true)] [] [] [] ?_
  refine jn [(43, .b ((!(Yh a0.1)) || ((!(Yw a0.2)) || (decide (((k0 : Nat) : Int) > (0 : Int)) && (!(Op.bytesLess ((nth d (Int.toNat (((k0 : Nat) : Int) - 1))).1).toList a0.1.toList))))))] [7] [] [] (!(Yh a0.1)) (fun h3 => ?_) (fun h3 => ?_) ?_
  ·
   have h3n : (Yh a0.1) = false := Wz h3
   refine rN Qb Yn [0, 2, 3, 43] [] (pn 2 hx0 (pc 5 (cb h3n (Z5 a0.1)) (pe 6 (show .b (!false) = .b true from rfl) p0))) ?_
   exact ⟨rfl, Qd (by rw [h3]; first | done | kernel_rfl)⟩
  ·
   have h3n : (Yh a0.1) = true := Je h3
   refine Xb (!(Yw a0.2)) (fun h4 => ?_) (fun h4 => ?_)
   ·
    have h4n : (Yw a0.2) = false := Wz h4
    refine rN Qb Yn [0, 2, 3, 43] [] (pn 2 hx0 (pc 5 (cb h3n (Z5 a0.1)) (pe 6 (show .b (!true) = .b false from rfl) (pn 10 hx0 (pc 13 (cb h4n (V0 a0.2)) (pe 14 (show .b (!false) = .b true from rfl) p0)))))) ?_
    exact ⟨rfl, Qd (by rw [h3, h4]; first | done | kernel_rfl)⟩
   ·
    have h4n : (Yw a0.2) = true := Je h4
    refine Xb (decide (((k0 : Nat) : Int) > (0 : Int))) (fun h5 => ?_) (fun h5 => ?_)
    ·
     have h5d := of_decide_eq_true h5
     have hx6 := ng d (Int.toNat (((k0 : Nat) : Int) - 1))
     refine rN Qb Yn [0, 2, 3, 43] [] (pn 2 hx0 (pc 5 (cb h3n (Z5 a0.1)) (pe 6 (show .b (!true) = .b false from rfl) (pn 10 hx0 (pc 13 (cb h4n (V0 a0.2)) (pe 14 (show .b (!true) = .b false from rfl) (pt 18 h5 (pe 22 (Jb (IntWalk.i64_in (((k0 : Nat) : Int) - 1) (by omega))) (pg 23 (((k0 : Nat) : Int) - 1) hx6 (pn 28 hx0 p0)))))))))) ?_
     exact ⟨rfl, Qd (by rw [h3, h4, h5]; first | done | kernel_rfl)⟩
    ·
     refine rN Qb Yn [0, 2, 3, 43] [] (pn 2 hx0 (pc 5 (cb h3n (Z5 a0.1)) (pe 6 (show .b (!true) = .b false from rfl) (pn 10 hx0 (pc 13 (cb h4n (V0 a0.2)) (pe 14 (show .b (!true) = .b false from rfl) (pf 18 h5 p0))))))) ?_
     exact ⟨rfl, Qd (by rw [h3, h4, h5]; first | done | kernel_rfl)⟩
  refine ck ((!(Yh a0.1)) || ((!(Yw a0.2)) || (decide (((k0 : Nat) : Int) > (0 : Int)) && (!(Op.bytesLess ((nth d (Int.toNat (((k0 : Nat) : Int) - 1))).1).toList a0.1.toList))))) (fun h7 => ?_) (fun h7 => ?_)
  ·
   refine sn Qb [0, 2, 3] [] (p0) ?_
   refine Qf ?_
   have hr8 : (Xm (Uh d) Hr d 0 ()) = .ret false := Z1 hx0 (Q8 h7 (rfl)) hI0
   exact pb [] (Gu hr8)
  ·
   refine Qj ?_
   refine rn Qb [0, 2, 3] [] (pe 1 (Jb (Qv k0 (by omega))) p0) ?_
   exact Exists.intro _ (And.intro (Qd (by kernel_rfl)) (Qz hx0 (Qn h7 (rfl)) hI0))
 ·
  refine Qe ?_
  refine sn Qb [0, 2, 3, 7] [] (pl 2 d (pe 3 (Qs (decide_eq_false (p := ((k0 : Nat) : Int) < (d.length : Int)) (by omega))) p0)) ?_
  refine ckF ?_
  refine Q3 ?_
  exact Exists.intro _ (And.intro (Qd (by kernel_rfl)) (Xl hk0 (rfl) hI0))
 ·
  refine sn Qb [2] [] (pl 1 d p0) ?_
  refine Qf ?_
  exact pb [] (Wf hD0 (rfl))
def Bj (x : Y5) (q0 : ByteArray) : Bool := (x.1.toList == q0.toList)
theorem JC (x : Y5) (q0 : ByteArray) : ACalls Tryz.prog 185 [.a [.s x.1, .h x.2], .one (.rptr .sh [.s q0])] (.b (Bj x q0)) := by
 refine en Qb Tryz.func185 fun w0 F0 hG => ?_
 refine sn Qb [1, 2, 3] [2] (p0) ?_
 refine tn Qb [3] [] (p0) ?_
 refine Qf ?_
 exact pb [] (show Bj x q0 = (x.1.toList == q0.toList) from rfl)
def X0 (c0 : ByteArray) (k0 : Nat) (a0 : Y5) (_ : Unit) : Rd (Int) (Unit) (Unit) := (bif (Bj a0 c0) then (.ret ((k0 : Nat) : Int)) else (.next ()))
def Yv (_ : Nat) (_ : Unit) : Unit := ()
def Jf (s_ : (List Y5)) (c0 : ByteArray) : Int := (Out.on (Xm (X0 c0) Yv s_ 0 ()) (fun _ => -1))
theorem Cd (s_ : (List Y5)) (c0 : ByteArray) : ACalls Tryz.prog 184 [.h s_, .one (.fnr 185 [[.s c0]])] (.i (Jf s_ c0)) := by
 refine en Qb Tryz.func184 fun w0 F0 hG => ?_
 refine sn Qb [0, 1, 4] [] (p0) ?_
 refine Qe ?_
 refine tn Qb [0, 1, 4, 7, 8] [] (pl 1 s_ p0) ?_
 refine mz [(4, .i 0), (7, .i (s_.length : Int)), (8, .i 0)] [] [] [] ?_
 refine wT 0 0 .sh s_ (fun hw1 hl2 => ?_)
 refine Mq (X0 c0) Yv s_ () (fun k0 _ => [(8, .i ((k0 : Nat) : Int))]) [8] (fun _ => []) [0, 1, 7, 8] (Qd (by kernel_rfl)) (fun k0 s0 hk0 hI0 => ?_) (fun k0 s0 hk0 hI0 => ?_) (fun y0 hD0 => ?_)
 ·
  obtain ⟨a0, hx0⟩ := Xk (l := s_) (i := k0) hk0
  refine sn Qb [0, 1, 4, 7, 8, 9] [] (pe 0 (Qs (decide_eq_true (p := ((k0 : Nat) : Int) < (s_.length : Int)) (by omega))) p0) ?_
  refine Qe ?_
  refine ckT ?_
  refine Qj ?_
  refine Qe ?_
  refine Qt ?_
  refine tn Qb [0, 1, 4, 5, 7, 8] [] (p0) ?_
  refine tu Qb [(5, .i ((k0 : Nat) : Int)), (16, .b (Bj a0 c0))] [] [] [] (pn 3 hx0 (pc 5 (JC a0 c0) p0)) ?_
  refine ck (Bj a0 c0) (fun h3 => ?_) (fun h3 => ?_)
  ·
   refine sn Qb [0, 1, 4, 7, 8] [] (p0) ?_
   refine Qf ?_
   have hr4 : (Xm (X0 c0) Yv s_ 0 ()) = .ret ((k0 : Nat) : Int) := Z1 hx0 (Q8 h3 (rfl)) hI0
   exact pi [] (Gu hr4)
  ·
   refine Qj ?_
   refine rn Qb [0, 1, 4, 7, 8] [] (pe 0 (Jb (Qv k0 (by omega))) p0) ?_
   exact Exists.intro _ (And.intro (Qd (by kernel_rfl)) (Qz hx0 (Qn h3 (rfl)) hI0))
 ·
  refine sn Qb [0, 1, 4, 7, 8, 9] [] (pe 0 (Qs (decide_eq_false (p := ((k0 : Nat) : Int) < (s_.length : Int)) (by omega))) p0) ?_
  refine Qe ?_
  refine ckF ?_
  refine Q3 ?_
  exact Exists.intro _ (And.intro (Qd (by kernel_rfl)) (Xl hk0 (rfl) hI0))
 ·
  refine sn Qb [4] [] (p0) ?_
  refine Qf ?_
  exact pi [] (Wf hD0 (rfl))
def Xs (d : (List Y5)) (name : ByteArray) : Int := (Jf d name)
theorem AA (d : (List Y5)) (name : ByteArray) : ACalls Tryz.prog 176 [.h d, .s name] (.i (Xs d name)) := by
 refine en Qb Tryz.func176 fun w0 F0 hG => ?_
 refine sn Qb [0, 3, 4] [3] (p0) ?_
 refine tn Qb [4] [] (pc 2 (Cd d name) p0) ?_
 refine Qf ?_
 exact pi [] (show Xs d name = (Jf d name) from rfl)
def Fd (name : ByteArray) (k0 : Nat) (a0 : Y5) (_ : Unit) : Rd (Int) (Unit) (Unit) := (bif (a0.1.toList == name.toList) then (.ret ((k0 : Nat) : Int)) else (.next ()))
def Fe (_ : Nat) (_ : Unit) : Unit := ()
def Q9 (d : (List Y5)) (name : ByteArray) : Int := (Out.on (Xm (Fd name) Fe d 0 ()) (fun _ => -1))
theorem Mz (d : (List Y5)) (name : ByteArray) : ACalls Tryz.prog 158 [.h d, .s name] (.i (Q9 d name)) := by
 refine en Qb Tryz.func158 fun w0 F0 hG => ?_
 refine sn Qb [0, 1, 4] [] (p0) ?_
 refine Qe ?_
 refine tn Qb [0, 1, 4, 5] [] (p0) ?_
 refine mz [(4, .i 0), (5, .i 0)] [] [] [] ?_
 refine wT 0 0 .sh d (fun hw1 hl2 => ?_)
 refine Mq (Fd name) Fe d () (fun k0 _ => [(5, .i ((k0 : Nat) : Int))]) [5] (fun _ => []) [0, 1, 5] (Qd (by kernel_rfl)) (fun k0 s0 hk0 hI0 => ?_) (fun k0 s0 hk0 hI0 => ?_) (fun y0 hD0 => ?_)
 ·
  obtain ⟨a0, hx0⟩ := Xk (l := d) (i := k0) hk0
  refine Qe ?_
  refine sn Qb [0, 1, 4, 5, 9] [] (pl 2 d (pe 3 (Qs (decide_eq_true (p := ((k0 : Nat) : Int) < (d.length : Int)) (by omega))) p0)) ?_
  refine ckT ?_
  refine Qj ?_
  refine Qe ?_
  refine Qt ?_
  refine tn Qb [0, 1, 4, 5, 18] [] (pn 2 hx0 p0) ?_
  refine ck (a0.1.toList == name.toList) (fun h3 => ?_) (fun h3 => ?_)
  ·
   refine tu Qb [(4, .i ((k0 : Nat) : Int))] [4] [] [] (p0) ?_
   refine Qf ?_
   have hr4 : (Xm (Fd name) Fe d 0 ()) = .ret ((k0 : Nat) : Int) := Z1 hx0 (Q8 h3 (rfl)) hI0
   exact pi [] (Gu hr4)
  ·
   refine Qj ?_
   refine qu Qb [(5, .i ((k0 + 1 : Nat) : Int))] [5] [] [] (pe 1 (Jb (Qv k0 (by omega))) p0) ?_
   exact Exists.intro _ (And.intro (Qd (by kernel_rfl)) (Qz hx0 (Qn h3 (rfl)) hI0))
 ·
  refine Qe ?_
  refine sn Qb [0, 1, 4, 5, 9] [] (pl 2 d (pe 3 (Qs (decide_eq_false (p := ((k0 : Nat) : Int) < (d.length : Int)) (by omega))) p0)) ?_
  refine ckF ?_
  refine Q3 ?_
  exact Exists.intro _ (And.intro (Qd (by kernel_rfl)) (Xl hk0 (rfl) hI0))
 ·
  refine sn Qb [4] [] (p0) ?_
  refine Qf ?_
  exact pi [] (Wf hD0 (rfl))
end Go.Proofs.YtockoklfegpgeaaGreat
namespace Go.Proofs.YtockoklfegpgeaaGreat
open Go.RowKit
theorem JD (d : List Y5) : Jq d = W3 d := by
  unfold Jq W3
  rw [Ia (f := Kj d) (g := Uh d) (e := V1) (e' := Hr) (fun k a s => by
    unfold Kj Uh
    rw [NK, GQ]
    cases Yh a.1 <;> cases Yw a.2 <;> cases decide (((k : Nat) : Int) > (0 : Int)) <;> simp) (fun _ _ => rfl)]
theorem CB (s : ByteArray) : ∀ (l : List Y5) (k : Nat), Xm (X0 s) Yv l k () = .brk () ∨ ∃ i : Nat, i < l.length ∧ Xm (X0 s) Yv l k () = .ret (((k + i : Nat)) : Int)
  | [], _ => .inl rfl
  | a :: l, k => by
    simp only [Xm, X0]
    unfold Bj
    cases (a.1.toList == s.toList) with
    | true => exact .inr ⟨0, by simp, rfl⟩
    | false =>
      simp only [cond_false]
      rcases CB s l (k + 1) with h | ⟨i, hi, h⟩
      · exact .inl h
      · exact .inr ⟨i + 1, by simpa using hi, by rw [h, show k + 1 + i = k + (i + 1) by omega]⟩
theorem JE (d : List Y5) (s : ByteArray) : -1 ≤ Xs d s ∧ Xs d s < (List.length d : Int) := by
  unfold Xs Jf
  rcases CB s d 0 with h | ⟨i, hi, h⟩
  · rw [h]; simp only [Out.on]; omega
  · rw [h]; simp only [Out.on]; omega
theorem Oz (d : List Y5) (s : ByteArray) : -1 ≤ Q9 d s ∧ Q9 d s < (List.length d : Int) := JE d s
open GoE (enc wide)
def Hs (d : (List Y5)) (strata : (List Int)) (more : Int) (_ : Nat) (a0 : ByteArray) (s0 : Int) : Rd (Int) (Int) (Int) := (bif decide ((Xs d a0) ≥ (0 : Int)) then (.next (max s0 (IntKind.i64.wrap ((nth strata (Int.toNat (Xs d a0))) + more)))) else (.next s0))
def Ce (_ : Nat) (s0 : Int) : Int := s0
def Xi (d : (List Y5)) (strata : (List Int)) (names : (List ByteArray)) (more : Int) : Int := (Out.on (Xm (Hs d strata more) Ce names 0 0) (fun y0 => y0))
theorem Gn (d : (List Y5)) (strata : (List Int)) (names : (List ByteArray)) (more : Int) (hp : List.length d ≤ List.length strata) : ACalls Tryz.prog 163 [.h d, .h strata, .h names, .i more] (.i (Xi d strata names more)) := by
 refine en Qb Tryz.func163 fun w0 F0 hG => ?_
 refine sn Qb [0, 1, 2, 3, 8] [] (p0) ?_
 refine tn Qb [0, 1, 2, 3, 8, 9] [] (p0) ?_
 refine Qe ?_
 refine tu Qb [(8, .i 0), (9, .i 0), (13, .h names), (14, .i (names.length : Int)), (15, .i 0)] [2] [] [] (pl 1 names p0) ?_
 refine wT 13 0 .sh names (fun hw1 hl2 => ?_)
 refine Mq (Hs d strata more) Ce names 0 (fun k0 s0 => [(9, .i s0), (15, .i ((k0 : Nat) : Int))]) [9, 15] (fun y0 => [(9, .i y0)]) [0, 1, 3, 9, 13, 14, 15] (Qd (by kernel_rfl)) (fun k0 s0 hk0 hI0 => ?_) (fun k0 s0 hk0 hI0 => ?_) (fun y0 hD0 => ?_)
 ·
  obtain ⟨a0, hx0⟩ := Xk (l := names) (i := k0) hk0
  refine su Qb [(16, .b true)] [] [] [] (pe 0 (Qs (decide_eq_true (p := ((k0 : Nat) : Int) < (names.length : Int)) (by omega))) p0) ?_
  refine Qe ?_
  refine ckT ?_
  refine Qj ?_
  refine Qe ?_
  refine Qt ?_
  refine su Qb [(11, .s a0)] [16] [] [] (pn 0 hx0 p0) ?_
  refine sn Qb [0, 1, 3, 8, 9, 12, 13, 14, 15] [] (pc 2 (AA d a0) p0) ?_
  refine tn Qb [0, 1, 3, 8, 9, 12, 13, 14, 15, 23] [] (p0) ?_
  refine ck (decide ((Xs d a0) ≥ (0 : Int))) (fun h3 => ?_) (fun h3 => ?_)
  ·
   have h3p := JE d a0
   have h3d := of_decide_eq_true h3
   refine wT 1 0 .sh strata (fun hw5 hl6 => ?_)
   have hx4 := ng strata (Int.toNat (Xs d a0))
   refine qu Qb [(9, .i (max s0 (IntKind.i64.wrap ((nth strata (Int.toNat (Xs d a0))) + more))))] [9, 11] [] [] (pg 3 (Xs d a0) hx4 p0) ?_
   refine rn Qb [0, 1, 3, 8, 9, 13, 14, 15] [] (pe 0 (Jb (Qv k0 (by omega))) p0) ?_
   exact Exists.intro _ (And.intro (Qd (by kernel_rfl)) (Qz hx0 (Q8 h3 (rfl)) hI0))
  ·
   have h3d := of_decide_eq_false h3
   refine Qj ?_
   refine qu Qb [(15, .i ((k0 + 1 : Nat) : Int))] [11, 15] [] [] (pe 0 (Jb (Qv k0 (by omega))) p0) ?_
   exact Exists.intro _ (And.intro (Qd (by kernel_rfl)) (Qz hx0 (Qn h3 (rfl)) hI0))
 ·
  refine su Qb [(16, .b false)] [] [] [] (pe 0 (Qs (decide_eq_false (p := ((k0 : Nat) : Int) < (names.length : Int)) (by omega))) p0) ?_
  refine Qe ?_
  refine ckF ?_
  refine Q3 ?_
  exact Exists.intro _ (And.intro (Qd (by kernel_rfl)) (Xl hk0 (rfl) hI0))
 ·
  refine sn Qb [8] [] (p0) ?_
  refine Qf ?_
  exact pi [] (Wf hD0 (rfl))
def U2 (d : (List Y5)) (k0 : Nat) (_ : Nat) (a1 : ByteArray) (s1 : (List Int)) : Rd (Rd ((List Int)) ((List Int)) ((List Int))) ((List Int)) ((List Int)) := (bif (decide ((Q9 d a1) ≥ (0 : Int)) && decide ((nth s1 (Int.toNat (Q9 d a1))) > (nth s1 k0))) then (.next (List.set s1 k0 (nth s1 (Int.toNat (Q9 d a1))))) else (.next s1))
def H3 (_ : Nat) (s1 : (List Int)) : (List Int) := s1
def U3 (d : (List Y5)) (k0 : Nat) (_ : Nat) (a2 : ByteArray) (s2 : (List Int)) : Rd (Rd ((List Int)) ((List Int)) ((List Int))) ((List Int)) ((List Int)) := (bif (decide ((Q9 d a2) ≥ (0 : Int)) && decide (IntKind.i64.wrap ((nth s2 (Int.toNat (Q9 d a2))) + 1) > (nth s2 k0))) then (.next (List.set s2 k0 (IntKind.i64.wrap ((nth s2 (Int.toNat (Q9 d a2))) + 1)))) else (.next s2))
def Cf (_ : Nat) (s2 : (List Int)) : (List Int) := s2
def W4 (d : (List Y5)) (k0 : Nat) (a0 : Y5) (s0 : (List Int)) : Rd ((List Int)) ((List Int)) ((List Int)) := (Out.on (Xm (U2 d k0) H3 (Zx a0.2) 0 s0) (fun y1 => (Out.on (Xm (U3 d k0) Cf (Zy a0.2) 0 y1) (fun y2 => (.next y2)))))
def Cg (_ : Nat) (s0 : (List Int)) : (List Int) := s0
def Vw (d : (List Y5)) (lev : (List Int)) : (List Int) := (Out.on (Xm (W4 d) Cg d 0 lev) (fun y0 => y0))
theorem M0 (d : (List Y5)) (lev : (List Int)) (hp : List.length d ≤ List.length lev) : ACalls Tryz.prog 132 [.h d, .h lev] (.o 0 (Vw d lev)) := by
 refine en Qb Tryz.func132 fun w0 F0 hG => ?_
 refine sn Qb [0, 1, 4] [] (p0) ?_
 refine wT 1 0 .sh lev (fun hw1 hl2 => ?_)
 refine tn Qb [0, 4, 5] [] (po 2 (.flat) (px (Hy (n := (([] : List (List PV)).length + ((eL lev) : List (List PV)).length)) (B9 (rfl) (Ym lev) (by first | omega | (simp only [List.length_cons, List.length_nil]; omega) | (simp; omega) | simp))) (px (Ub (Wm lev)) p0))) ?_
 refine Qe ?_
 refine tu Qb [(4, .e 0), (5, .o 960 lev), (6, .i 0)] [1] [] [] (p0) ?_
 refine wT 0 0 .sh d (fun hw3 hl4 => ?_)
 refine PG (W4 d) Cg d lev (fun k0 s0 => [(5, .o 960 s0), (6, .i ((k0 : Nat) : Int))]) [5, 6] (fun y0 => [(5, .o 960 y0)]) [0, 5, 6] (fun _ s0 => List.length s0 = List.length lev) (fun y0 => List.length y0 = List.length lev) (Qd (by kernel_rfl)) (by simp) (fun k0 s0 hk0 hI0 => ?_) (fun k0 s0 hk0 hI0 => ?_) (fun y0 hD0 => ?_)
 ·
  have hA0_0 := hI0.2
  obtain ⟨a0, hx0⟩ := Xk (l := d) (i := k0) hk0
  refine Qe ?_
  refine sn Qb [0, 4, 5, 6, 19] [] (pl 2 d (pe 3 (Qs (decide_eq_true (p := ((k0 : Nat) : Int) < (d.length : Int)) (by omega))) p0)) ?_
  refine ckT ?_
  refine Qj ?_
  refine Qe ?_
  refine Qt ?_
  refine tn Qb [0, 4, 5, 6, 7] [] (pn 2 hx0 (pc 5 (Ox a0.2) p0)) ?_
  refine Qe ?_
  refine tu Qb [(7, .o 1728 (Zx a0.2)), (8, .i 0)] [] [] [] (p0) ?_
  refine wT 7 0 (.own true 1728) (Zx a0.2) (fun hw5 hl6 => ?_)
  refine PG (U2 d k0) H3 (Zx a0.2) s0 (fun k1 s1 => [(5, .o 960 s1), (8, .i ((k1 : Nat) : Int))]) [5, 8] (fun y1 => [(5, .o 960 y1)]) [5, 7, 8] (fun _ s1 => List.length s1 = List.length s0) (fun y1 => List.length y1 = List.length s0) (Qd (by kernel_rfl)) (by simp) (fun k1 s1 hk1 hI1 => ?_) (fun k1 s1 hk1 hI1 => ?_) (fun y1 hD1 => ?_)
  ·
   have hA1_0 := hI1.2
   obtain ⟨a1, hx1⟩ := Xk (l := Zx a0.2) (i := k1) hk1
   refine Qe ?_
   refine su Qb [(31, .b true)] [] [] [] (pl 2 (Zx a0.2) (pe 3 (Qs (decide_eq_true (p := ((k1 : Nat) : Int) < ((Zx a0.2).length : Int)) (by omega))) p0)) ?_
   refine ckT ?_
   refine Qj ?_
   refine Qe ?_
   refine Qt ?_
   refine sn Qb [0, 4, 5, 6, 7, 8, 9] [] (pN 3 hx1 (pc 5 (Mz d a1) p0)) ?_
   refine Qe ?_
   refine mz [(9, .i (Q9 d a1))] [31] [] [] ?_
   refine jn [(52, .b (decide ((Q9 d a1) ≥ (0 : Int)) && decide ((nth s1 (Int.toNat (Q9 d a1))) > (nth s1 k0))))] [] [] [] (decide ((Q9 d a1) ≥ (0 : Int))) (fun h7 => ?_) (fun h7 => ?_) ?_
   ·
    have h7p := Oz d a1
    have h7d := of_decide_eq_true h7
    refine wT 5 0 (.own true 960) s1 (fun hw9 hl10 => ?_)
    have hx8 := ng s1 (Int.toNat (Q9 d a1))
    have hx11 := ng s1 k0
    refine rN Qb Yn [0, 4, 5, 6, 7, 8, 9, 52] [] (pt 1 h7 (pG 5 (Q9 d a1) hx8 (pN 9 hx11 p0))) ?_
    exact ⟨rfl, Qd (by rw [h7]; first | done | kernel_rfl)⟩
   ·
    refine rU Qb Yn [(52, .b false)] [] [] [] (pf 1 h7 p0) ?_
    exact ⟨rfl, Qd (by rw [h7]; first | done | kernel_rfl)⟩
   refine ck (decide ((Q9 d a1) ≥ (0 : Int)) && decide ((nth s1 (Int.toNat (Q9 d a1))) > (nth s1 k0))) (fun h12 => ?_) (fun h12 => ?_)
   ·
    have h12l : (decide ((Q9 d a1) ≥ (0 : Int))) = true := HO h12
    have h12lp := Oz d a1
    have h12ld := of_decide_eq_true h12l
    have h12r : (decide ((nth s1 (Int.toNat (Q9 d a1))) > (nth s1 k0))) = true := HP h12
    have h12rd := of_decide_eq_true h12r
    refine wT 5 0 (.own true 960) s1 (fun hw14 hl15 => ?_)
    have hx13 := ng s1 (Int.toNat (Q9 d a1))
    have hx16 := ng s1 k0
    refine ru Qb [(5, .one (.slc (.own true 960) 1 (setRow (eL s1) k0 0 [.i (nth s1 (Int.toNat (Q9 d a1)))])))] [5, 9, 52] [] [] (pG 4 (Q9 d a1) hx13 (pN 6 hx16 p0)) ?_
    refine eqn [(5, .o 960 (List.set s1 k0 (nth s1 (Int.toNat (Q9 d a1)))))] [5] [] [] (by rw [Z0 (y := (nth s1 (Int.toNat (Q9 d a1)))) hx16 rfl]; first | done | kernel_rfl) ?_
    refine rn Qb [0, 4, 5, 6, 7, 8] [] (pe 1 (Jb (Qv k1 (by omega))) p0) ?_
    exact Exists.intro (List.set s1 k0 (nth s1 (Int.toNat (Q9 d a1)))) (And.intro (Qd (by kernel_rfl)) ⟨Qz hx1 (Q8 h12 (rfl)) hI1.1, (by first | omega | (simp only [List.length_set]; omega))⟩)
   ·
    refine Qj ?_
    refine rn Qb [0, 4, 5, 6, 7, 8] [] (pe 1 (Jb (Qv k1 (by omega))) p0) ?_
    exact Exists.intro s1 (And.intro (Qd (by kernel_rfl)) ⟨Qz hx1 (Qn h12 (rfl)) hI1.1, (by first | omega | (simp only [List.length_set]; omega))⟩)
  ·
   have hA1_0 := hI1.2
   refine Qe ?_
   refine su Qb [(31, .b false)] [] [] [] (pl 2 (Zx a0.2) (pe 3 (Qs (decide_eq_false (p := ((k1 : Nat) : Int) < ((Zx a0.2).length : Int)) (by omega))) p0)) ?_
   refine ckF ?_
   refine Q3 ?_
   exact Exists.intro s1 (And.intro (Qd (by kernel_rfl)) ⟨Xl hk1 (rfl) hI1.1, by first | omega | (simp only [List.length_set]; omega)⟩)
  ·
   have hD1_0 := hD1.2
   refine sn Qb [0, 4, 5, 6, 10] [] (pn 2 hx0 (pc 5 (Oy a0.2) p0)) ?_
   refine tn Qb [0, 4, 5, 6, 10, 11] [] (p0) ?_
   refine mz [(10, .o 4160 (Zy a0.2)), (11, .i 0)] [] [] [] ?_
   refine wT 10 0 (.own true 4160) (Zy a0.2) (fun hw17 hl18 => ?_)
   refine PG (U3 d k0) Cf (Zy a0.2) y1 (fun k2 s2 => [(5, .o 960 s2), (11, .i ((k2 : Nat) : Int))]) [5, 11] (fun y2 => [(5, .o 960 y2)]) [5, 10, 11] (fun _ s2 => List.length s2 = List.length y1) (fun y2 => List.length y2 = List.length y1) (Qd (by kernel_rfl)) (by simp) (fun k2 s2 hk2 hI2 => ?_) (fun k2 s2 hk2 hI2 => ?_) (fun y2 hD2 => ?_)
   ·
    have hA2_0 := hI2.2
    obtain ⟨a2, hx2⟩ := Xk (l := Zy a0.2) (i := k2) hk2
    refine Qe ?_
    refine su Qb [(69, .b true)] [] [] [] (pl 2 (Zy a0.2) (pe 3 (Qs (decide_eq_true (p := ((k2 : Nat) : Int) < ((Zy a0.2).length : Int)) (by omega))) p0)) ?_
    refine ckT ?_
    refine Qj ?_
    refine Qe ?_
    refine Qt ?_
    refine sn Qb [0, 4, 5, 6, 10, 11, 12] [] (pN 3 hx2 (pc 5 (Mz d a2) p0)) ?_
    refine Qe ?_
    refine mz [(12, .i (Q9 d a2))] [69] [] [] ?_
    refine jn [(91, .b (decide ((Q9 d a2) ≥ (0 : Int)) && decide (IntKind.i64.wrap ((nth s2 (Int.toNat (Q9 d a2))) + 1) > (nth s2 k0))))] [] [] [] (decide ((Q9 d a2) ≥ (0 : Int))) (fun h19 => ?_) (fun h19 => ?_) ?_
    ·
     have h19p := Oz d a2
     have h19d := of_decide_eq_true h19
     refine wT 5 0 (.own true 960) s2 (fun hw21 hl22 => ?_)
     have hx20 := ng s2 (Int.toNat (Q9 d a2))
     have hx23 := ng s2 k0
     refine rN Qb Yn [0, 4, 5, 6, 10, 11, 12, 91] [] (pt 1 h19 (pG 5 (Q9 d a2) hx20 (pN 10 hx23 p0))) ?_
     exact ⟨rfl, Qd (by rw [h19]; first | done | kernel_rfl)⟩
    ·
     refine rU Qb Yn [(91, .b false)] [] [] [] (pf 1 h19 p0) ?_
     exact ⟨rfl, Qd (by rw [h19]; first | done | kernel_rfl)⟩
    refine ck (decide ((Q9 d a2) ≥ (0 : Int)) && decide (IntKind.i64.wrap ((nth s2 (Int.toNat (Q9 d a2))) + 1) > (nth s2 k0))) (fun h24 => ?_) (fun h24 => ?_)
    ·
     have h24l : (decide ((Q9 d a2) ≥ (0 : Int))) = true := HO h24
     have h24lp := Oz d a2
     have h24ld := of_decide_eq_true h24l
     have h24r : (decide (IntKind.i64.wrap ((nth s2 (Int.toNat (Q9 d a2))) + 1) > (nth s2 k0))) = true := HP h24
     have h24rd := of_decide_eq_true h24r
     refine wT 5 0 (.own true 960) s2 (fun hw26 hl27 => ?_)
     have hx25 := ng s2 (Int.toNat (Q9 d a2))
     have hx28 := ng s2 k0
     refine ru Qb [(5, .one (.slc (.own true 960) 1 (setRow (eL s2) k0 0 [.i (IntKind.i64.wrap ((nth s2 (Int.toNat (Q9 d a2))) + 1))])))] [5, 12, 91] [] [] (pG 4 (Q9 d a2) hx25 (pN 7 hx28 p0)) ?_
     refine eqn [(5, .o 960 (List.set s2 k0 (IntKind.i64.wrap ((nth s2 (Int.toNat (Q9 d a2))) + 1))))] [5] [] [] (by rw [Z0 (y := IntKind.i64.wrap ((nth s2 (Int.toNat (Q9 d a2))) + 1)) hx28 rfl]; first | done | kernel_rfl) ?_
     refine rn Qb [0, 4, 5, 6, 10, 11] [] (pe 1 (Jb (Qv k2 (by omega))) p0) ?_
     exact Exists.intro (List.set s2 k0 (IntKind.i64.wrap ((nth s2 (Int.toNat (Q9 d a2))) + 1))) (And.intro (Qd (by kernel_rfl)) ⟨Qz hx2 (Q8 h24 (rfl)) hI2.1, (by first | omega | (simp only [List.length_set]; omega))⟩)
    ·
     refine Qj ?_
     refine rn Qb [0, 4, 5, 6, 10, 11] [] (pe 1 (Jb (Qv k2 (by omega))) p0) ?_
     exact Exists.intro s2 (And.intro (Qd (by kernel_rfl)) ⟨Qz hx2 (Qn h24 (rfl)) hI2.1, (by first | omega | (simp only [List.length_set]; omega))⟩)
   ·
    have hA2_0 := hI2.2
    refine Qe ?_
    refine su Qb [(69, .b false)] [] [] [] (pl 2 (Zy a0.2) (pe 3 (Qs (decide_eq_false (p := ((k2 : Nat) : Int) < ((Zy a0.2).length : Int)) (by omega))) p0)) ?_
    refine ckF ?_
    refine Q3 ?_
    exact Exists.intro s2 (And.intro (Qd (by kernel_rfl)) ⟨Xl hk2 (rfl) hI2.1, by first | omega | (simp only [List.length_set]; omega)⟩)
   ·
    have hD2_0 := hD2.2
    refine rn Qb [0, 4, 5, 6] [] (pe 1 (Jb (Qv k0 (by omega))) p0) ?_
    exact Exists.intro y2 (And.intro (Qd (by kernel_rfl)) ⟨Qz hx0 (Wf hD1.1 (Wf hD2.1 (rfl))) hI0.1, (by first | omega | (simp only [List.length_set]; omega))⟩)
 ·
  have hA0_0 := hI0.2
  refine Qe ?_
  refine sn Qb [0, 4, 5, 6, 19] [] (pl 2 d (pe 3 (Qs (decide_eq_false (p := ((k0 : Nat) : Int) < (d.length : Int)) (by omega))) p0)) ?_
  refine ckF ?_
  refine Q3 ?_
  exact Exists.intro s0 (And.intro (Qd (by kernel_rfl)) ⟨Xl hk0 (rfl) hI0.1, by first | omega | (simp only [List.length_set]; omega)⟩)
 ·
  have hD0_0 := hD0.2
  refine sn Qb [4] [] (p0) ?_
  refine Qf ?_
  exact po0 [] (Wf hD0.1 (rfl))
end Go.Proofs.YtockoklfegpgeaaGreat
namespace Go.Proofs.YtockoklfegpgeaaGreat
open Go.RowKit
theorem Sf {α R S T : Type} {f : Nat → α → S → Rd R S T} {e : Nat → S → T} (I : S → Prop) (h : ∀ k a s, I s → ∃ s', f k a s = .next s' ∧ I s') : ∀ (l : List α) (k : Nat) (s : S), I s → ∃ s', Xm f e l k s = .brk (e (k + l.length) s') ∧ I s'
  | [], k, s, hs => ⟨s, by simp [Xm], hs⟩
  | a :: l, k, s, hs => by
    obtain ⟨s1, h1, h2⟩ := h k a s hs
    obtain ⟨s2, h3, h4⟩ := Sf I h l (k + 1) s1 h2
    refine ⟨s2, ?_, h4⟩
    simp only [Xm, h1]
    rw [h3, List.length_cons, show k + 1 + l.length = k + (l.length + 1) by omega]
theorem Qar (d : List Y5) (k0 n : Nat) (k : Nat) (a : ByteArray) (s : List Int) (hs : s.length = n) : ∃ s', U2 d k0 k a s = .next s' ∧ s'.length = n := by
  unfold U2
  generalize (decide ((Q9 d a) ≥ (0 : Int)) && decide ((nth s (Int.toNat (Q9 d a))) > (nth s k0))) = c
  cases c <;> exact ⟨_, rfl, by simpa using hs⟩
theorem Qas (d : List Y5) (k0 n : Nat) (k : Nat) (a : ByteArray) (s : List Int) (hs : s.length = n) : ∃ s', U3 d k0 k a s = .next s' ∧ s'.length = n := by
  unfold U3
  generalize (decide ((Q9 d a) ≥ (0 : Int)) && decide (IntKind.i64.wrap ((nth s (Int.toNat (Q9 d a))) + 1) > (nth s k0))) = c
  cases c <;> exact ⟨_, rfl, by simpa using hs⟩
theorem Qat (d : List Y5) (n : Nat) (k : Nat) (a : Y5) (s : List Int) (hs : s.length = n) : ∃ s', W4 d k a s = .next s' ∧ s'.length = n := by
  unfold W4
  obtain ⟨s1, h1, h2⟩ := Sf (e := H3) (fun s : List Int => s.length = n) (Qar d k n) (Zx a.2) 0 s hs
  obtain ⟨s2, h3, h4⟩ := Sf (e := Cf) (fun s : List Int => s.length = n) (Qas d k n) (Zy a.2) 0 s1 h2
  refine ⟨s2, ?_, h4⟩
  rw [h1]
  simp only [Out.on, H3]
  rw [h3]
  rfl
theorem WF (d : List Y5) (lev : List Int) : List.length (Vw d lev) = List.length lev := by
  unfold Vw
  obtain ⟨s1, h1, h2⟩ := Sf (e := Cg) (fun s : List Int => s.length = lev.length) (Qat d lev.length) d 0 lev rfl
  rw [h1]
  exact h2
theorem Ff {d : List Y5} (h : Jq d = true) : List.length d ≤ 5 := by
  unfold Jq at h
  cases hf : Xm (Kj d) V1 d 0 () with
  | brk t => rw [hf] at h; simp only [Out.on, decide_eq_true_eq] at h; omega
  | ret r =>
    rw [hf] at h
    obtain rfl : r = true := h
    exfalso
    have key : ∀ (l : List Y5) k, Xm (Kj d) V1 l k () ≠ .ret true := by
      intro l
      induction l with
      | nil => intro k h; simp [Xm] at h
      | cons a l ih =>
        intro k h
        simp only [Xm] at h
        unfold Kj at h
        split at h
        · rename_i hf; exact ih _ h
        · cases h
        · rename_i r hf; cases h; revert hf; generalize (_ || _ : Bool) = c; cases c <;> simp
    exact key _ _ hf
theorem Qau {d : List Y5} (h : W3 d = true) : IntKind.i64.wrap (IntKind.i64.wrap ((d.length : Int) * (d.length : Int)) + 1) = ((List.length d * List.length d + 1 : Nat) : Int) ∧ ((List.length d * List.length d + 1 : Nat) : Int) ≤ 26 := by
  have h5 := Ff ((JD d).trans h)
  generalize List.length d = n at h5 ⊢
  have : n = 0 ∨ n = 1 ∨ n = 2 ∨ n = 3 ∨ n = 4 ∨ n = 5 := by omega
  rcases this with rfl | rfl | rfl | rfl | rfl | rfl <;> decide
end Go.Proofs.YtockoklfegpgeaaGreat
namespace Go.Proofs.YtockoklfegpgeaaGreat
open Go.RowKit
def Kt (d : List Y5) (w : Int) : List ByteArray → Vr
  | [] => []
  | s :: r => if 0 ≤ Xs d s then (Int.toNat (Xs d s), w) :: Kt d w r else Kt d w r
theorem Nt (d : List Y5) (w : Int) : ∀ (l : List ByteArray) (e : Nat × Int), e ∈ Kt d w l → e.2 = w ∧ e.1 < d.length
  | [], e, h => by simp [Kt] at h
  | s :: r, e, h => by
    simp only [Kt] at h
    split at h
    · rename_i h0
      rcases List.mem_cons.1 h with rfl | h
      · have := (JE d s).2
        exact ⟨rfl, by show Int.toNat _ < _; omega⟩
      · exact Nt d w r e h
    · exact Nt d w r e h
def J3 (d : List Y5) (i : Nat) : Vr := if i < d.length then Kt d 0 (Yf (nth d i).2) ++ Kt d 1 (Xp (nth d i).2) else []
theorem Lr (d : List Y5) (i : Nat) (e : Nat × Int) (h : e ∈ J3 d i) : e.2 ≤ 1 ∧ e.1 < d.length ∧ i < d.length := by
  unfold J3 at h
  split at h
  · rename_i hi
    rcases List.mem_append.1 h with h | h <;> (have := Nt d _ _ e h; omega)
  · simp at h
theorem NP (E1 E2 : Vr) (L : List Int) : Ft (E1 ++ E2) L = max (Ft E1 L) (Ft E2 L) := by
  have h1 : Ft (E1 ++ E2) L ≤ max (Ft E1 L) (Ft E2 L) := Bh.2 ⟨by have := Nq E1 L; omega, fun e he => by
    rcases List.mem_append.1 he with he | he
    · have := (Bh.1 (Int.le_refl (Ft E1 L))).2 e he; omega
    · have := (Bh.1 (Int.le_refl (Ft E2 L))).2 e he; omega⟩
  have h2 := Bh.1 (Int.le_refl (Ft (E1 ++ E2) L))
  have h3 : Ft E1 L ≤ Ft (E1 ++ E2) L := Bh.2 ⟨h2.1, fun e he => h2.2 e (List.mem_append_left _ he)⟩
  have h4 : Ft E2 L ≤ Ft (E1 ++ E2) L := Bh.2 ⟨h2.1, fun e he => h2.2 e (List.mem_append_right _ he)⟩
  omega
theorem P9 (d : List Y5) (L : List Int) (w : Int) (hw : 0 ≤ w ∧ w ≤ 1) (hL : ∀ j, 0 ≤ nth L j ∧ nth L j ≤ 1000000) : ∀ (l : List ByteArray) (k : Nat) (m : Int), Xm (Hs d L w) Ce l k m = .brk ((Kt d w l).foldl (fun m e => max m (nth L e.1 + e.2)) m)
  | [], k, m => rfl
  | s :: r, k, m => by
    simp only [Xm, Hs, Kt]
    have hwr : ∀ j, IntKind.i64.wrap (nth L j + w) = nth L j + w := fun j => IntWalk.i64_in _ (by have := hL j; omega)
    by_cases h : 0 ≤ Xs d s
    · have h' : decide (Xs d s ≥ (0 : Int)) = true := decide_eq_true h
      rw [h', cond_true, if_pos h, hwr]
      exact P9 d L w hw hL r (k + 1) _
    · have h' : decide (Xs d s ≥ (0 : Int)) = false := decide_eq_false h
      rw [h', cond_false, if_neg h]
      exact P9 d L w hw hL r (k + 1) _
theorem CC {d : List Y5} {L : List Int} {w : Int} (hw : 0 ≤ w ∧ w ≤ 1) (hL : ∀ j, 0 ≤ nth L j ∧ nth L j ≤ 1000000) (l : List ByteArray) : Xi d L l w = Ft (Kt d w l) L := by
  unfold Xi
  rw [P9 d L w hw hL]
  rfl
theorem NQ {d : List Y5} {L : List Int} (hL : ∀ j, 0 ≤ nth L j ∧ nth L j ≤ 1000000) {i : Nat} (hi : i < d.length) : max (Xi d L (Yf (nth d i).2) 0) (Xi d L (Xp (nth d i).2) 1) = Ft (J3 d i) L := by
  rw [CC (by omega) hL, CC (by omega) hL]
  unfold J3
  rw [if_pos hi, NP]
abbrev CE (d : List Y5) (a : Y5) (L : List Int) : Int := max (Xi d L (Yf a.2) 0) (Xi d L (Xp a.2) 1)
abbrev II := Nat → Y5 → List Int × Bool → Rd (Rd (List Int × Bool) (List Int × Bool) (List Int)) (List Int × Bool) (List Int × Bool)
def IJ (d : List Y5) (f : II) : Prop := ∀ k a s, f k a s = bif decide (CE d a s.1 > (d.length : Int)) then .ret (.ret ([], false)) else (bif decide (CE d a s.1 > nth s.1 k) then .next (List.set s.1 k (CE d a s.1), true) else .next (s.1, s.2))
theorem Nu {d : List Y5} {f : II} {e : Nat → List Int × Bool → List Int × Bool} (hf : IJ d f) (he : ∀ k s, e k s = s) (hd : d.length ≤ 1000000) :
    ∀ (l : List Y5) (k : Nat) (L : List Int) (c : Bool), d.drop k = l → L.length = d.length → (∀ j, 0 ≤ nth L j ∧ nth L j ≤ (d.length : Int)) →
      Xm f e l k (L, c) = (match Dg (J3 d) d.length (List.range' k l.length) (c, L) with
        | none => .ret (.ret ([], false))
        | some s => .brk (s.2, s.1))
  | [], k, L, c, _, _, _ => by simp [Xm, Dg, he]
  | a :: l, k, L, c, hl, hlen, hL => by
    have hk : d[k]? = some a := by
      have := congrArg (·[0]?) hl
      simpa using this
    have hkl : k < d.length := (List.getElem?_eq_some_iff.1 hk).1
    have ha : nth d k = a := Lh hk
    have hrest : d.drop (k + 1) = l := by rw [← List.drop_drop, hl]; rfl
    have hb : ∀ j, 0 ≤ nth L j ∧ nth L j ≤ 1000000 := fun j => by have := hL j; omega
    have hM : CE d a L = Ft (J3 d k) L := by rw [← ha]; exact NQ hb hkl
    simp only [Xm, hf k a (L, c), List.length_cons, List.range'_succ, Dg, hM]
    by_cases h1 : (d.length : Int) < Ft (J3 d k) L
    · rw [decide_eq_true (show Ft (J3 d k) L > (d.length : Int) from h1), cond_true, if_pos h1]
    · rw [decide_eq_false (show ¬ Ft (J3 d k) L > (d.length : Int) from h1), cond_false, if_neg h1]
      by_cases h2 : nth L k < Ft (J3 d k) L
      · rw [decide_eq_true (show Ft (J3 d k) L > nth L k from h2), cond_true, if_pos h2]
        refine Nu hf he hd l (k + 1) _ true hrest (by rw [List.length_set]; exact hlen) fun j => ?_
        have h0 := Nq (J3 d k) L
        rw [Nr _ _ (by omega)]
        split
        · omega
        · exact hL j
      · rw [decide_eq_false (show ¬ Ft (J3 d k) L > nth L k from h2), cond_false, if_neg h2]
        exact Nu hf he hd l (k + 1) L c hrest hlen hL
def TY : Option (List Int) → Out (List Int × Bool) (List Int)
  | none => .ret ([], false)
  | some L => .brk L
def PN (d : List Y5) (f : II) (e : Nat → List Int × Bool → List Int × Bool) (F : List Int × Bool → Rd (List Int × Bool) (List Int × Bool) (List Int)) : Prop := ∀ s, F s = bif s.2 then (Out.on (Xm f e d 0 (s.1, false)) fun y1 => .next (y1.1, y1.2)) else .brk s.1
theorem Gp {d : List Y5} {f : II} {e : Nat → List Int × Bool → List Int × Bool} {F : List Int × Bool → Rd (List Int × Bool) (List Int × Bool) (List Int)} (hf : IJ d f) (he : ∀ k s, e k s = s) (hF : PN d f e F) (hd : d.length ≤ 1000000) :
    ∀ (n : Nat) (L : List Int) (c : Bool), L.length = d.length → (∀ j, 0 ≤ nth L j ∧ nth L j ≤ (d.length : Int)) → whl F n (L, c) = (P5 (J3 d) d.length d.length n (c, L)).map TY
  | 0, L, c, _, _ => rfl
  | n + 1, L, false, _, _ => by
    simp only [whl, hF (L, false), cond_false, P5]
    rfl
  | n + 1, L, true, hlen, hL => by
    have hr := Nu hf he hd d 0 L false rfl hlen hL
    have e1 : List.range' 0 d.length = List.range d.length := (List.range_eq_range' ..).symm
    rw [e1] at hr
    simp only [whl, hF (L, true), cond_true, hr, P5]
    cases hc : Dg (J3 d) d.length (List.range d.length) (false, L) with
    | none => rfl
    | some s =>
      obtain ⟨h1, _, _, h4⟩ := D2 (List.range d.length) false L s (fun i hi => by rw [hlen]; exact A6 hi) hc
      have := Gp hf he hF hd n s.2 s.1 (by rw [h1, Mj, hlen]) fun j => ⟨by rw [h1]; exact Int.le_trans (hL j).1 (Ot (J3 d) j _ L), h4 (fun j => (hL j).2) j⟩
      exact this
theorem A7 (n : Nat) : (List.replicate n (0 : Int)).length = n ∧ ∀ j, 0 ≤ nth (List.replicate n (0 : Int)) j ∧ nth (List.replicate n (0 : Int)) j ≤ (n : Int) :=
  ⟨by simp, fun j => by rw [Sb]; omega⟩
theorem AB {d : List Y5} {f : II} {e : Nat → List Int × Bool → List Int × Bool} {F : List Int × Bool → Rd (List Int × Bool) (List Int × Bool) (List Int)} (hf : IJ d f) (he : ∀ k s, e k s = s) (hF : PN d f e F) (hd : d.length ≤ 1000000) :
    (whl F (List.length d * List.length d + 3) (List.replicate (Int.toNat (d.length : Int)) (0 : Int), true)).isSome = true := by
  rw [Int.toNat_natCast, Gp hf he hF hd _ _ _ (A7 _).1 (A7 _).2, Option.isSome_map]
  refine YN _ _ _ (A7 _).1 (fun j => ((A7 _).2 j).2) ?_
  have : ((List.length d * List.length d + 3 : Nat) : Int) = (d.length : Int) * (d.length : Int) + 3 := by rw [Int.natCast_add, Int.natCast_mul]; rfl
  have h0 : (List.replicate d.length (0 : Int)).sum = 0 := by simp
  rw [this, h0]
  omega
open GoE (enc wide)
def Aw (b : (List Int)) (k0 : Nat) (a0 : Int) (_ : Unit) : Rd (Bool) (Unit) (Unit) := (bif (a0 != (nth b k0)) then (.ret false) else (.next ()))
def Dp (_ : Nat) (_ : Unit) : Unit := ()
def V6 (a_ : (List Int)) (b : (List Int)) : Bool := (bif ((a_.length : Int) != (b.length : Int)) then false else (Out.on (Xm (Aw b) Dp a_ 0 ()) (fun _ => true)))
theorem O0 (a_ : (List Int)) (b : (List Int)) : ACalls Tryz.prog 130 [.h a_, .h b] (.b (V6 a_ b)) := by
 refine en Qb Tryz.func130 fun w0 F0 hG => ?_
 refine sn Qb [0, 1, 4] [] (p0) ?_
 refine Qe ?_
 refine tn Qb [0, 1, 4, 10] [] (pl 1 a_ (pl 3 b p0)) ?_
 refine ck ((a_.length : Int) != (b.length : Int)) (fun h1 => ?_) (fun h1 => ?_)
 ·
  refine tu Qb [(4, .b false)] [] [] [] (p0) ?_
  refine Qf ?_
  exact pb [] (Q8 h1 (rfl))
 ·
  have h1d := We h1
  refine Qj ?_
  refine Qe ?_
  refine tu Qb [(4, .b false), (5, .i 0)] [] [] [] (p0) ?_
  refine wT 0 0 .sh a_ (fun hw2 hl3 => ?_)
  refine Mq (Aw b) Dp a_ () (fun k0 _ => [(5, .i ((k0 : Nat) : Int))]) [5] (fun _ => []) [0, 1, 5] (Qd (by kernel_rfl)) (fun k0 s0 hk0 hI0 => ?_) (fun k0 s0 hk0 hI0 => ?_) (fun y0 hD0 => ?_)
  ·
   obtain ⟨a0, hx0⟩ := Xk (l := a_) (i := k0) hk0
   refine Qe ?_
   refine sn Qb [0, 1, 4, 5, 14] [] (pl 2 a_ (pe 3 (Qs (decide_eq_true (p := ((k0 : Nat) : Int) < (a_.length : Int)) (by omega))) p0)) ?_
   refine ckT ?_
   refine Qj ?_
   refine Qe ?_
   refine Qt ?_
   refine wT 1 0 .sh b (fun hw5 hl6 => ?_)
   have hx4 := ng b k0
   refine tN Qb Yn [0, 1, 4, 5, 25] [] (pn 2 hx0 (pn 6 hx4 p0)) ?_
   refine ck (a0 != (nth b k0)) (fun h7 => ?_) (fun h7 => ?_)
   ·
    refine tu Qb [] [] [] [] (p0) ?_
    refine Qf ?_
    have hr8 : (Xm (Aw b) Dp a_ 0 ()) = .ret false := Z1 hx0 (Q8 h7 (rfl)) hI0
    exact pb [] (Qn h1 (Gu hr8))
   ·
    have h7d := We h7
    refine Qj ?_
    refine qu Qb [(5, .i ((k0 + 1 : Nat) : Int))] [5] [] [] (pe 1 (Jb (Qv k0 (by omega))) p0) ?_
    exact Exists.intro _ (And.intro (Qd (by kernel_rfl)) (Qz hx0 (Qn h7 (rfl)) hI0))
  ·
   refine Qe ?_
   refine sn Qb [0, 1, 4, 5, 14] [] (pl 2 a_ (pe 3 (Qs (decide_eq_false (p := ((k0 : Nat) : Int) < (a_.length : Int)) (by omega))) p0)) ?_
   refine ckF ?_
   refine Q3 ?_
   exact Exists.intro _ (And.intro (Qd (by kernel_rfl)) (Xl hk0 (rfl) hI0))
  ·
   refine sn Qb [4] [] (p0) ?_
   refine Qf ?_
   exact pb [] (Qn h1 (Wf hD0 (rfl)))
def Et (d : (List Y5)) (_ : Nat) (s0 : (List Int)) : Rd ((List Int) × Bool) ((List Int)) ((List Int)) := (.next (Vw d s0))
def Ih (_ : Nat) (s0 : (List Int)) : (List Int) := s0
def Xu (d : (List Y5)) : (List Int) × Bool := (bif (!(W3 d)) then ([], false) else (Out.on (Vz (Et d) Ih (Int.toNat (IntKind.i64.wrap (IntKind.i64.wrap ((d.length : Int) * (d.length : Int)) + 1) + 1)) 0 (List.replicate (Int.toNat (d.length : Int)) (0 : Int))) (fun y0 => (bif (!(V6 (Vw d y0) y0)) then ([], false) else (y0, true)))))
theorem Lt (d : (List Y5)) : ACalls Tryz.prog 102 [.h d] (.tup [(false, [.o 0 (((Xu d)).1)]), (false, [.b (((Xu d)).2)])]) := by
 refine en Qb Tryz.func102 fun w0 F0 hG => ?_
 refine sn Qb [0, 2, 3] [] (p0) ?_
 refine Qe ?_
 refine tn Qb [0, 2, 3, 8] [] (pc 1 (P8 d) p0) ?_
 refine ck (!(W3 d)) (fun h1 => ?_) (fun h1 => ?_)
 ·
  refine tu Qb [(2, .one (.slc (.own true 576) 1 [])), (3, .b false)] [] [] [] (p0) ?_
  refine Qf ?_
  exact pz [] (show Xu d = _ from Q8 h1 (rfl)) (fun z => .tup [(false, [.o 0 z.1]), (false, [.b z.2])])
 ·
  have h1n : (W3 d) = true := Je h1
  have h1nv := Qau h1n
  refine Qj ?_
  refine wT 0 0 .sh d (fun hw2 hl3 => ?_)
  refine tu Qb [(2, .e 0), (3, .b false), (4, .one (.slc (.own true 768) 1 (List.replicate (Int.toNat (d.length : Int)) [.i 0])))] [] [] [] (pl 1 d (px (Ek (lo := 0) (hi := (d.length : Int)) (n := 1073741824) (⟨by omega, by omega, by omega⟩)) p0)) ?_
  refine eqn [(4, .o 768 (List.replicate (Int.toNat (d.length : Int)) (0 : Int)))] [4] [] [] (by rw [show (List.replicate (Int.toNat (d.length : Int)) [.i 0]) = (eL (List.replicate (Int.toNat (d.length : Int)) (0 : Int))) from NF _ (0 : Int)]; first | done | kernel_rfl) ?_
  refine Qe ?_
  refine sn Qb [0, 2, 3, 4, 5] [] (p0) ?_
  refine mz [(5, .i 0)] [] [] [] ?_
  refine Qbq (Et d) Ih (Int.toNat (IntKind.i64.wrap (IntKind.i64.wrap ((d.length : Int) * (d.length : Int)) + 1) + 1)) (List.replicate (Int.toNat (d.length : Int)) (0 : Int)) (fun k0 s0 => [(4, .o 147203 s0), (5, .i ((k0 : Nat) : Int))]) [4, 5] (fun y0 => [(4, .o 147353 y0)]) [4, 5] (fun _ s0 => List.length s0 = List.length d) (fun y0 => List.length y0 = List.length d) (Xy [(768, 147203)] (by kernel_rfl)) (by simp) (fun k0 s0 hk0 hI0 => ?_) (fun k0 s0 hk0 hI0 => ?_) (fun y0 hD0 => ?_)
  ·
   have hA0_0 := hI0.2
   refine Qe ?_
   refine sn Qb [0, 2, 3, 4, 5, 20] [] (pl 2 d (pl 4 d (pe 7 (Qs (decide_eq_true (p := ((k0 : Nat) : Int) ≤ IntKind.i64.wrap (IntKind.i64.wrap ((d.length : Int) * (d.length : Int)) + 1)) (by omega))) p0))) ?_
   refine ckT ?_
   refine Qj ?_
   refine Qe ?_
   refine Qt ?_
   refine qn Qb [0, 2, 3, 4, 5] [] (pc 2 (M0 d s0 (by omega)) p0) ?_
   refine qu Qb [(4, .o 1600 (Vw d s0)), (5, .i ((k0 + 1 : Nat) : Int))] [4, 5] [] [] (pe 1 (Jb (Qv k0 (by omega))) p0) ?_
   exact Exists.intro (Vw d s0) (And.intro (Xy [(1600, 147203)] (by kernel_rfl)) ⟨K3 hk0 (rfl) hI0.1, (by have hz := WF d s0; omega)⟩)
  ·
   have hA0_0 := hI0.2
   refine Qe ?_
   refine sn Qb [0, 2, 3, 4, 5, 20] [] (pl 2 d (pl 4 d (pe 7 (Qs (decide_eq_false (p := ((k0 : Nat) : Int) ≤ IntKind.i64.wrap (IntKind.i64.wrap ((d.length : Int) * (d.length : Int)) + 1)) (by omega))) p0))) ?_
   refine ckF ?_
   refine Q3 ?_
   exact Exists.intro s0 (And.intro (Xy [(147203, 147353)] (by kernel_rfl)) ⟨A5 hk0 (rfl) hI0.1, by first | omega | (simp only [List.length_set]; omega)⟩)
  ·
   have hD0_0 := hD0.2
   refine Qe ?_
   refine sn Qb [2, 3, 4, 31] [] (pc 2 (M0 d y0 (by omega)) (pc 4 (O0 (Vw d y0) y0) p0)) ?_
   refine ck (!(V6 (Vw d y0) y0)) (fun h4 => ?_) (fun h4 => ?_)
   ·
    refine tn Qb [2, 3, 4] [] (p0) ?_
    refine Qf ?_
    exact pz [] (show Xu d = _ from Qn h1 (Wf hD0.1 (Q8 h4 (rfl)))) (fun z => .tup [(false, [.o 0 z.1]), (false, [.b z.2])])
   ·
    refine Qj ?_
    refine tn Qb [2, 3] [] (p0) ?_
    refine Qf ?_
    exact pz [] (show Xu d = _ from Qn h1 (Wf hD0.1 (Qn h4 (rfl)))) (fun z => .tup [(false, [.o 0 z.1]), (false, [.b z.2])])
def Ui (d : (List Y5)) (k1 : Nat) (a1 : Y5) (s1 : (List Int) × Bool) : Rd (Rd ((List Int) × Bool) ((List Int) × Bool) ((List Int))) ((List Int) × Bool) ((List Int) × Bool) := (bif decide ((max (Xi d s1.1 (Yf a1.2) 0) (Xi d s1.1 (Xp a1.2) 1)) > (d.length : Int)) then (.ret (.ret ([], false))) else (bif decide ((max (Xi d s1.1 (Yf a1.2) 0) (Xi d s1.1 (Xp a1.2) 1)) > (nth s1.1 k1)) then (.next (List.set s1.1 k1 (max (Xi d s1.1 (Yf a1.2) 0) (Xi d s1.1 (Xp a1.2) 1)), true)) else (.next (s1.1, s1.2))))
def Uj (_ : Nat) (s1 : (List Int) × Bool) : (List Int) × Bool := (s1.1, s1.2)
def Vt (d : (List Y5)) (s0 : (List Int) × Bool) : Rd ((List Int) × Bool) ((List Int) × Bool) ((List Int)) := (bif s0.2 then (Out.on (Xm (Ui d) Uj d 0 (s0.1, false)) (fun y1 => (.next (y1.1, y1.2)))) else (.brk s0.1))
def Qu (d : (List Y5)) : (List Int) × Bool := (bif (!(Jq d)) then ([], false) else (Out.on (E0 (Vt d) (List.length d * List.length d + 3) ((List.replicate (Int.toNat (d.length : Int)) (0 : Int)), true)) (fun y0 => (y0, true))))
theorem D3 (d : List Y5) (hd : d.length ≤ 5) : (whl (Vt d) (List.length d * List.length d + 3) (List.replicate (Int.toNat (d.length : Int)) (0 : Int), true)).isSome = true := AB (f := Ui d) (e := Uj) (fun _ _ _ => rfl) (fun _ _ => rfl) (fun _ => rfl) (by omega)
theorem Rv (d : (List Y5)) : ACalls Tryz.prog 137 [.h d] (.tup [(false, [.o 0 (((Qu d)).1)]), (false, [.b (((Qu d)).2)])]) := by
 refine en Qb Tryz.func137 fun w0 F0 hG => ?_
 refine sn Qb [0, 2, 3] [] (p0) ?_
 refine Qe ?_
 refine tn Qb [0, 2, 3, 11] [] (pc 1 (P7 d) p0) ?_
 refine ck (!(Jq d)) (fun h1 => ?_) (fun h1 => ?_)
 ·
  refine tu Qb [(2, .e 0), (3, .b false)] [] [] [] (p0) ?_
  refine opn [(false, 2, 0, true, 384000, 1)] ?_
  refine Qf ?_
  exact pz [] (show Qu d = _ from Q8 h1 (rfl)) (fun z => .tup [(false, [.o 0 z.1]), (false, [.b z.2])])
 ·
  have h1n : (Jq d) = true := Je h1
  refine Qj ?_
  refine wT 0 0 .sh d (fun hw2 hl3 => ?_)
  refine tu Qb [(2, .e 0), (3, .b false), (4, .one (.slc (.own true 896) 1 (List.replicate (Int.toNat (d.length : Int)) [.i 0])))] [] [] [] (pl 1 d (px (Ek (lo := 0) (hi := (d.length : Int)) (n := 1073741824) (⟨by omega, by omega, by omega⟩)) p0)) ?_
  refine eqn [(4, .o 896 (List.replicate (Int.toNat (d.length : Int)) (0 : Int)))] [4] [] [] (by rw [show (List.replicate (Int.toNat (d.length : Int)) [.i 0]) = (eL (List.replicate (Int.toNat (d.length : Int)) (0 : Int))) from NF _ (0 : Int)]; first | done | kernel_rfl) ?_
  refine Qe ?_
  refine sn Qb [0, 2, 3, 4, 5] [] (p0) ?_
  refine mz [(5, .b true)] [] [] [] ?_
  refine blw (fun (s0 : (List Int) × Bool) => [(4, .o 896 s0.1), (5, .b s0.2)]) [4, 5] (fun s0 => []) [] (fun (y0 : (List Int)) => [(4, .o 896 y0)]) [0, 4, 5] (fun y0 => []) [] (fun (k0 : Nat) (s0 : (List Int) × Bool) => whl (Vt d) k0 s0 = some (E0 (Vt d) (List.length d * List.length d + 3) ((List.replicate (Int.toNat (d.length : Int)) (0 : Int)), true)) ∧ List.length s0.1 = List.length d) (fun (y0 : (List Int)) => (E0 (Vt d) (List.length d * List.length d + 3) ((List.replicate (Int.toNat (d.length : Int)) (0 : Int)), true)) = .brk y0) (List.length d * List.length d + 3) ((List.replicate (Int.toNat (d.length : Int)) (0 : Int)), true) (Qd (by kernel_rfl)) ⟨Ca (D3 d (Ff (h1n))), (by simp)⟩ (fun _ h => Dn h.1) (fun k0 s0 hI0 => ?_) (fun y0 hD0 => ?_)
  ·
   have hA0_0 := hI0.2
   refine Qe ?_
   refine sn Qb [0, 2, 3, 4, 5, 15] [] (p0) ?_
   refine ck s0.2 (fun h4 => ?_) (fun h4 => ?_)
   ·
    refine Qj ?_
    refine Qt ?_
    refine tn Qb [0, 2, 3, 4, 5] [] (p0) ?_
    refine tu Qb [(5, .b false), (16, .h d), (17, .i (d.length : Int)), (18, .i 0)] [5] [] [] (pl 1 d p0) ?_
    refine PG (Ui d) Uj d (s0.1, false) (fun k1 s1 => [(4, .o 896 s1.1), (5, .b s1.2), (18, .i ((k1 : Nat) : Int))]) [4, 5, 18] (fun y1 => [(4, .o 896 y1.1), (5, .b y1.2)]) [4, 5, 16, 17, 18] (fun _ s1 => List.length s1.1 = List.length s0.1) (fun y1 => List.length y1.1 = List.length s0.1) (Qd (by kernel_rfl)) (by simp) (fun k1 s1 hk1 hI1 => ?_) (fun k1 s1 hk1 hI1 => ?_) (fun y1 hD1 => ?_)
    ·
     have hA1_0 := hI1.2
     obtain ⟨a1, hx1⟩ := Xk (l := d) (i := k1) hk1
     refine su Qb [(19, .b true)] [] [] [] (pe 0 (Qs (decide_eq_true (p := ((k1 : Nat) : Int) < (d.length : Int)) (by omega))) p0) ?_
     refine Qe ?_
     refine ckT ?_
     refine Qj ?_
     refine Qe ?_
     refine Qt ?_
     refine sn Qb [0, 2, 3, 4, 5, 6, 7, 16, 17, 18] [7] (pn 1 hx1 p0) ?_
     refine tN Qb Yn [0, 2, 3, 4, 5, 6, 8, 16, 17, 18] [] (pc 4 (Ov a1.2) (pc 5 (Gn d s1.1 (Yf a1.2) 0 (by omega)) (pc 10 (Ow a1.2) (pc 11 (Gn d s1.1 (Xp a1.2) 1 (by omega)) p0)))) ?_
     refine Qe ?_
     refine tu Qb [(6, .i ((k1 : Nat) : Int)), (8, .i (max (Xi d s1.1 (Yf a1.2) 0) (Xi d s1.1 (Xp a1.2) 1))), (39, .b (decide ((max (Xi d s1.1 (Yf a1.2) 0) (Xi d s1.1 (Xp a1.2) 1)) > (d.length : Int))))] [19] [] [] (pl 2 d p0) ?_
     refine ck (decide ((max (Xi d s1.1 (Yf a1.2) 0) (Xi d s1.1 (Xp a1.2) 1)) > (d.length : Int))) (fun h5 => ?_) (fun h5 => ?_)
     ·
      refine su Qb [] [39] [] [] (p0) ?_
      refine opn [(false, 2, 0, true, 384000, 1)] ?_
      refine Qf ?_
      have hr6 : (Xm (Ui d) Uj d 0 (s0.1, false)) = .ret (.ret ([], false)) := Z1 hx1 (Q8 h5 (rfl)) hI1.1
      have hr7 : (E0 (Vt d) (List.length d * List.length d + 3) ((List.replicate (Int.toNat (d.length : Int)) (0 : Int)), true)) = .ret ([], false) := SI (Q8 h4 (Gu hr6)) hI0.1
      exact pz [] (show Qu d = _ from Qn h1 (Gu hr7)) (fun z => .tup [(false, [.o 0 z.1]), (false, [.b z.2])])
     ·
      have h5d := of_decide_eq_false h5
      refine Qj ?_
      refine wT 4 0 (.own true 896) s1.1 (fun hw9 hl10 => ?_)
      have hx8 := ng s1.1 k1
      refine sn Qb [0, 2, 3, 4, 5, 6, 8, 16, 17, 18, 45] [] (pN 3 hx8 p0) ?_
      refine ck (decide ((max (Xi d s1.1 (Yf a1.2) 0) (Xi d s1.1 (Xp a1.2) 1)) > (nth s1.1 k1))) (fun h11 => ?_) (fun h11 => ?_)
      ·
       have h11d := of_decide_eq_true h11
       refine tu Qb [(4, .one (.slc (.own true 896) 1 (setRow (eL s1.1) k1 0 [.i (max (Xi d s1.1 (Yf a1.2) 0) (Xi d s1.1 (Xp a1.2) 1))])))] [4, 6, 8, 39] [] [] (pN 3 hx8 p0) ?_
       refine eqn [(4, .o 896 (List.set s1.1 k1 (max (Xi d s1.1 (Yf a1.2) 0) (Xi d s1.1 (Xp a1.2) 1))))] [4] [] [] (by rw [Z0 (y := (max (Xi d s1.1 (Yf a1.2) 0) (Xi d s1.1 (Xp a1.2) 1))) hx8 rfl]; first | done | kernel_rfl) ?_
       refine ru Qb [(5, .b true)] [5] [] [] (p0) ?_
       refine rn Qb [0, 2, 3, 4, 5, 16, 17, 18] [] (pe 0 (Jb (Qv k1 (by omega))) p0) ?_
       exact Exists.intro (List.set s1.1 k1 (max (Xi d s1.1 (Yf a1.2) 0) (Xi d s1.1 (Xp a1.2) 1)), true) (And.intro (Qd (by kernel_rfl)) ⟨Qz hx1 (Qn h5 (Q8 h11 (rfl))) hI1.1, (by first | omega | (simp only [List.length_set]; omega))⟩)
      ·
       have h11d := of_decide_eq_false h11
       refine Qj ?_
       refine qn Qb [0, 2, 3, 4, 5, 16, 17, 18] [] (pe 0 (Jb (Qv k1 (by omega))) p0) ?_
       exact Exists.intro (s1.1, s1.2) (And.intro (Qd (by kernel_rfl)) ⟨Qz hx1 (Qn h5 (Qn h11 (rfl))) hI1.1, (by first | omega | (simp only [List.length_set]; omega))⟩)
    ·
     have hA1_0 := hI1.2
     refine su Qb [(19, .b false)] [] [] [] (pe 0 (Qs (decide_eq_false (p := ((k1 : Nat) : Int) < (d.length : Int)) (by omega))) p0) ?_
     refine Qe ?_
     refine ckF ?_
     refine Q3 ?_
     exact Exists.intro (s1.1, s1.2) (And.intro (Qd (by kernel_rfl)) ⟨Xl hk1 (rfl) hI1.1, by first | omega | (simp only [List.length_set]; omega)⟩)
    ·
     have hD1_0 := hD1.2
     exact Exists.intro (y1.1, y1.2) (And.intro (Qd (by kernel_rfl)) ⟨wn hI0.1 (Q8 h4 (Wf hD1.1 (rfl))), (by first | omega | (simp only [List.length_set]; omega))⟩)
   ·
    refine Q3 ?_
    exact Exists.intro _ (And.intro (Qd (by kernel_rfl)) (wb hI0.1 (Qn h4 (rfl))))
  ·
   refine sn Qb [2, 3] [] (p0) ?_
   refine Qf ?_
   exact pz [] (show Qu d = _ from Qn h1 (Wf hD0 (rfl))) (fun z => .tup [(false, [.o 0 z.1]), (false, [.b z.2])])
end Go.Proofs.YtockoklfegpgeaaGreat
namespace Go.Proofs.YtockoklfegpgeaaGreat
open Go.RowKit
def Low (b : Int) (L : List Int) : Prop := ∀ j, 0 ≤ nth L j ∧ nth L j ≤ b
theorem CF {b w : Int} {i : Nat} {L : List Int} {p : Nat} (hi : i < L.length) (hw : 0 ≤ w ∧ w ≤ 1) (h : Low b L) : Low (b + w) (Pr i L (p, w)) := fun j => by
  rw [Sd _ hi]
  have h1 := h j
  have h2 := h p
  have h3 := h i
  split
  · show 0 ≤ max (nth L i) (nth L p + w) ∧ max (nth L i) (nth L p + w) ≤ b + w; omega
  · omega
theorem AC (d : List Y5) (k0 : Nat) : ∀ (l : List ByteArray) (k : Nat) (s : List Int) (b : Int), k0 < s.length → Low b s → Xm (U2 d k0) H3 l k s = .brk (Bi k0 (Kt d 0 l) s) ∧ Low b (Bi k0 (Kt d 0 l) s)
  | [], k, s, b, _, h => ⟨rfl, h⟩
  | a :: l, k, s, b, hk, h => by
    have hf : U2 d k0 k a s = (bif (decide (0 ≤ Xs d a) && decide (nth s k0 < nth s (Int.toNat (Xs d a)))) then .next (List.set s k0 (nth s (Int.toNat (Xs d a)))) else .next s) := rfl
    simp only [Xm, hf, Kt]
    by_cases h0 : 0 ≤ Xs d a
    · rw [if_pos h0, decide_eq_true h0, Bool.true_and]
      have hb : Low b (Pr k0 s (Int.toNat (Xs d a), 0)) := by have := CF (w := 0) (p := Int.toNat (Xs d a)) hk (by omega) h; simpa using this
      have hbk : Bi k0 ((Int.toNat (Xs d a), 0) :: Kt d 0 l) s = Bi k0 (Kt d 0 l) (Pr k0 s (Int.toNat (Xs d a), 0)) := rfl
      rw [hbk]
      have ih := AC d k0 l (k + 1) (Pr k0 s (Int.toNat (Xs d a), 0)) b (by rw [Ig]; exact hk) hb
      by_cases h1 : nth s k0 < nth s (Int.toNat (Xs d a))
      · have e : Pr k0 s (Int.toNat (Xs d a), 0) = List.set s k0 (nth s (Int.toNat (Xs d a))) := by unfold Pr; simp [h1]
        rw [decide_eq_true h1, cond_true]
        rw [e] at ih ⊢; exact ih
      · have e : Pr k0 s (Int.toNat (Xs d a), 0) = s := by unfold Pr; simp [h1]
        rw [decide_eq_false h1, cond_false]
        rw [e] at ih ⊢; exact ih
    · rw [if_neg h0, decide_eq_false h0, Bool.false_and, cond_false]
      exact AC d k0 l (k + 1) s b hk h
theorem AD (d : List Y5) (k0 : Nat) : ∀ (l : List ByteArray) (k : Nat) (s : List Int) (b : Int), k0 < s.length → Low b s → b + l.length ≤ 1000000 → Xm (U3 d k0) Cf l k s = .brk (Bi k0 (Kt d 1 l) s) ∧ Low (b + l.length) (Bi k0 (Kt d 1 l) s)
  | [], k, s, b, _, h, _ => ⟨rfl, by show Low (b + ((0 : Nat) : Int)) s; simpa using h⟩
  | a :: l, k, s, b, hk, h, hb => by
    rw [List.length_cons] at hb ⊢
    have hf : U3 d k0 k a s = (bif (decide (0 ≤ Xs d a) && decide (nth s k0 < IntKind.i64.wrap (nth s (Int.toNat (Xs d a)) + 1))) then .next (List.set s k0 (IntKind.i64.wrap (nth s (Int.toNat (Xs d a)) + 1))) else .next s) := rfl
    simp only [Xm, hf, Kt]
    have hl : b + ((l.length + 1 : Nat) : Int) = b + 1 + (l.length : Int) := by omega
    have hw : IntKind.i64.wrap (nth s (Int.toNat (Xs d a)) + 1) = nth s (Int.toNat (Xs d a)) + 1 := IntWalk.i64_in _ (by have := h (Int.toNat (Xs d a)); omega)
    rw [hl] at hb ⊢
    by_cases h0 : 0 ≤ Xs d a
    · rw [if_pos h0, decide_eq_true h0, Bool.true_and, hw]
      have hlow := CF (w := 1) (p := Int.toNat (Xs d a)) hk (by omega) h
      have hbk : Bi k0 ((Int.toNat (Xs d a), 1) :: Kt d 1 l) s = Bi k0 (Kt d 1 l) (Pr k0 s (Int.toNat (Xs d a), 1)) := rfl
      rw [hbk]
      have ih := AD d k0 l (k + 1) (Pr k0 s (Int.toNat (Xs d a), 1)) (b + 1) (by rw [Ig]; exact hk) hlow hb
      by_cases h1 : nth s k0 < nth s (Int.toNat (Xs d a)) + 1
      · have e : Pr k0 s (Int.toNat (Xs d a), 1) = List.set s k0 (nth s (Int.toNat (Xs d a)) + 1) := by unfold Pr; rw [if_pos h1]
        rw [decide_eq_true h1, cond_true]
        rw [e] at ih ⊢; exact ih
      · have e : Pr k0 s (Int.toNat (Xs d a), 1) = s := by unfold Pr; rw [if_neg h1]
        rw [decide_eq_false h1, cond_false]
        rw [e] at ih ⊢; exact ih
    · rw [if_neg h0, decide_eq_false h0, Bool.false_and, cond_false]
      exact AD d k0 l (k + 1) s (b + 1) hk (fun j => by have := h j; omega) hb
theorem Tu (q : List X9) (b : Bool) : ∀ (l : List Bool) (k : Nat) (s : List ByteArray), ∃ t, Xm (Vf q b) Ud l k s = .brk t ∧ t.length ≤ s.length + l.length
  | [], k, s => ⟨s, rfl, by simp⟩
  | a :: l, k, s => by
    simp only [Xm, Vf]
    cases (J5 (nth q k) && (a == b)) with
    | true =>
      obtain ⟨t, h1, h2⟩ := Tu q b l (k + 1) (s ++ [(nth q k).2.2.2.1])
      exact ⟨t, h1, by simp at h2 ⊢; omega⟩
    | false =>
      obtain ⟨t, h1, h2⟩ := Tu q b l (k + 1) s
      exact ⟨t, h1, by simp at h2 ⊢; omega⟩
theorem NR (q : List X9) : List.length (Xo q) ≤ 9 := by
  cases hv : Q1 q with
  | true => have := Nm q; have := (Tk hv).2; omega
  | false => unfold Xo; rw [hv]; simp
theorem Qbt (q : List X9) (b : Bool) : List.length (Vs q b) ≤ 9 := by
  unfold Vs
  obtain ⟨t, h1, h2⟩ := Tu q b (Xo q) 0 []
  rw [h1]
  have h3 := NR q
  have h4 := GY (Lo t)
  rw [VW] at h4
  show (Tl (Lo t)).length ≤ 9
  simp at h2
  omega
theorem IK (i : Nat) (E1 E2 : Vr) (L : List Int) : Bi i (E1 ++ E2) L = Bi i E2 (Bi i E1 L) := List.foldl_append
theorem SY {d : List Y5} {k : Nat} {a : Y5} {s : List Int} {b : Int} (hk : d[k]? = some a) (hs : s.length = d.length) (h : Low b s) (hb : b + 9 ≤ 1000000) : W4 d k a s = .next (Bi k (J3 d k) s) ∧ Low (b + 9) (Bi k (J3 d k) s) := by
  have hkl : k < d.length := (List.getElem?_eq_some_iff.1 hk).1
  have ha : nth d k = a := Lh hk
  obtain ⟨h1, h2⟩ := AC d k (Yf a.2) 0 s b (by omega) h
  have h9 : (Xp a.2).length ≤ 9 := Qbt a.2 true
  obtain ⟨h3, h4⟩ := AD d k (Xp a.2) 0 (Bi k (Kt d 0 (Yf a.2)) s) b (by rw [Fb]; omega) h2 (by omega)
  have he : J3 d k = Kt d 0 (Yf a.2) ++ Kt d 1 (Xp a.2) := by unfold J3; rw [if_pos hkl, ha]
  rw [he, IK]
  refine ⟨?_, fun j => by have := h4 j; omega⟩
  unfold W4
  rw [DZ, EA, h1]
  simp only [Out.on]
  rw [h3]
theorem YS {d : List Y5} : ∀ (l : List Y5) (k : Nat) (s : List Int) (b : Int), d.drop k = l → s.length = d.length → Low b s → b + 9 * l.length ≤ 1000000 → Xm (W4 d) Cg l k s = .brk (Au (J3 d) (List.range' k l.length) s) ∧ Low (b + 9 * l.length) (Au (J3 d) (List.range' k l.length) s)
  | [], k, s, b, _, _, h, _ => ⟨rfl, by show Low (b + 9 * ((0 : Nat) : Int)) s; simpa using h⟩
  | a :: l, k, s, b, hl, hs, h, hb => by
    have hk : d[k]? = some a := by
      have := congrArg (·[0]?) hl
      simpa using this
    have hrest : d.drop (k + 1) = l := by rw [← List.drop_drop, hl]; rfl
    rw [List.length_cons] at hb ⊢
    obtain ⟨h1, h2⟩ := SY hk hs h (by omega)
    have e : b + 9 * ((l.length + 1 : Nat) : Int) = b + 9 + 9 * (l.length : Int) := by omega
    rw [e] at hb ⊢
    obtain ⟨h3, h4⟩ := YS l (k + 1) (Bi k (J3 d k) s) (b + 9) hrest (by rw [Fb]; exact hs) h2 hb
    simp only [Xm, h1, List.range'_succ]
    exact ⟨h3, h4⟩
theorem YT {d : List Y5} {s : List Int} {b : Int} (hs : s.length = d.length) (h : Low b s) (hb : b + 9 * d.length ≤ 1000000) : Vw d s = Au (J3 d) (List.range d.length) s ∧ Low (b + 9 * d.length) (Au (J3 d) (List.range d.length) s) := by
  obtain ⟨h1, h2⟩ := YS d 0 s b rfl hs h hb
  have e1 : List.range' 0 d.length = List.range d.length := (List.range_eq_range' ..).symm
  rw [e1] at h1 h2
  refine ⟨?_, h2⟩
  unfold Vw
  rw [h1]
  rfl
theorem Tv {d : List Y5} (hd : d.length ≤ 5) : ∀ (n k m : Nat), m + n ≤ 1000 → Low (45 * m) (H1 (J3 d) d.length m) → Vz (Et d) Ih n k (H1 (J3 d) d.length m) = .brk (H1 (J3 d) d.length (m + n)) ∧ Low (45 * (m + n)) (H1 (J3 d) d.length (m + n))
  | 0, k, m, _, h => ⟨rfl, by simpa using h⟩
  | n + 1, k, m, hm, h => by
    obtain ⟨h1, h2⟩ := YT (Mm (J3 d) d.length m) h (by omega)
    have e : H1 (J3 d) d.length (m + 1) = Au (J3 d) (List.range d.length) (H1 (J3 d) d.length m) := rfl
    simp only [Vz, Et, h1]
    rw [← e] at h2 ⊢
    have := Tv hd n (k + 1) (m + 1) (by omega) (fun j => by have := h2 j; omega)
    rw [show m + (n + 1) = m + 1 + n by omega]
    refine ⟨this.1, fun j => by have := this.2 j; omega⟩
theorem IL (b : List Int) : ∀ (l : List Int) (k : Nat), l.length = (b.drop k).length → Out.on (Xm (Aw b) Dp l k ()) (fun _ => true) = decide (l = b.drop k)
  | [], k, h => by
    have : b.drop k = [] := List.eq_nil_of_length_eq_zero (by rw [← h]; rfl)
    rw [this]; rfl
  | a :: l, k, h => by
    have hk : k < b.length := by simp only [List.length_cons, List.length_drop] at h; omega
    have hd : b.drop k = nth b k :: b.drop (k + 1) := by
      rw [List.drop_eq_getElem_cons hk, show nth b k = b[k] by simp [nth, List.getD, hk]]
    rw [hd] at h ⊢
    simp only [Xm, Aw]
    by_cases e : a = nth b k
    · rw [show (a != nth b k) = false by simp [e], cond_false, IL b l (k + 1) (by simpa using h)]
      simp [e]
    · rw [show (a != nth b k) = true by simp [e], cond_true]
      simp [e, Out.on]
theorem IM (a b : List Int) (h : a.length = b.length) : V6 a b = decide (a = b) := by
  unfold V6
  rw [show ((a.length : Int) != (b.length : Int)) = false by simp [h], cond_false, IL b a 0 (by simpa using h), List.drop_zero]
theorem H4 (d : List Y5) : Xu d = Qu d := by
  unfold Xu Qu
  rw [← JD]
  cases hv : Jq d with
  | false => rfl
  | true =>
    have h5 := Ff hv
    obtain ⟨hn, _⟩ := Qau ((JD d).symm.trans hv)
    simp only [Bool.not_true, cond_false]
    have hz : H1 (J3 d) d.length 0 = List.replicate (Int.toNat (d.length : Int)) (0 : Int) := by rw [Int.toNat_natCast]; rfl
    have hnn : d.length * d.length ≤ 25 := Nat.le_trans (Nat.mul_le_mul h5 h5) (by decide)
    obtain ⟨h1, h2⟩ := Tv (d := d) h5 (d.length * d.length + 2) 0 0 (by omega) (fun j => by rw [hz, Int.toNat_natCast, Sb]; omega)
    rw [hz, Nat.zero_add] at h1
    rw [Nat.zero_add] at h2
    rw [hn, show Int.toNat (((d.length * d.length + 1 : Nat) : Int) + 1) = d.length * d.length + 2 by omega, h1]
    simp only [Out.on]
    have hlen := Mm (J3 d) d.length (d.length * d.length + 2)
    obtain ⟨h3, _⟩ := YT (d := d) hlen h2 (by omega)
    rw [h3, IM _ _ (by rw [Ns])]
    have hw := Gp (d := d) (f := Ui d) (e := Uj) (F := Vt d) (fun _ _ _ => rfl) (fun _ _ => rfl) (fun _ => rfl) (by omega) (d.length * d.length + 3) (List.replicate d.length 0) true (A7 _).1 (A7 _).2
    have hsome : (P5 (J3 d) d.length d.length (d.length * d.length + 3) (true, List.replicate d.length 0)).isSome = true := by
      have := D3 d h5
      rw [Int.toNat_natCast, hw, Option.isSome_map] at this
      exact this
    obtain ⟨r, hr⟩ := Option.isSome_iff_exists.1 hsome
    unfold E0
    rw [Int.toNat_natCast, hw, hr]
    obtain ⟨h6, h7⟩ := IE (E := J3 d) (n := d.length) (fun i e he => Lr d i e he) hr
    by_cases hfix : Au (J3 d) (List.range d.length) (H1 (J3 d) d.length (d.length * d.length + 2)) = H1 (J3 d) d.length (d.length * d.length + 2)
    · rw [h6 hfix, decide_eq_true hfix]
      rfl
    · rw [h7 hfix, decide_eq_false hfix]
      rfl
end Go.Proofs.YtockoklfegpgeaaGreat
